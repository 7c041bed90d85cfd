/-
  Earned never falls: for every input the law returns true, with no condition.
-/
import Derived.Test.YtbfcnjddddjbbaaE2
namespace Go.Proofs.Ytbfcnjddddjbbaa
open Go Go.Ab Go.RowKit Go.Proofs

abbrev exL : List sliceT.den := [((1, 366, ()), true, (0, 0, 0, 0, ()), [], 365, ())]
theorem ex1 : UptoF exL 1 = (0, 0) := by kernel_rfl
theorem ex2 : UptoF exL 11 = (10, 0) := by kernel_rfl
theorem ex3 : UptoF exL 292195 = (365, 0) := by kernel_rfl

def cAwake : Ct := ⟨[], [.bool], fun _ => (true, ()), fun _ => []⟩
theorem earn_ok : AllCt Try.prog [(8, cWritten), (9, cUptoF)] := ⟨Written_ok, Upto_ok, trivial⟩
def frAwake (_ : denP []) : Fr (denL [.bool]) :=
  Fr.val (bif bif bif bif bif (cUptoF.f (exL, 1, ())).2.1 == 0 then (cUptoF.f (exL, 11, ())).2.1 == 0 else false then (cWritten.f (exL, ())).2.1 == 0 else false then (cUptoF.f (exL, 1, ())).1 == 0 else false then (cUptoF.f (exL, 11, ())).1 == 10 else false then (cWritten.f (exL, ())).1 == 365 else false, ())
theorem awake_ok : SoundCt Try.prog 7 cAwake :=
  flat (ps := []) (rs := [.bool]) (cx_ok mixed earn_ok (ps := []) trivial) (fn := Try.f7) (fr := frAwake) () (by kernel_rfl) (fun x => by kernel_rfl) _ _
    (fun _ _ x _ _ _ => ⟨trivial, by
      show (bif bif bif bif bif (UptoF exL 1).2 == 0 then (UptoF exL 11).2 == 0 else false then (UptoF exL 292195).2 == 0 else false then (UptoF exL 1).1 == 0 else false then (UptoF exL 11).1 == 10 else false then (UptoF exL 292195).1 == 365 else false, ()) = (true, ())
      rw [ex1, ex2, ex3]
      rfl⟩)

noncomputable def CL1 : Cx := cx [(7, cAwake), (8, cWritten), (9, cUptoF)] []
theorem CL1_ok : CxOK Try.prog CL1 := cx_ok mixed ⟨awake_ok, earn_ok⟩ trivial

def frRises (x : denP [.d slsT, .d i64, .d i64]) : Fr (denL [.bool]) :=
  Fr.br (bif decide ((x.1.length : Int) > 100) then true else decide (x.2.1 > x.2.2.1)) (Fr.val ((cAwake.f ()).1, ()))
    (Fr.br ((cWritten.f (x.1, ())).2.1 != 0) (Fr.val ((cAwake.f ()).1, ()))
      (Fr.val (bif bif bif bif bif (cAwake.f ()).1 then (cUptoF.f (x.1, x.2.1, ())).2.1 == 0 else false then (cUptoF.f (x.1, x.2.2.1, ())).2.1 == 0 else false then decide (0 ≤ (cUptoF.f (x.1, x.2.1, ())).1) else false then
        decide ((cUptoF.f (x.1, x.2.1, ())).1 ≤ (cUptoF.f (x.1, x.2.2.1, ())).1) else false then decide ((cUptoF.f (x.1, x.2.2.1, ())).1 ≤ (cWritten.f (x.1, ())).1) else false, ())))

/-- What is written is told: then what is earned ahead of any day is. -/
theorem upto_told {l : List sliceT.den} (h : (UptoF l 292195).2 = 0) : (curveO l).isNone = false ∧ Pos (curveF l) ∧ Sd (curveF l) 292195 ≤ 4000000000000000000 ∧ ∀ d, UptoF l d = ((Sd (curveF l) d + 182) / 365, 0) := by
  have hc : (curveO l).isNone = false := by
    cases hn : (curveO l).isNone with
    | false => rfl
    | true =>
      unfold UptoF at h
      rw [if_pos hn] at h
      cases h
  have hp := curve_pos hc
  have hU : ∀ d, UptoF l d = uptoO (curveF l) d := fun d => if_neg (by rw [hc]; decide)
  have htop : Sd (curveF l) 292195 ≤ 4000000000000000000 := by
    apply Classical.byContradiction
    intro hn
    rw [hU, uptoO_days hp, if_neg hn] at h
    cases h
  refine ⟨hc, hp, htop, fun d => ?_⟩
  rw [hU, uptoO_days hp, if_pos (Int.le_trans (Sd_top hp d) htop)]

theorem rises_plain (l : List sliceT.den) (a b : Int) : (frRises (l, a, b, ())).ok ∧ (frRises (l, a, b, ())).get = (true, ()) := by
  by_cases h1 : (bif decide ((l.length : Int) > 100) then true else decide (a > b)) = true
  · refine ⟨⟨fun _ => trivial, fun hc => (by have hc' : (bif decide ((l.length : Int) > 100) then true else decide (a > b)) = false := hc; rw [h1] at hc'; cases hc')⟩, ?_⟩
    show (if (bif decide ((l.length : Int) > 100) then true else decide (a > b)) = true then (true, ()) else _) = _
    rw [h1]
    rfl
  · have h1' : (bif decide ((l.length : Int) > 100) then true else decide (a > b)) = false := by simpa using h1
    have hab : a ≤ b := by
      rw [bif_or] at h1'
      have := (Bool.or_eq_false_iff.1 h1').2
      have := of_decide_eq_false this
      omega
    refine ⟨⟨fun _ => trivial, fun _ => ⟨fun _ => trivial, fun _ => trivial⟩⟩, ?_⟩
    show (if (bif decide ((l.length : Int) > 100) then true else decide (a > b)) = true then _ else if ((UptoF l 292195).2 != 0) = true then (true, ()) else
      ((bif bif bif bif bif true then (UptoF l a).2 == 0 else false then (UptoF l b).2 == 0 else false then decide (0 ≤ (UptoF l a).1) else false then decide ((UptoF l a).1 ≤ (UptoF l b).1) else false then decide ((UptoF l b).1 ≤ (UptoF l 292195).1) else false), ())) = _
    rw [h1', if_neg (by decide)]
    by_cases h2 : (UptoF l 292195).2 = 0
    · rw [if_neg (by simp [h2])]
      obtain ⟨hc, hp, htop, hall⟩ := upto_told h2
      rw [hall a, hall b, hall 292195]
      have e1 := Sd_nonneg hp a
      have e2 := Sd_mono hp hab
      have e3 := Sd_top hp b
      have g1 : decide (0 ≤ (Sd (curveF l) a + 182) / 365) = true := decide_eq_true (by omega)
      have g2 : decide ((Sd (curveF l) a + 182) / 365 ≤ (Sd (curveF l) b + 182) / 365) = true := decide_eq_true (by omega)
      have g3 : decide ((Sd (curveF l) b + 182) / 365 ≤ (Sd (curveF l) 292195 + 182) / 365) = true := decide_eq_true (by omega)
      rw [g1, g2, g3]
      rfl
    · rw [if_pos (by simp [h2])]

theorem rises_ok : SoundCt Try.prog 3 ⟨[.d slsT, .d i64, .d i64], [.bool], fun _ => (true, ()), fun _ => []⟩ :=
  flat (ps := [.d slsT, .d i64, .d i64]) (rs := [.bool]) CL1_ok (fn := Try.f3) (fr := frRises) ([], 0, 0, ()) (by kernel_rfl) (fun x => by kernel_rfl) _ _
    (fun _ _ x _ _ _ => by
      obtain ⟨l, a, b, _⟩ := x
      exact rises_plain l a b)

end Go.Proofs.Ytbfcnjddddjbbaa
