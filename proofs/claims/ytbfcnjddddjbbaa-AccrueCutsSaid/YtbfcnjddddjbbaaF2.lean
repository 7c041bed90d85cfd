/-
  Each span earns what its days cost, but for a cent: what bordereaulaw14.AccrueEven answers: true, with no condition.
-/
import Derived.Test.YtbfcnjddddjbbaaF1
import Derived.Test.YtbfcnjddddjbbaaB6
namespace Go.Proofs.Ytbfcnjddddjbbaa
open Go Go.Ab Go.RowKit Go.Proofs

noncomputable def CL2 : Cx := cx [(7, cAwake), (8, cWritten), (14, cCurveF), (11, cBetween), (13, cFullS), (15, cSum), (16, cRight)] []
theorem CL2_ok : CxOK Try.prog CL2 := cx_ok mixed ⟨awake_ok, Written_ok, Curve_ok, Between_ok, full04_ok, sum_ok, right_ok, trivial⟩ trivial

def frEv3 (n s : Int) (r : Bool) : Fr (denL [.bool]) :=
  Fr.val (bif bif bif (cAwake.f ()).1 then decide (IntKind.i64.wrap (IntKind.i64.wrap (365 * n) - s) ≤ 365) else false then decide (IntKind.i64.wrap (s - IntKind.i64.wrap (365 * n)) ≤ 365) else false then r else false, ())
def frEv2 (n ne s se : Int) (r : Bool) : Fr (denL [.bool]) :=
  Fr.br (bif bif ne != 0 then true else se != 0 then true else decide (n > 10928961748633879)) (Fr.val (bif bif (cAwake.f ()).1 then ne == 0 else false then se == 0 else false, ())) (frEv3 n s r)
def frEv (x : denP [.d slsT, .d spanT]) : Fr (denL [.bool]) :=
  Fr.br (bif decide ((x.1.length : Int) > 100) then true else !(cFullS.f (x.2.1, ())).1) (Fr.val ((cAwake.f ()).1, ()))
    (Fr.br (bif (cWritten.f (x.1, ())).2.1 != 0 then true else (cCurveF.f (x.1, ())).2.1 != 0) (Fr.val ((cAwake.f ()).1, ()))
      (Fr.need ((curveO x.1).isNone = false → rightS x.2.1 = true → (uptoO (curveF x.1) x.2.1.2.1).2 = 0 ∧ (uptoO (curveF x.1) x.2.1.1).2 = 0)
        (frEv2 (cBetween.f (x.1, x.2.1, ())).1 (cBetween.f (x.1, x.2.1, ())).2.1 (cSum.f ((cCurveF.f (x.1, ())).1, x.2.1, ())).1 (cSum.f ((cCurveF.f (x.1, ())).1, x.2.1, ())).2.1 (cRight.f ((cCurveF.f (x.1, ())).1, ())).1)))

theorem ev_fr : SoundCt Try.prog 6 ⟨[.d slsT, .d spanT], [.bool], fun xs => (frEv xs).get, fun xs => [(frEv xs).ok]⟩ :=
  fn_sound CL2_ok (fn := Try.f6) ([], (0, 0, ()), ()) (by kernel_rfl) (fun c E _ => lam0_ok c 0) (fun x => by kernel_rfl)

theorem clampD_in {d : Int} (h1 : 1 ≤ d) (h2 : d ≤ 292195) : clampD d = d := by
  unfold clampD
  rw [if_neg (show ¬ d < 1 by omega), if_neg (by omega)]

/-- What days between two cost. -/
theorem Sd_split (f : stepT.den) {a b : Int} (h1 : 1 ≤ a) (hab : a ≤ b) (h2 : b ≤ 292195) : Sd f b = Sd f a + dsum f a (b - a).toNat := by
  unfold Sd
  rw [clampD_in (by omega) h2, clampD_in h1 (by omega), show (b - 1).toNat = (a - 1).toNat + (b - a).toNat by omega, dsum_add]
  congr 2
  omega

/-- What is earned on some days, where what is written is told. -/
theorem between_told {l : List sliceT.den} (h : (UptoF l 292195).2 = 0) {a b : Int} {u : Unit} (hr : rightS (a, b, u) = true) :
    ((curveO l).isNone = false → rightS (a, b, u) = true → (uptoO (curveF l) b).2 = 0 ∧ (uptoO (curveF l) a).2 = 0) ∧ BetweenF l (a, b, u) = ((Sd (curveF l) b + 182) / 365 - (Sd (curveF l) a + 182) / 365, 0) := by
  obtain ⟨hc, hp, htop, hall⟩ := upto_told h
  have hu : ∀ d, uptoO (curveF l) d = ((Sd (curveF l) d + 182) / 365, 0) := fun d => by
    have := hall d
    unfold UptoF at this
    rw [if_neg (by rw [hc]; decide)] at this
    exact this
  refine ⟨fun _ _ => by rw [hu, hu]; exact ⟨rfl, rfl⟩, ?_⟩
  unfold BetweenF
  rw [if_neg (by rw [hc, hr]; simp), hu, hu]

theorem ev_plain (l : List sliceT.den) (a b : Int) : (frEv (l, (a, b, ()), ())).ok ∧ (frEv (l, (a, b, ()), ())).get = (true, ()) := by
  by_cases h1 : (bif decide ((l.length : Int) > 100) then true else !(fullS (a, b, ()))) = true
  · refine ⟨⟨fun _ => trivial, fun hc => (by have hc' : (bif decide ((l.length : Int) > 100) then true else !(fullS (a, b, ()))) = false := hc; rw [h1] at hc'; cases hc')⟩, ?_⟩
    show (if (bif decide ((l.length : Int) > 100) then true else !(fullS (a, b, ()))) = true then (true, ()) else _) = _
    rw [h1]
    rfl
  · have h1' : (bif decide ((l.length : Int) > 100) then true else !(fullS (a, b, ()))) = false := by simpa using h1
    have hfull : fullS (a, b, ()) = true := by
      rw [bif_or] at h1'
      simpa using (Bool.or_eq_false_iff.1 h1').2
    obtain ⟨q1, q2, q3⟩ := fullS_iff.1 hfull
    have hright : rightS (a, b, ()) = true := rightS_iff.2 ⟨q1, by omega, q3⟩
    by_cases h2 : (UptoF l 292195).2 = 0
    · obtain ⟨hc, hp, htop, hall⟩ := upto_told h2
      obtain ⟨hok, hB⟩ := between_told h2 hright
      have hC : CurveF l = (curveF l, 0) := if_neg (by rw [hc]; decide)
      have hb2 : (bif (UptoF l 292195).2 != 0 then true else (CurveF l).2 != 0) = false := by rw [h2, hC]; rfl
      have hsp := Sd_split (curveF l) q1 (by omega) q3
      have hnn := dsum_nonneg hp.val (b - a).toNat a
      have ha0 := Sd_nonneg hp a
      have hbt := Int.le_trans (Sd_top hp b) htop
      have hS : sumSt (curveF l) (a, b, ()) = (Sd (curveF l) b - Sd (curveF l) a, 0) := by
        rw [sumSt_days hp q1 q2 q3, if_pos (by omega)]
        congr 1
        omega
      have hfin : ∀ n s : Int, n = (Sd (curveF l) b + 182) / 365 - (Sd (curveF l) a + 182) / 365 → s = Sd (curveF l) b - Sd (curveF l) a → (frEv2 n 0 s 0 (rightSt (curveF l))).ok ∧ (frEv2 n 0 s 0 (rightSt (curveF l))).get = (true, ()) := fun n s hn hs => by
        refine ⟨⟨fun _ => trivial, fun _ => trivial⟩, ?_⟩
        show (if (bif bif (0 : Int) != 0 then true else (0 : Int) != 0 then true else decide (n > 10928961748633879)) = true then (true, ()) else
          ((bif bif bif true then decide (IntKind.i64.wrap (IntKind.i64.wrap (365 * n) - s) ≤ 365) else false then decide (IntKind.i64.wrap (s - IntKind.i64.wrap (365 * n)) ≤ 365) else false then rightSt (curveF l) else false), ())) = _
        by_cases hn2 : n > 10928961748633879
        · rw [decide_eq_true hn2]
          rfl
        · rw [decide_eq_false hn2]
          have w1 : IntKind.i64.wrap (365 * n) = 365 * n := i64w (by omega)
          have w2 : IntKind.i64.wrap (365 * n - s) = 365 * n - s := i64w (by omega)
          have w3 : IntKind.i64.wrap (s - 365 * n) = s - 365 * n := i64w (by omega)
          rw [w1, w2, w3, decide_eq_true (show 365 * n - s ≤ 365 by omega), decide_eq_true (show s - 365 * n ≤ 365 by omega), hp.right]
          rfl
      have hf := hfin _ _ rfl rfl
      have hget : (frEv (l, (a, b, ()), ())).get = (frEv2 (BetweenF l (a, b, ())).1 (BetweenF l (a, b, ())).2 (sumSt (CurveF l).1 (a, b, ())).1 (sumSt (CurveF l).1 (a, b, ())).2 (rightSt (CurveF l).1)).get := by
        show (if (bif decide ((l.length : Int) > 100) then true else !(fullS (a, b, ()))) = true then _ else if (bif (UptoF l 292195).2 != 0 then true else (CurveF l).2 != 0) = true then _ else
          (frEv2 (BetweenF l (a, b, ())).1 (BetweenF l (a, b, ())).2 (sumSt (CurveF l).1 (a, b, ())).1 (sumSt (CurveF l).1 (a, b, ())).2 (rightSt (CurveF l).1)).get) = _
        rw [h1', hb2]
        rfl
      have hok2 : (frEv2 (BetweenF l (a, b, ())).1 (BetweenF l (a, b, ())).2 (sumSt (CurveF l).1 (a, b, ())).1 (sumSt (CurveF l).1 (a, b, ())).2 (rightSt (CurveF l).1)).ok := by
        rw [hB, hC, hS]
        exact hf.1
      refine ⟨⟨fun _ => trivial, fun _ => ⟨fun _ => trivial, fun _ => ⟨hok, hok2⟩⟩⟩, ?_⟩
      rw [hget, hB, hC, hS]
      exact hf.2
    · have hb2 : (bif (UptoF l 292195).2 != 0 then true else (CurveF l).2 != 0) = true := by rw [bif_or]; simp [h2]
      refine ⟨⟨fun _ => trivial, fun _ => ⟨fun _ => trivial, fun hc => (by have hc' : (bif (UptoF l 292195).2 != 0 then true else (CurveF l).2 != 0) = false := hc; rw [hb2] at hc'; cases hc')⟩⟩, ?_⟩
      show (if (bif decide ((l.length : Int) > 100) then true else !(fullS (a, b, ()))) = true then _ else if (bif (UptoF l 292195).2 != 0 then true else (CurveF l).2 != 0) = true then (true, ()) else _) = _
      rw [h1', hb2]
      rfl

theorem even14_ok : SoundCt Try.prog 6 ⟨[.d slsT, .d spanT], [.bool], fun _ => (true, ()), fun _ => []⟩ :=
  conv ev_fr _ _ (fun _ _ x _ _ _ => by
      obtain ⟨l, ⟨a, b, _⟩, _⟩ := x
      exact ⟨(ev_plain l a b).1, (ev_plain l a b).2⟩)

end Go.Proofs.Ytbfcnjddddjbbaa
