/-
  accrue: Curve, Upto, Written, Between.
-/
import Derived.Test.YtbfcnjddddjbbaaD7
namespace Go.Proofs.Ytbfcnjddddjbbaa
open Go Go.Ab Go.RowKit Go.Proofs

theorem err0 : (0 : Int) ≤ 0 ∧ (0 : Int) ≤ 6 := by decide
theorem err1 : (0 : Int) ≤ 1 ∧ (1 : Int) ≤ 6 := by decide
theorem val0 : (0 : Int) ≤ 0 ∧ (0 : Int) ≤ 4000000000000000000 := by decide
theorem err5 : (0 : Int) ≤ 5 ∧ (5 : Int) ≤ 6 := by decide

theorem evenF_err (a b c : Int) : 0 ≤ (evenF a b c).2 ∧ (evenF a b c).2 ≤ 6 := by
  unfold evenF
  split
  · exact ⟨by decide, by decide⟩
  · split
    · exact ⟨by decide, by decide⟩
    · split
      · exact err5
      · exact err0

theorem evenF_val (a b c : Int) (hc : 0 < c) : 0 ≤ (evenF a b c).1 ∧ (evenF a b c).1 ≤ 4000000000000000000 := by
  unfold evenF
  split
  · exact ⟨by decide, by decide⟩
  · rename_i h
    split
    · exact ⟨by decide, by decide⟩
    · split
      · exact ⟨by decide, by decide⟩
      · have hab : 0 ≤ a * b := Int.mul_nonneg (by omega) (by omega)
        have hq : 0 ≤ a * b / c := Int.ediv_nonneg hab (by omega)
        have : 0 ≤ evenQ (a * b) c := by
          unfold evenQ
          split <;> omega
        exact ⟨this, by show evenQ (a * b) c ≤ _; omega⟩

theorem sumSt_err (f : stepT.den) (s : spanT.den) : 0 ≤ (sumSt f s).2 ∧ (sumSt f s).2 ≤ 6 := by
  unfold sumSt
  split
  · cases sumGo (piecesGo f s.2.1 f.1 s.1) (0, 0)
    · exact err5
    · exact err0
  · exact ⟨by decide, by decide⟩

theorem uptoO_err (f : stepT.den) (d : Int) : 0 ≤ (uptoO f d).2 ∧ (uptoO f d).2 ≤ 6 := by
  unfold uptoO
  split
  · exact ⟨by decide, by decide⟩
  · unfold uptoSE
    split
    · exact sumSt_err _ _
    · split
      · exact evenF_err _ _ _
      · exact err0

theorem uptoO_val (f : stepT.den) (d : Int) : 0 ≤ (uptoO f d).1 ∧ (uptoO f d).1 ≤ 4000000000000000000 := by
  unfold uptoO
  split
  · exact val0
  · unfold uptoSE
    split
    · exact val0
    · split
      · exact val0
      · exact evenF_val _ _ _ (by decide)

theorem uptoO_bad (f : stepT.den) (d : Int) (h : (uptoO f d).2 ≠ 0) : (uptoO f d).1 = 0 := by
  unfold uptoO at *
  split at h
  · exact absurd rfl h
  · rename_i hd
    rw [if_neg hd]
    unfold uptoSE at *
    split at h
    · rename_i he
      rw [if_pos he]
    · rename_i he
      rw [if_neg he]
      split at h
      · rename_i h2
        rw [if_pos h2]
      · exact absurd rfl h

theorem errR {n : Int} (h : 0 ≤ n ∧ n ≤ 6) : inR .i64 n := by
  constructor
  · show (-9223372036854775808 : Int) ≤ n
    omega
  · show n ≤ (9223372036854775807 : Int)
    omega

noncomputable def CP : Cx := cx [] [(19, cCurve), (18, cUpto)]
theorem CP_ok : CxOK Try.prog CP := cx_ok mixed trivial ⟨curve_ok, upto_ok, trivial⟩

/-- accrue.Upto, plainly. -/
def UptoF (l : List sliceT.den) (d : Int) : Int × Int := if (curveO l).isNone = true then (0, 1) else uptoO (curveF l) d
def cUptoF : Ct := ⟨[.d slsT, .d i64], [i64, i64], fun x => ((UptoF x.1 x.2.1).1, (UptoF x.1 x.2.1).2, ()), fun _ => []⟩

def frUpto (x : denP [.d slsT, .d i64]) : Fr (denL [i64, i64]) :=
  Fr.br (cCurve.bad (x.1, ())) (Fr.need (inR .i64 (cCurve.pv (x.1, ())).n) (Fr.val (0, (cCurve.pv (x.1, ())).n, ())))
    (Fr.br (cUpto.bad ((cCurve.f (x.1, ())).1, x.2.1, ()))
      (Fr.need (inR .i64 (cUpto.pv ((cCurve.f (x.1, ())).1, x.2.1, ())).n) (Fr.val (0, (cUpto.pv ((cCurve.f (x.1, ())).1, x.2.1, ())).n, ())))
      (Fr.val ((cUpto.f ((cCurve.f (x.1, ())).1, x.2.1, ())).1, 0, ())))

theorem Upto_ok : SoundCt Try.prog 9 cUptoF :=
  conv (df_sound CP_ok (Λ := lam0) (fn := Try.f9) (fr := frUpto) (ps := [.d slsT, .d i64]) (rs := [i64, i64]) ([], 0, ()) (by kernel_rfl) told_ok (fun c E _ => lam0_ok c 0) (fun x => by kernel_rfl)) _ _ fun w F xs vs hr _ => by
    obtain ⟨l, d, _⟩ := xs
    by_cases hc : (curveO l).isNone = true
    · have hb : cCurve.bad (l, ()) = true := hc
      refine ⟨⟨fun _ => ⟨errR err1, trivial⟩, fun h => (by have h' : cCurve.bad (l, ()) = false := h; rw [hb] at h'; cases h')⟩, ?_⟩
      show (if cCurve.bad (l, ()) = true then ((0 : Int), (1 : Int), ()) else _) = ((UptoF l d).1, (UptoF l d).2, ())
      unfold UptoF
      rw [hb, if_pos rfl, if_pos hc]
    · have hb : cCurve.bad (l, ()) = false := (by show (curveO l).isNone = false; exact Bool.eq_false_iff.2 hc)
      have hU : UptoF l d = uptoO (curveF l) d := if_neg hc
      refine ⟨⟨fun h => (by have h' : cCurve.bad (l, ()) = true := h; rw [hb] at h'; cases h'), fun _ => ⟨fun _ => ⟨errR (uptoO_err _ _), trivial⟩, fun _ => trivial⟩⟩, ?_⟩
      show (if cCurve.bad (l, ()) = true then _ else if (!((uptoO (curveF l) d).2 == 0)) = true then ((0 : Int), (uptoO (curveF l) d).2, ()) else ((uptoO (curveF l) d).1, 0, ())) = ((UptoF l d).1, (UptoF l d).2, ())
      rw [hb, if_neg (by decide), hU]
      by_cases h2 : (uptoO (curveF l) d).2 = 0
      · rw [if_neg (by simp [h2]), h2]
      · rw [if_pos (by simp [h2]), uptoO_bad _ _ h2]

/-- accrue.Written, plainly. -/
def cWritten : Ct := ⟨[.d slsT], [i64, i64], fun x => ((UptoF x.1 292195).1, (UptoF x.1 292195).2, ()), fun _ => []⟩
theorem Written_ok : SoundCt Try.prog 8 cWritten :=
  flat (ps := [.d slsT]) (rs := [i64, i64]) (cx_ok (cs := [(9, cUptoF)]) (ps := []) mixed ⟨Upto_ok, trivial⟩ trivial) (fn := Try.f8) (fr := fun x => Fr.val ((cUptoF.f (x.1, 292195, ())).1, (cUptoF.f (x.1, 292195, ())).2.1, ())) ([], ()) (by kernel_rfl) (fun x => by kernel_rfl) _ _
    (fun _ _ x _ _ _ => ⟨trivial, rfl⟩)

/-- accrue.Curve, plainly. -/
def CurveF (l : List sliceT.den) : stepT.den × Int := if (curveO l).isNone = true then (([], [], ()), 1) else (curveF l, 0)
def cCurveF : Ct := ⟨[.d slsT], [stepT, i64], fun x => ((CurveF x.1).1, (CurveF x.1).2, ()), fun _ => []⟩
def frCurve (x : denP [.d slsT]) : Fr (denL [stepT, i64]) :=
  Fr.br (cCurve.bad (x.1, ())) (Fr.need (inR .i64 (cCurve.pv (x.1, ())).n) (Fr.val (([], [], ()), (cCurve.pv (x.1, ())).n, ()))) (Fr.val ((cCurve.f (x.1, ())).1, 0, ()))

theorem Curve_ok : SoundCt Try.prog 14 cCurveF :=
  conv (df_sound CP_ok (Λ := lam0) (fn := Try.f14) (fr := frCurve) (ps := [.d slsT]) (rs := [stepT, i64]) ([], ()) (by kernel_rfl) told_ok (fun c E _ => lam0_ok c 0) (fun x => by kernel_rfl)) _ _ fun w F xs vs hr _ => by
    obtain ⟨l, _⟩ := xs
    by_cases hc : (curveO l).isNone = true
    · have hb : cCurve.bad (l, ()) = true := hc
      refine ⟨⟨fun _ => ⟨errR err1, trivial⟩, fun _ => trivial⟩, ?_⟩
      show (if cCurve.bad (l, ()) = true then (([], [], ()), (1 : Int), ()) else _) = ((CurveF l).1, (CurveF l).2, ())
      unfold CurveF
      rw [hb, if_pos rfl, if_pos hc]
    · have hb : cCurve.bad (l, ()) = false := (by show (curveO l).isNone = false; exact Bool.eq_false_iff.2 hc)
      refine ⟨⟨fun h => (by have h' : cCurve.bad (l, ()) = true := h; rw [hb] at h'; cases h'), fun _ => trivial⟩, ?_⟩
      show (if cCurve.bad (l, ()) = true then _ else (curveF l, (0 : Int), ())) = ((CurveF l).1, (CurveF l).2, ())
      unfold CurveF
      rw [hb, if_neg (by decide), if_neg hc]

/-- upto, where it doesn't panic. -/
def cUptoC : Ct := ⟨cUpto.ps, cUpto.rs, cUpto.f, fun xs => [cUpto.bad xs = false]⟩
theorem uptoC_ok : SoundCt Try.prog 18 cUptoC :=
  ⟨upto_ok.1, fun w F xs vs hb hr hok => (upto_ok.2 w F xs vs hb hr trivial).mono fun e w' h => h.elim (fun h => h.2) (fun h => by
    have h1 : cUpto.bad xs = false := hok
    have h2 : cUpto.bad xs = true := h.1
    rw [h1] at h2
    cases h2)⟩

noncomputable def CB : Cx := cx [(20, cRightS), (18, cUptoC)] [(19, cCurve), (21, cMust)]
theorem CB_ok : CxOK Try.prog CB := cx_ok mixed ⟨rightS_ok, uptoC_ok, trivial⟩ ⟨curve_ok, must_ok, trivial⟩

def frBetw2 (f : stepT.den) (a b : Int) : Fr (denL [i64, i64]) :=
  Fr.need (cUpto.bad (f, b, ()) = false) (Fr.need (cUpto.bad (f, a, ()) = false) (Fr.val (IntKind.i64.wrap ((cUptoC.f (f, b, ())).1 - (cUptoC.f (f, a, ())).1), 0, ())))
def frBetw (x : denP [.d slsT, .d spanT]) : Fr (denL [i64, i64]) :=
  Fr.br (cCurve.bad (x.1, ())) (Fr.need (inR .i64 (cCurve.pv (x.1, ())).n) (Fr.val (0, (cCurve.pv (x.1, ())).n, ())))
    (Fr.br (!(cRightS.f (x.2.1, ())).1)
      (Fr.br (cMust.bad (1, ())) (Fr.need (inR .i64 (cMust.pv (1, ())).n) (Fr.val (0, (cMust.pv (1, ())).n, ()))) (frBetw2 (cCurve.f (x.1, ())).1 x.2.1.1 x.2.1.2.1))
      (frBetw2 (cCurve.f (x.1, ())).1 x.2.1.1 x.2.1.2.1))

/-- accrue.Between, plainly: where no sum is too great. -/
def BetweenF (l : List sliceT.den) (s : spanT.den) : Int × Int := if (curveO l).isNone = true ∨ rightS s = false then (0, 1) else ((uptoO (curveF l) s.2.1).1 - (uptoO (curveF l) s.1).1, 0)
def cBetween : Ct := ⟨[.d slsT, .d spanT], [i64, i64], fun x => ((BetweenF x.1 x.2.1).1, (BetweenF x.1 x.2.1).2, ()), fun x => [(curveO x.1).isNone = false → rightS x.2.1 = true → (uptoO (curveF x.1) x.2.1.2.1).2 = 0 ∧ (uptoO (curveF x.1) x.2.1.1).2 = 0]⟩

theorem Between_ok : SoundCt Try.prog 11 cBetween :=
  conv (df_sound CB_ok (Λ := lam0) (fn := Try.f11) (fr := frBetw) (ps := [.d slsT, .d spanT]) (rs := [i64, i64]) ([], (0, 0, ()), ()) (by kernel_rfl) told_ok (fun c E _ => lam0_ok c 0) (fun x => by kernel_rfl)) _ _ fun w F xs vs hr hok => by
    obtain ⟨l, s, _⟩ := xs
    by_cases hc : (curveO l).isNone = true
    · have hb : cCurve.bad (l, ()) = true := hc
      refine ⟨⟨fun _ => ⟨errR err1, trivial⟩, fun h => (by have h' : cCurve.bad (l, ()) = false := h; rw [hb] at h'; cases h')⟩, ?_⟩
      show (if cCurve.bad (l, ()) = true then ((0 : Int), (1 : Int), ()) else _) = ((BetweenF l s).1, (BetweenF l s).2, ())
      unfold BetweenF
      rw [hb, if_pos rfl, if_pos (.inl hc)]
    · have hb : cCurve.bad (l, ()) = false := (by show (curveO l).isNone = false; exact Bool.eq_false_iff.2 hc)
      by_cases hs : rightS s = true
      · have hok' : (uptoO (curveF l) s.2.1).2 = 0 ∧ (uptoO (curveF l) s.1).2 = 0 := hok (Bool.eq_false_iff.2 hc) hs
        have hn : (!(cRightS.f (s, ())).1) = false := by show (!(rightS s)) = false; rw [hs]; rfl
        have b1 : cUpto.bad (curveF l, s.2.1, ()) = false := by show (!((uptoO (curveF l) s.2.1).2 == 0)) = false; rw [hok'.1]; rfl
        have b2 : cUpto.bad (curveF l, s.1, ()) = false := by show (!((uptoO (curveF l) s.1).2 == 0)) = false; rw [hok'.2]; rfl
        refine ⟨⟨fun h => (by have h' : cCurve.bad (l, ()) = true := h; rw [hb] at h'; cases h'), fun _ => ⟨fun h => (by have h' : (!(cRightS.f (s, ())).1) = true := h; rw [hn] at h'; cases h'), fun _ => ⟨b1, b2, trivial⟩⟩⟩, ?_⟩
        show (if cCurve.bad (l, ()) = true then _ else if (!(cRightS.f (s, ())).1) = true then _ else (IntKind.i64.wrap ((uptoO (curveF l) s.2.1).1 - (uptoO (curveF l) s.1).1), (0 : Int), ())) = ((BetweenF l s).1, (BetweenF l s).2, ())
        have v1 := uptoO_val (curveF l) s.2.1
        have v2 := uptoO_val (curveF l) s.1
        have hB : BetweenF l s = ((uptoO (curveF l) s.2.1).1 - (uptoO (curveF l) s.1).1, 0) := if_neg (fun h => h.elim hc (fun h => by rw [hs] at h; cases h))
        rw [hb, if_neg (by decide), hn, if_neg (by decide), hB, i64w (by omega)]
      · have hn : (!(cRightS.f (s, ())).1) = true := by show (!(rightS s)) = true; simpa using hs
        refine ⟨⟨fun h => (by have h' : cCurve.bad (l, ()) = true := h; rw [hb] at h'; cases h'), fun _ => ⟨fun _ => ⟨fun _ => ⟨errR err1, trivial⟩, fun h => (by cases h)⟩, fun h => (by have h' : (!(cRightS.f (s, ())).1) = false := h; rw [hn] at h'; cases h')⟩⟩, ?_⟩
        show (if cCurve.bad (l, ()) = true then _ else if (!(cRightS.f (s, ())).1) = true then ((0 : Int), (1 : Int), ()) else _) = ((BetweenF l s).1, (BetweenF l s).2, ())
        have hB : BetweenF l s = (0, 1) := if_pos (.inr (by simpa using hs))
        rw [hb, if_neg (by decide), hn, if_pos rfl, hB]

end Go.Proofs.Ytbfcnjddddjbbaa
