/-
  accrue.upto: what is earned ahead of a day.
-/
import Derived.Test.YtbfcnjddddjbbaaD5
import Derived.Test.YtbfcnjddddjbbaaC5
import Derived.Test.YtbfcnjddddjbbaaC3
namespace Go.Proofs.Ytbfcnjddddjbbaa
open Go Go.Ab Go.RowKit Go.Proofs

def clampD (d : Int) : Int := if 292195 < (if d < 1 then 1 else d) then 292195 else (if d < 1 then 1 else d)
theorem clampD_bd (d : Int) : 1 ≤ clampD d ∧ clampD d ≤ 292195 := by
  unfold clampD
  split <;> split <;> omega

noncomputable def CU : Cx := cx [(15, cSum), (26, cEven)] [(21, cMust)]
theorem CU_ok : CxOK Try.prog CU := cx_ok mixed ⟨sum_ok, even_ok, trivial⟩ ⟨must_ok, trivial⟩

def frU2 (s e : Int) : Fr (Oc (denL [i64])) :=
  Fr.br (cMust.bad (e, ())) (Fr.val (Oc.pan (cMust.pv (e, ()))))
    (Fr.need (0 ≤ s → (0 : Int) ≤ 1 → s * 1 < 18446744073709551616)
      (Fr.br (cMust.bad ((cEven.f (s, 1, 365, ())).2.1, ())) (Fr.val (Oc.pan (cMust.pv ((cEven.f (s, 1, 365, ())).2.1, ())))) (Fr.val (Oc.ok ((cEven.f (s, 1, 365, ())).1, ())))))
def frU (x : denP [.d stepT, .d i64]) : Fr (Oc (denL [i64])) :=
  Fr.br (clampD x.2.1 == 1) (Fr.val (Oc.ok (0, ()))) (frU2 (cSum.f (x.1, (1, clampD x.2.1, ()), ())).1 (cSum.f (x.1, (1, clampD x.2.1, ()), ())).2.1)

theorem upto_fp : SoundPc Try.prog 18 ⟨[.d stepT, .d i64], [i64], fun xs => (frU xs).get.val, fun xs => (frU xs).get.bad, fun xs => (frU xs).get.pv, fun xs => [(frU xs).ok]⟩ :=
  fp_sound CU_ok (Λ := lam0) (fn := Try.f18) (([], [], ()), 0, ()) (by kernel_rfl) (fun c E hc => lam0_ok c 0) (fun xs => by kernel_rfl)

/-- What is earned ahead of a day, or why it isn't told. -/
def uptoSE (s e : Int) : Int × Int := if e ≠ 0 then (0, e) else if (evenF s 1 365).2 ≠ 0 then (0, (evenF s 1 365).2) else ((evenF s 1 365).1, 0)
def uptoO (f : stepT.den) (d : Int) : Int × Int := if clampD d = 1 then (0, 0) else uptoSE (sumSt f (1, clampD d, ())).1 (sumSt f (1, clampD d, ())).2

def cUpto : Pc := ⟨[.d stepT, .d i64], [i64], fun x => ((uptoO x.1 x.2.1).1, ()), fun x => !((uptoO x.1 x.2.1).2 == 0), fun x => ⟨24, .i64, (uptoO x.1 x.2.1).2⟩, fun _ => []⟩

theorem sumSt_le (f : stepT.den) (s : spanT.den) : (sumSt f s).1 ≤ 4000000000000000000 := by
  unfold sumSt
  split
  · rename_i h
    obtain ⟨_, _, _, hval⟩ := rightSt_spec h.1
    have hs := fullS_iff.1 h.2
    have hok := piecesGo_ok (f := f) hval (e := s.2.1) hs.2.2 f.1 s.1 hs.1 hs.2.1
    cases hq : sumGo (piecesGo f s.2.1 f.1 s.1) (0, 0) with
    | none => show (0 : Int) ≤ _; decide
    | some q =>
      obtain ⟨j1, j2, j3, j4⟩ := sumGo_inv hok (q := (0, 0)) ⟨by decide, by decide, by decide, by decide⟩ hq
      show q.1 ≤ _
      omega
  · show (0 : Int) ≤ _; decide

theorem frU2_eq {s e : Int} (hs : s ≤ 4000000000000000000) : (frU2 s e).ok ∧ (frU2 s e).get = if (uptoSE s e).2 = 0 then Oc.ok ((uptoSE s e).1, ()) else Oc.pan ⟨24, .i64, (uptoSE s e).2⟩ := by
  by_cases he : e = 0
  · subst he
    have hneed : 0 ≤ s → (0 : Int) ≤ 1 → s * 1 < 18446744073709551616 := fun _ _ => by omega
    by_cases h2 : (evenF s 1 365).2 = 0
    · have hU : uptoSE s 0 = ((evenF s 1 365).1, 0) := by
        unfold uptoSE
        rw [if_neg (fun h => h rfl), if_neg (fun h => h h2)]
      have hb : cMust.bad ((cEven.f (s, 1, 365, ())).2.1, ()) = false := by
        show (!((evenF s 1 365).2 == 0)) = false
        rw [h2]
        rfl
      rw [hU]
      refine ⟨⟨fun hc => (by cases hc), fun _ => ⟨hneed, fun _ => trivial, fun _ => trivial⟩⟩, ?_⟩
      show (if cMust.bad ((cEven.f (s, 1, 365, ())).2.1, ()) = true then _ else Oc.ok ((evenF s 1 365).1, ())) = _
      rw [hb]
      rfl
    · have hU : uptoSE s 0 = (0, (evenF s 1 365).2) := by
        unfold uptoSE
        rw [if_neg (fun h => h rfl), if_pos h2]
      have hb : cMust.bad ((cEven.f (s, 1, 365, ())).2.1, ()) = true := by
        show (!((evenF s 1 365).2 == 0)) = true
        simp [h2]
      rw [hU]
      refine ⟨⟨fun hc => (by cases hc), fun _ => ⟨hneed, fun _ => trivial, fun _ => trivial⟩⟩, ?_⟩
      show (if cMust.bad ((cEven.f (s, 1, 365, ())).2.1, ()) = true then Oc.pan ⟨24, .i64, (evenF s 1 365).2⟩ else _) = _
      rw [hb, if_pos rfl]
      exact (if_neg h2).symm
  · have hU : uptoSE s e = (0, e) := by
      unfold uptoSE
      rw [if_pos he]
    have hb : cMust.bad (e, ()) = true := by
      show (!(e == 0)) = true
      simp [he]
    rw [hU]
    refine ⟨⟨fun _ => trivial, fun hc => (by rw [hb] at hc; cases hc)⟩, ?_⟩
    show (if cMust.bad (e, ()) = true then Oc.pan ⟨24, .i64, e⟩ else _) = _
    rw [hb, if_pos rfl]
    exact (if_neg he).symm

theorem upto_ok : SoundPc Try.prog 18 cUpto :=
  convP upto_fp _ _ _ _ fun w F xs vs hr _ => by
    obtain ⟨f, d, _⟩ := xs
    have key : (frU (f, d, ())).ok ∧ (frU (f, d, ())).get = if (uptoO f d).2 = 0 then Oc.ok ((uptoO f d).1, ()) else Oc.pan ⟨24, .i64, (uptoO f d).2⟩ := by
      unfold uptoO
      by_cases hd : clampD d = 1
      · rw [if_pos hd]
        have hb : (clampD d == 1) = true := by simpa using hd
        refine ⟨⟨fun _ => trivial, fun hc => (by rw [hb] at hc; cases hc)⟩, ?_⟩
        show (if (clampD d == 1) = true then Oc.ok (0, ()) else _) = _
        rw [hb]
        rfl
      · rw [if_neg hd]
        have hb : (clampD d == 1) = false := by simpa using hd
        have h2 := frU2_eq (e := (sumSt f (1, clampD d, ())).2) (sumSt_le f (1, clampD d, ()))
        refine ⟨⟨fun hc => (by rw [hb] at hc; cases hc), fun _ => h2.1⟩, ?_⟩
        show (if (clampD d == 1) = true then _ else (frU2 (sumSt f (1, clampD d, ())).1 (sumSt f (1, clampD d, ())).2).get) = _
        rw [hb, if_neg (by decide), h2.2]
    refine ⟨key.1, ?_, ?_, ?_⟩
    · show (frU (f, d, ())).get.bad = !((uptoO f d).2 == 0)
      rw [key.2]
      by_cases h : (uptoO f d).2 = 0
      · rw [if_pos h, h]
        rfl
      · rw [if_neg h]
        have : ((uptoO f d).2 == 0) = false := by simpa using h
        rw [this]
        rfl
    · intro hb
      have hb' : (!((uptoO f d).2 == 0)) = false := hb
      have h : (uptoO f d).2 = 0 := by simpa using hb'
      show (frU (f, d, ())).get.val = ((uptoO f d).1, ())
      rw [key.2, if_pos h]
      rfl
    · intro hb
      have hb' : (!((uptoO f d).2 == 0)) = true := hb
      have h : ¬ (uptoO f d).2 = 0 := by simpa using hb'
      show (frU (f, d, ())).get.pv = _
      rw [key.2, if_neg h]
      rfl

end Go.Proofs.Ytbfcnjddddjbbaa
