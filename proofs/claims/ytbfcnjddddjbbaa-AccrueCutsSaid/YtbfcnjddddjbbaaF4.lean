/-
  However days are cut, what is earned adds up: what bordereaulaw14.AccrueCuts answers: true, with no condition.
-/
import Derived.Test.YtbfcnjddddjbbaaF2
import Derived.Test.YtbfcnjddddjbbaaB8
namespace Go.Proofs.Ytbfcnjddddjbbaa
open Go Go.Ab Go.RowKit Go.Proofs

noncomputable def CL4 : Cx := cx [(12, cParts), (7, cAwake), (8, cWritten), (11, cBetween), (10, cRightS)] []
theorem CL4_ok : CxOK Try.prog CL4 := cx_ok mixed ⟨parts_ok, awake_ok, Written_ok, Between_ok, right03_ok, trivial⟩ trivial

abbrev ptCu : Pt := ⟨122, 0, ⟨[(0, .d slsT), (17, .d (.sl spanT)), (18, .d i64), (19, .d i64), (7, .d .bool), (9, .d i64), (11, .d i64), (12, .d i64), (13, .d i64), (14, .d i64), (15, .d i64), (16, .d i64)], []⟩,
  ⟨[(18, .d i64), (7, .d .bool), (9, .d i64), (11, .d i64), (12, .d i64), (13, .d i64), (14, .d i64), (15, .d i64), (16, .d i64)], []⟩, ⟨[(6, .d .bool)], []⟩⟩

def frCu2 (l : List sliceT.den) (ps : List spanT.den) (s i : Int) (t : spanT.den) (r : denP [.d .bool, .d i64, .d i64, .d i64, .d i64, .d i64, .d i64, .d i64]) : Fr ptCu.Out :=
  Fr.need ((curveO l).isNone = false → rightS (t.1, t.2.1, ()) = true → (uptoO (curveF l) t.2.1).2 = 0 ∧ (uptoO (curveF l) t.1).2 = 0)
    (Fr.br (bif (cBetween.f (l, (t.1, t.2.1, ()), ())).2.1 != 0 then true else decide ((cBetween.f (l, (t.1, t.2.1, ()), ())).1 < 0))
      (Fr.val (Rd.back ((false, ()), ())))
      (Fr.val (Rd.next ((l, ps, IntKind.i64.wrap (s + (cBetween.f (l, (t.1, t.2.1, ()), ())).1), IntKind.i64.wrap (i + 1), r.1, r.2.1, r.2.2.1, r.2.2.2.1, r.2.2.2.2.1, r.2.2.2.2.2.1, r.2.2.2.2.2.2.1, r.2.2.2.2.2.2.2.1, ()), ()))))

def frCu (x : ptCu.M.X) : Fr ptCu.Out :=
  Fr.br (decide (x.1.2.2.2.1 < x.1.2.1.length))
    (Fr.need (0 ≤ x.1.2.2.2.1 ∧ x.1.2.2.2.1 < x.1.2.1.length)
      (frCu2 x.1.1 x.1.2.1 x.1.2.2.1 x.1.2.2.2.1 (x.1.2.1.getD x.1.2.2.2.1.toNat spanT.dflt) x.1.2.2.2.2))
    (Fr.val (Rd.out ((x.1.2.2.1, x.1.2.2.2.2.1, x.1.2.2.2.2.2.1, x.1.2.2.2.2.2.2.1, x.1.2.2.2.2.2.2.2.1, x.1.2.2.2.2.2.2.2.2.1, x.1.2.2.2.2.2.2.2.2.2.1, x.1.2.2.2.2.2.2.2.2.2.2.1, x.1.2.2.2.2.2.2.2.2.2.2.2.1, ()), ())))

theorem semCu : Does Try.prog (loopF Try.f5 0) ptCu.M ptCu frCu :=
  Does.of_run CL4_ok (bs := 0) (Λ := lam0) rfl rfl rfl (fun E => lam0_ok _ 0) (fun x => by kernel_rfl)

/-- What is earned up to a day. -/
def earn (l : List sliceT.den) (d : Int) : Int := (Sd (curveF l) d + 182) / 365

def tele (l : List sliceT.den) : List spanT.den → Int
  | [] => 0
  | t :: ps => (earn l t.2.1 - earn l t.1) + tele l ps

structure InvCu (l : List sliceT.den) (ps : List spanT.den) (s i : Int) : Prop where
  told : (UptoF l 292195).2 = 0
  lo : 0 ≤ i
  hi : i ≤ ps.length
  big : (ps.length : Int) ≤ 300000
  chain : ∃ (cs : List Int) (a b : Int), rightS (a, b, ()) = true ∧ ps.drop i.toNat = partsF cs (b - a).toNat a b ∧ 0 ≤ s ∧ s ≤ earn l a

def FCu (x : ptCu.M.X) : Fr ptCu.Out :=
  Fr.need (InvCu x.1.1 x.1.2.1 x.1.2.2.1 x.1.2.2.2.1)
    (Fr.val (Rd.out ((x.1.2.2.1 + tele x.1.1 (x.1.2.1.drop x.1.2.2.2.1.toNat), x.1.2.2.2.2.1, x.1.2.2.2.2.2.1, x.1.2.2.2.2.2.2.1, x.1.2.2.2.2.2.2.2.1, x.1.2.2.2.2.2.2.2.2.1, x.1.2.2.2.2.2.2.2.2.2.1, x.1.2.2.2.2.2.2.2.2.2.2.1, x.1.2.2.2.2.2.2.2.2.2.2.2.1, ()), ())))

theorem earn_mono {l : List sliceT.den} (h : (UptoF l 292195).2 = 0) {a b : Int} (h1 : 1 ≤ a) (h2 : a ≤ b) (h3 : b ≤ 292195) : 0 ≤ earn l a ∧ earn l a ≤ earn l b ∧ earn l b ≤ 11000000000000000 := by
  obtain ⟨hc, hp, htop, hall⟩ := upto_told h
  have hsp := Sd_split (curveF l) h1 h2 h3
  have hnn := dsum_nonneg hp.val (b - a).toNat a
  have ha0 := Sd_nonneg hp a
  have hbt := Int.le_trans (Sd_top hp b) htop
  unfold earn
  omega

theorem lawCu (l : List sliceT.den) (ps : List spanT.den) (s i : Int) (r : denP [.d .bool, .d i64, .d i64, .d i64, .d i64, .d i64, .d i64, .d i64]) (hinv : InvCu l ps s i) (Q : ptCu.Out → Prop)
    (hq : Q (Rd.out ((s + tele l (ps.drop i.toNat), r.1, r.2.1, r.2.2.1, r.2.2.2.1, r.2.2.2.2.1, r.2.2.2.2.2.1, r.2.2.2.2.2.2.1, r.2.2.2.2.2.2.2.1, ()), ()))) :
    (frCu ((l, ps, s, i, r), ())).satP fun
      | .next x' => InvCu x'.1.1 x'.1.2.1 x'.1.2.2.1 x'.1.2.2.2.1 ∧ ((x'.1.2.1.length : Int) - x'.1.2.2.2.1).toNat < ((ps.length : Int) - i).toNat ∧ (FCu x').satP Q
      | .out y => Q (.out y)
      | .back z => Q (.back z)
      | .pan p => Q (.pan p) := by
  obtain ⟨h1, h2, h3, h4, cs, a, b, hr, hd, hs0, hs1⟩ := hinv
  refine ⟨fun hi => ?_, fun hi => ?_⟩
  · have hi' : i < ps.length := of_decide_eq_true hi
    have hl : i.toNat < ps.length := by omega
    have e1 : ps.drop i.toNat = ps[i.toNat] :: ps.drop (i.toNat + 1) := List.drop_eq_getElem_cons hl
    have g1 : ps.getD i.toNat spanT.dflt = ps[i.toNat] := by rw [List.getD_eq_getElem?_getD, List.getElem?_eq_getElem hl]; rfl
    obtain ⟨q1, q2, q3⟩ := rightS_iff.1 hr
    have hab : a < b := by
      apply Classical.byContradiction
      intro hn
      have : a = b := by omega
      subst this
      rw [partsF_end, e1] at hd
      cases hd
    have hc := nextCut_le a cs b hab
    rw [partsF_step cs hab, e1] at hd
    generalize hx : nextCut a cs b = x at *
    have hh : ps[i.toNat] = ((a, x, ()) : spanT.den) := (List.cons.inj hd).1
    have ht : ps.drop (i.toNat + 1) = partsF cs (b - x).toNat x b := (List.cons.inj hd).2
    rw [e1, hh] at hq
    have hr2 : rightS (a, x, ()) = true := rightS_iff.2 ⟨q1, by omega, by omega⟩
    have hr3 : rightS (x, b, ()) = true := rightS_iff.2 ⟨by omega, by omega, q3⟩
    obtain ⟨hok, hB⟩ := between_told h1 hr2
    have hm := earn_mono h1 q1 (show a ≤ x by omega) (show x ≤ 292195 by omega)
    have hw : IntKind.i64.wrap (i + 1) = i + 1 := IntWalk.i64_in _ (by omega)
    have hn : (i + 1).toNat = i.toNat + 1 := by omega
    have hB' : BetweenF l (a, x, ()) = (earn l x - earn l a, 0) := hB
    refine ⟨⟨h2, hi'⟩, ?_⟩
    show (frCu2 l ps s i (ps.getD i.toNat spanT.dflt) r).satP _
    rw [g1, hh]
    have hws : IntKind.i64.wrap (s + (earn l x - earn l a)) = s + (earn l x - earn l a) := i64w (by omega)
    have hbr : (bif (BetweenF l (a, x, ())).2 != 0 then true else decide ((BetweenF l (a, x, ())).1 < 0)) = false := by
      rw [hB']
      show (bif (0 : Int) != 0 then true else decide (earn l x - earn l a < 0)) = false
      rw [decide_eq_false (show ¬ earn l x - earn l a < 0 by omega)]
      rfl
    have hI : InvCu l ps (s + (earn l x - earn l a)) (i + 1) := ⟨h1, by omega, by omega, h4, cs, x, b, hr3, by rw [hn]; exact ht, by omega, by omega⟩
    refine ⟨hok, fun hb => (by have hb' : (bif (BetweenF l (a, x, ())).2 != 0 then true else decide ((BetweenF l (a, x, ())).1 < 0)) = true := hb; rw [hbr] at hb'; cases hb'), fun _ => ?_⟩
    show InvCu l ps (IntKind.i64.wrap (s + (BetweenF l (a, x, ())).1)) (IntKind.i64.wrap (i + 1)) ∧ ((ps.length : Int) - IntKind.i64.wrap (i + 1)).toNat < ((ps.length : Int) - i).toNat ∧
      (FCu ((l, ps, IntKind.i64.wrap (s + (BetweenF l (a, x, ())).1), IntKind.i64.wrap (i + 1), r), ())).satP Q
    rw [hB', hw]
    show InvCu l ps (IntKind.i64.wrap (s + (earn l x - earn l a))) (i + 1) ∧ ((ps.length : Int) - (i + 1)).toNat < ((ps.length : Int) - i).toNat ∧
      (FCu ((l, ps, IntKind.i64.wrap (s + (earn l x - earn l a)), i + 1, r), ())).satP Q
    rw [hws]
    refine ⟨hI, by omega, hI, ?_⟩
    show Q (Rd.out ((s + (earn l x - earn l a) + tele l (ps.drop (i + 1).toNat), r.1, r.2.1, r.2.2.1, r.2.2.2.1, r.2.2.2.2.1, r.2.2.2.2.2.1, r.2.2.2.2.2.2.1, r.2.2.2.2.2.2.2.1, ()), ()))
    have ht2 : s + tele l ((a, x, ()) :: ps.drop (i.toNat + 1)) = s + (earn l x - earn l a) + tele l (ps.drop (i + 1).toNat) := by
      rw [hn]
      show s + ((earn l x - earn l a) + tele l (ps.drop (i.toNat + 1))) = _
      omega
    rw [ht2] at hq
    exact hq
  · have hi' : ¬ i < ps.length := of_decide_eq_false hi
    have hl : ps.drop i.toNat = [] := List.drop_eq_nil_of_le (by omega)
    rw [hl] at hq
    have e0 : s + tele l [] = s := Int.add_zero s
    rw [e0] at hq
    exact hq

theorem loopCu : Does Try.prog (.loop (loopF Try.f5 0)) ptCu.M ptCu FCu := by
  refine Does.loop (n := 122) (id := 0) semCu (inv := fun x => InvCu x.1.1 x.1.2.1 x.1.2.2.1 x.1.2.2.2.1) (μ := fun x => ((x.1.2.1.length : Int) - x.1.2.2.2.1).toNat) ?_ (fun x Q h => h.1)
  rintro ⟨⟨l, ps, s, i, r⟩, _⟩ hinv Q hq
  exact lawCu l ps s i r hinv Q hq.2

noncomputable def ΛCu : Nat → St → Option Tr := fun _ => ptCu.han CL4.Γ ptCu.M FCu

theorem tele_parts (l : List sliceT.den) (cs : List Int) (b : Int) : (n : Nat) → (a : Int) → a ≤ b → (b - a).toNat ≤ n → tele l (partsF cs n a b) = earn l b - earn l a
  | 0, a, h, h1 => by
    have : a = b := by omega
    subst this
    show (0 : Int) = _
    omega
  | n + 1, a, h, h1 => by
    by_cases hab : a < b
    · have hc := nextCut_le a cs b hab
      have e : partsF cs (n + 1) a b = (a, nextCut a cs b, ()) :: partsF cs n (nextCut a cs b) b := if_pos hab
      have ih := tele_parts l cs b n (nextCut a cs b) hc.2 (by omega)
      rw [e]
      show (earn l (nextCut a cs b) - earn l a) + tele l (partsF cs n (nextCut a cs b) b) = _
      rw [ih]
      omega
    · have : a = b := by omega
      subst this
      rw [partsF_end]
      show (0 : Int) = _
      omega

theorem parts_len (cs : List Int) (b : Int) : (n : Nat) → (a : Int) → (partsF cs n a b).length ≤ n
  | 0, a => Nat.le_refl _
  | n + 1, a => by
    have e : partsF cs (n + 1) a b = if a < b then (a, nextCut a cs b, ()) :: partsF cs n (nextCut a cs b) b else [] := rfl
    rw [e]
    split
    · have := parts_len cs b n (nextCut a cs b)
      simp only [List.length_cons]
      omega
    · simp

def frCu3 (n11 n12 n13 n14 n15 n16 w tot : Int) : Fr (denL [.bool]) :=
  Fr.val (bif bif bif bif bif (cAwake.f ()).1 then n12 == 0 else false then n14 == 0 else false then n16 == 0 else false then tot == n11 else false then IntKind.i64.wrap (IntKind.i64.wrap (n13 + n11) + n15) == w else false, ())

def nd (l : List sliceT.den) (a b : Int) : Prop := (curveO l).isNone = false → rightS (a, b, ()) = true → (uptoO (curveF l) b).2 = 0 ∧ (uptoO (curveF l) a).2 = 0

def frCuts (x : denP [.d slsT, .d spanT, .d ints]) : Fr (denL [.bool]) :=
  Fr.br (bif bif decide ((x.1.length : Int) > 100) then true else decide ((x.2.2.1.length : Int) > 60) then true else !(cRightS.f ((x.2.1.1, x.2.1.2.1, ()), ())).1) (Fr.val ((cAwake.f ()).1, ()))
    (Fr.br ((cWritten.f (x.1, ())).2.1 != 0) (Fr.val ((cAwake.f ()).1, ()))
      (Fr.need (nd x.1 x.2.1.1 x.2.1.2.1) (Fr.need (nd x.1 1 x.2.1.1) (Fr.need (nd x.1 x.2.1.2.1 292195)
        (Fr.need (InvCu x.1 (partsO x.2.2.1 x.2.1.1 x.2.1.2.1) 0 0)
          (frCu3 (cBetween.f (x.1, (x.2.1.1, x.2.1.2.1, ()), ())).1 (cBetween.f (x.1, (x.2.1.1, x.2.1.2.1, ()), ())).2.1 (cBetween.f (x.1, (1, x.2.1.1, ()), ())).1 (cBetween.f (x.1, (1, x.2.1.1, ()), ())).2.1
            (cBetween.f (x.1, (x.2.1.2.1, 292195, ()), ())).1 (cBetween.f (x.1, (x.2.1.2.1, 292195, ()), ())).2.1 (cWritten.f (x.1, ())).1 (0 + tele x.1 ((partsO x.2.2.1 x.2.1.1 x.2.1.2.1).drop (Int.toNat 0)))))))))

theorem cuts_fr : SoundCt Try.prog 5 ⟨[.d slsT, .d spanT, .d ints], [.bool], fun xs => (frCuts xs).get, fun xs => [(frCuts xs).ok]⟩ :=
  fn_sound CL4_ok (Λ := ΛCu) (fn := Try.f5) ([], (0, 0, ()), [], ()) (by kernel_rfl) (fun c E hc => lam1f hc (by kernel_rfl) (b := loopF Try.f5 0) (by kernel_rfl) (Does.han CL4_ok rfl loopCu)) (fun x => by kernel_rfl)

theorem earn_1 (l : List sliceT.den) : earn l 1 = 0 := by
  have e : Sd (curveF l) 1 = 0 := rfl
  unfold earn
  rw [e]
  rfl

theorem cuts_plain (l : List sliceT.den) (a b : Int) (cs : List Int) : (frCuts (l, (a, b, ()), cs, ())).ok ∧ (frCuts (l, (a, b, ()), cs, ())).get = (true, ()) := by
  by_cases h1 : (bif bif decide ((l.length : Int) > 100) then true else decide ((cs.length : Int) > 60) then true else !(rightS (a, b, ()))) = true
  · refine ⟨⟨fun _ => trivial, fun hc => (by have hc' : (bif bif decide ((l.length : Int) > 100) then true else decide ((cs.length : Int) > 60) then true else !(rightS (a, b, ()))) = false := hc; rw [h1] at hc'; cases hc')⟩, ?_⟩
    show (if (bif bif decide ((l.length : Int) > 100) then true else decide ((cs.length : Int) > 60) then true else !(rightS (a, b, ()))) = true then (true, ()) else _) = _
    rw [h1]
    rfl
  · have h1' : (bif bif decide ((l.length : Int) > 100) then true else decide ((cs.length : Int) > 60) then true else !(rightS (a, b, ()))) = false := by simpa using h1
    have hright : rightS (a, b, ()) = true := by
      rw [bif_or] at h1'
      simpa using (Bool.or_eq_false_iff.1 h1').2
    obtain ⟨q1, q2, q3⟩ := rightS_iff.1 hright
    by_cases h2 : (UptoF l 292195).2 = 0
    · have hr1 : rightS (1, a, ()) = true := rightS_iff.2 ⟨Int.le_refl _, q1, by omega⟩
      have hr2 : rightS (b, 292195, ()) = true := rightS_iff.2 ⟨by omega, q3, Int.le_refl _⟩
      obtain ⟨k0, B0⟩ := between_told h2 hright
      obtain ⟨k1, B1⟩ := between_told h2 hr1
      obtain ⟨k2, B2⟩ := between_told h2 hr2
      have B0' : BetweenF l (a, b, ()) = (earn l b - earn l a, 0) := B0
      have B1' : BetweenF l (1, a, ()) = (earn l a - earn l 1, 0) := B1
      have B2' : BetweenF l (b, 292195, ()) = (earn l 292195 - earn l b, 0) := B2
      obtain ⟨hc, hp, htop, hall⟩ := upto_told h2
      have hW : (UptoF l 292195).1 = earn l 292195 := by rw [hall]; rfl
      have hP : partsO cs a b = partsF cs (b - a).toNat a b := if_pos hright
      have hlen := parts_len cs b (b - a).toNat a
      have m1 := earn_mono h2 q1 q2 q3
      have m2 := earn_mono h2 (show 1 ≤ b by omega) q3 (Int.le_refl _)
      have hI : InvCu l (partsO cs a b) 0 0 := ⟨h2, Int.le_refl _, by omega, by rw [hP]; omega, cs, a, b, hright, hP, Int.le_refl _, m1.1⟩
      have ht : (0 : Int) + tele l ((partsO cs a b).drop (Int.toNat 0)) = earn l b - earn l a := by
        rw [hP]
        show (0 : Int) + tele l (partsF cs (b - a).toNat a b) = _
        rw [tele_parts l cs b _ a q2 (Nat.le_refl _)]
        omega
      have hb2 : ((UptoF l 292195).2 != 0) = false := by rw [h2]; rfl
      refine ⟨⟨fun _ => trivial, fun _ => ⟨fun _ => trivial, fun _ => ⟨k0, k1, k2, hI, trivial⟩⟩⟩, ?_⟩
      have hget : (frCuts (l, (a, b, ()), cs, ())).get = (frCu3 (BetweenF l (a, b, ())).1 (BetweenF l (a, b, ())).2 (BetweenF l (1, a, ())).1 (BetweenF l (1, a, ())).2 (BetweenF l (b, 292195, ())).1 (BetweenF l (b, 292195, ())).2 (UptoF l 292195).1 (0 + tele l ((partsO cs a b).drop (Int.toNat 0)))).get := by
        show (if (bif bif decide ((l.length : Int) > 100) then true else decide ((cs.length : Int) > 60) then true else !(rightS (a, b, ()))) = true then _ else if ((UptoF l 292195).2 != 0) = true then _ else
          (frCu3 (BetweenF l (a, b, ())).1 (BetweenF l (a, b, ())).2 (BetweenF l (1, a, ())).1 (BetweenF l (1, a, ())).2 (BetweenF l (b, 292195, ())).1 (BetweenF l (b, 292195, ())).2 (UptoF l 292195).1 (0 + tele l ((partsO cs a b).drop (Int.toNat 0)))).get) = _
        rw [h1', hb2]
        rfl
      rw [hget, B0', B1', B2', hW, ht, earn_1]
      show ((bif bif bif bif bif true then (0 : Int) == 0 else false then (0 : Int) == 0 else false then (0 : Int) == 0 else false then (earn l b - earn l a) == (earn l b - earn l a) else false then
        IntKind.i64.wrap (IntKind.i64.wrap ((earn l a - 0) + (earn l b - earn l a)) + (earn l 292195 - earn l b)) == earn l 292195 else false, ()) : denL [.bool]) = (true, ())
      have w1 : IntKind.i64.wrap ((earn l a - 0) + (earn l b - earn l a)) = earn l b := by rw [i64w (by omega)]; omega
      have w2 : IntKind.i64.wrap (earn l b + (earn l 292195 - earn l b)) = earn l 292195 := by rw [i64w (by omega)]; omega
      rw [w1, w2]
      simp
    · have hb2 : ((UptoF l 292195).2 != 0) = true := by simp [h2]
      refine ⟨⟨fun _ => trivial, fun _ => ⟨fun _ => trivial, fun hc => (by have hc' : ((UptoF l 292195).2 != 0) = false := hc; rw [hb2] at hc'; cases hc')⟩⟩, ?_⟩
      show (if (bif bif decide ((l.length : Int) > 100) then true else decide ((cs.length : Int) > 60) then true else !(rightS (a, b, ()))) = true then _ else if ((UptoF l 292195).2 != 0) = true then (true, ()) else _) = _
      rw [h1', hb2]
      rfl

theorem cuts14_ok : SoundCt Try.prog 5 ⟨[.d slsT, .d spanT, .d ints], [.bool], fun _ => (true, ()), fun _ => []⟩ :=
  conv cuts_fr _ _ (fun _ _ x _ _ _ => by
      obtain ⟨l, ⟨a, b, _⟩, cs, _⟩ := x
      exact ⟨(cuts_plain l a b cs).1, (cuts_plain l a b cs).2⟩)

end Go.Proofs.Ytbfcnjddddjbbaa
