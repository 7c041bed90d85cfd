/-
  A slice that is cut in two earns as one: what bordereaulaw14.AccrueOnce answers: true, with no condition.
-/
import Derived.Test.YtbfcnjddddjbbaaF2
namespace Go.Proofs.Ytbfcnjddddjbbaa
open Go Go.Ab Go.RowKit Go.Proofs

/-- A list's slice in two: the same step. -/
theorem curve_two {A B : List sliceT.den} {s x y : sliceT.den} {d : Int} (hn : (curveO (A ++ s :: B)).isNone = false) (hlen : (A ++ s :: B).length ≤ 1000) (hd : (∃ e, fullSl s e = true) → s.1.1 < d ∧ d < s.1.2.1)
    (hx1 : x.1.1 = s.1.1) (hx2 : x.1.2.1 = d) (hx3 : x.2.2.2.2.1 = s.2.2.2.2.1) (hy1 : y.1.1 = d) (hy2 : y.1.2.1 = s.1.2.1) (hy3 : y.2.2.2.2.1 = s.2.2.2.2.1) : curveO (A ++ [x, y] ++ B) = curveO (A ++ s :: B) := by
  have hl1 : (A ++ s :: B).length ≤ 2000 := by omega
  have hl2 : (A ++ [x, y] ++ B).length ≤ 2000 := by simp at hlen ⊢; omega
  unfold curveO at *
  rw [if_pos hl1] at hn ⊢
  rw [if_pos hl2]
  rw [curveGo_E] at hn ⊢
  rw [curveGo_E]
  congr 1
  rw [curveE_append] at hn
  rw [List.append_assoc, curveE_append, curveE_append]
  cases hq : curveE A 1 ([], []) with
  | none => rfl
  | some q =>
    rw [hq] at hn
    obtain ⟨hg, he⟩ := curveE_good good0 (by decide) hq
    have hs : fullSl s q.1 = true := by
      have hn' : ((if fullSl s q.1 = true then curveE B s.1.2.1 (addS q.2 s) else none).map (·.2)).isNone = false := hn
      apply Classical.byContradiction
      intro hc
      rw [if_neg hc] at hn'
      cases hn'
    obtain ⟨d1, d2⟩ := hd ⟨_, hs⟩
    obtain ⟨f1, f2, f3⟩ := addS_two hg he hs d1 d2 hx1 hx2 hx3 hy1 hy2 hy3
    show (if fullSl x q.1 = true then (if fullSl y x.1.2.1 = true then curveE B y.1.2.1 (addS (addS q.2 x) y) else none) else none) = (if fullSl s q.1 = true then curveE B s.1.2.1 (addS q.2 s) else none)
    rw [hx2, if_pos f1, if_pos f2, if_pos hs, f3, hy2]

/-- Each slice of those that are told is full. -/
theorem curve_full {A B : List sliceT.den} {s : sliceT.den} (hn : (curveO (A ++ s :: B)).isNone = false) : ∃ e, 1 ≤ e ∧ fullSl s e = true := by
  unfold curveO at hn
  split at hn
  · rw [curveGo_E, curveE_append] at hn
    cases hq : curveE A 1 ([], []) with
    | none => rw [hq] at hn; cases hn
    | some q =>
      rw [hq] at hn
      refine ⟨q.1, (curveE_good good0 (by decide) hq).2, ?_⟩
      have hn' : ((if fullSl s q.1 = true then curveE B s.1.2.1 (addS q.2 s) else none).map (·.2)).isNone = false := hn
      apply Classical.byContradiction
      intro hc
      rw [if_neg hc] at hn'
      cases hn'
  · cases hn

abbrev u8t : Ty := .int .u8
abbrev u32t : Ty := .int .u32

def onD (s : sliceT.den) (a : Int) : Int := IntKind.i64.wrap (IntKind.i64.wrap (s.1.1 + 1) + (IntKind.i64.wrap a).tmod (IntKind.i64.wrap (IntKind.i64.wrap (s.1.2.1 - s.1.1) - 1)))
def onX (s : sliceT.den) (a : Int) : sliceT.den := ((s.1.1, onD s a, ()), s.2)
def onY (s : sliceT.den) (a : Int) : sliceT.den := ((onD s a, s.1.2.1, ()), s.2)
def onT (l : List sliceT.den) (k : Int) : List sliceT.den := (l.drop (Int.toNat 0)).take (k - 0).toNat
def onR (l : List sliceT.den) (k1 : Int) : List sliceT.den := (l.drop k1.toNat).take ((l.length : Int) - k1).toNat
def onC (l : List sliceT.den) (k k1 : Int) (s : sliceT.den) (a : Int) : List sliceT.den := [] ++ onT l k ++ [onX s a, onY s a] ++ onR l k1

def frOn4 (w u wc ue : Int × Int) : Fr (denL [.bool]) :=
  Fr.val (bif bif bif bif bif (cAwake.f ()).1 then wc.2 == 0 else false then wc.1 == w.1 else false then u.2 == 0 else false then ue.2 == 0 else false then u.1 == ue.1 else false, ())
def pr (x : Int × Int × Unit) : Int × Int := (x.1, x.2.1)
def frOn3 (l : List sliceT.den) (k k1 : Int) (s : sliceT.den) (a d : Int) : Fr (denL [.bool]) :=
  Fr.need (IntKind.i64.wrap (IntKind.i64.wrap (s.1.2.1 - s.1.1) - 1) ≠ 0) (Fr.need (0 ≤ k ∧ k < l.length) (Fr.need (0 ≤ k ∧ k < l.length)
    (Fr.need ((0 : Int) ≤ 0 ∧ 0 ≤ k ∧ k ≤ l.length)
    (Fr.need (([] : List sliceT.den).length + (onT l k).length ≤ maxLen ∧ (([] : List sliceT.den).length + (onT l k).length) * 88 ≤ 140737488355328)
    (Fr.need (([] ++ onT l k).length + [onX s a, onY s a].length ≤ maxLen ∧ (([] ++ onT l k).length + [onX s a, onY s a].length) * 88 ≤ 140737488355328)
    (Fr.need (0 ≤ k1 ∧ k1 ≤ l.length ∧ (l.length : Int) ≤ l.length)
    (Fr.need (([] ++ onT l k ++ [onX s a, onY s a]).length + (onR l k1).length ≤ maxLen ∧ (([] ++ onT l k ++ [onX s a, onY s a]).length + (onR l k1).length) * 88 ≤ 140737488355328)
      (frOn4 (pr (cWritten.f (l, ()))) (pr (cUptoF.f (l, d, ()))) (pr (cWritten.f (onC l k k1 s a, ()))) (pr (cUptoF.f (onC l k k1 s a, d, ()))))))))))) 
def frOn2 (l : List sliceT.den) (k : Int) (s : sliceT.den) (a d : Int) : Fr (denL [.bool]) :=
  Fr.need ((l.length : Int) ≠ 0) (Fr.need (0 ≤ k ∧ k < l.length) (Fr.br (decide (IntKind.i64.wrap (s.1.2.1 - s.1.1) < 2)) (Fr.val ((cAwake.f ()).1, ())) (frOn3 l k (IntKind.i64.wrap (k + 1)) s a d)))
def frOn (x : denP [.d slsT, .d u8t, .d u32t, .d i64]) : Fr (denL [.bool]) :=
  Fr.br (bif decide ((x.1.length : Int) > 98) then true else (x.1.length : Int) == 0) (Fr.val ((cAwake.f ()).1, ()))
    (Fr.br ((cWritten.f (x.1, ())).2.1 != 0) (Fr.val ((cAwake.f ()).1, ()))
      (frOn2 x.1 ((IntKind.i64.wrap x.2.1).tmod (x.1.length : Int)) (x.1.getD ((IntKind.i64.wrap x.2.1).tmod (x.1.length : Int)).toNat sliceT.dflt) x.2.2.1 x.2.2.2.1))

theorem on_fr : SoundCt Try.prog 4 ⟨[.d slsT, .d u8t, .d u32t, .d i64], [.bool], fun xs => (frOn xs).get, fun xs => [(frOn xs).ok]⟩ :=
  fn_sound CL1_ok (fn := Try.f4) ([], 0, 0, 0, ()) (by kernel_rfl) (fun c E _ => lam0_ok c 0) (fun x => by kernel_rfl)

theorem on_plain (l : List sliceT.den) (w a d : Int) (hw : 0 ≤ w ∧ w ≤ 255) (ha : 0 ≤ a ∧ a ≤ 4294967295) : (frOn (l, w, a, d, ())).ok ∧ (frOn (l, w, a, d, ())).get = (true, ()) := by
  by_cases h1 : (bif decide ((l.length : Int) > 98) then true else (l.length : Int) == 0) = true
  · refine ⟨⟨fun _ => trivial, fun hc => (by have hc' : (bif decide ((l.length : Int) > 98) then true else (l.length : Int) == 0) = false := hc; rw [h1] at hc'; cases hc')⟩, ?_⟩
    show (if (bif decide ((l.length : Int) > 98) then true else (l.length : Int) == 0) = true then (true, ()) else _) = _
    rw [h1]
    rfl
  · have h1' : (bif decide ((l.length : Int) > 98) then true else (l.length : Int) == 0) = false := by simpa using h1
    have hlen : 0 < l.length ∧ l.length ≤ 98 := by
      rw [bif_or] at h1'
      obtain ⟨p1, p2⟩ := Bool.or_eq_false_iff.1 h1'
      have p1' := of_decide_eq_false p1
      have p2' : ¬ (l.length : Int) = 0 := by simpa using p2
      omega
    by_cases h2 : (UptoF l 292195).2 = 0
    · obtain ⟨hc, hp, htop, hall⟩ := upto_told h2
      have hwr : IntKind.i64.wrap w = w := i64w (by omega)
      have hk0 : (IntKind.i64.wrap w).tmod (l.length : Int) = w % (l.length : Int) := by rw [hwr]; exact Int.tmod_eq_emod_of_nonneg hw.1
      have hk1 := Int.emod_nonneg w (b := (l.length : Int)) (by omega)
      have hk2 := Int.emod_lt_of_pos w (b := (l.length : Int)) (by omega)
      generalize hK : w % (l.length : Int) = k at hk0 hk1 hk2
      have hkl : k.toNat < l.length := by omega
      have hg1 : l.getD k.toNat sliceT.dflt = l[k.toNat] := by rw [List.getD_eq_getElem?_getD, List.getElem?_eq_getElem hkl]; rfl
      generalize hS : l[k.toNat] = s at hg1
      have hsplit : l = l.take k.toNat ++ s :: l.drop (k.toNat + 1) := by
        conv => lhs; rw [← List.take_append_drop k.toNat l]
        rw [List.drop_eq_getElem_cons hkl, hS]
      have hget : (frOn (l, w, a, d, ())).get = (frOn2 l k s a d).get := by
        show (if (bif decide ((l.length : Int) > 98) then true else (l.length : Int) == 0) = true then _ else if ((UptoF l 292195).2 != 0) = true then _ else (frOn2 l ((IntKind.i64.wrap w).tmod (l.length : Int)) (l.getD ((IntKind.i64.wrap w).tmod (l.length : Int)).toNat sliceT.dflt) a d).get) = _
        rw [h1', if_neg (by decide), if_neg (by simp [h2]), hk0, hg1]
      have hok : (frOn2 l k s a d).ok → (frOn (l, w, a, d, ())).ok := fun h => by
        refine ⟨fun _ => trivial, fun _ => ⟨fun _ => trivial, fun _ => ?_⟩⟩
        show (frOn2 l ((IntKind.i64.wrap w).tmod (l.length : Int)) (l.getD ((IntKind.i64.wrap w).tmod (l.length : Int)).toNat sliceT.dflt) a d).ok
        rw [hk0, hg1]
        exact h
      have main : (frOn2 l k s a d).ok ∧ (frOn2 l k s a d).get = (true, ()) := by
        by_cases h3 : decide (IntKind.i64.wrap (s.1.2.1 - s.1.1) < 2) = true
        · refine ⟨⟨by omega, ⟨hk1, hk2⟩, fun _ => trivial, fun hb => ?_⟩, ?_⟩
          · have hb' : decide (IntKind.i64.wrap (s.1.2.1 - s.1.1) < 2) = false := hb
            rw [h3] at hb'
            cases hb'
          · show (if decide (IntKind.i64.wrap (s.1.2.1 - s.1.1) < 2) = true then (true, ()) else _) = _
            rw [h3]
            rfl
        · obtain ⟨e, he, hf⟩ := curve_full (A := l.take k.toNat) (B := l.drop (k.toNat + 1)) (s := s) (by rw [← hsplit]; exact hc)
          obtain ⟨f1, f2, f3, f4, f5⟩ := fullSl_iff.1 hf
          have key : ∀ b t : Int, e ≤ b → b < t → t ≤ 292195 → ¬ IntKind.i64.wrap (t - b) < 2 → (2 ≤ t - b ∧ IntKind.i64.wrap (IntKind.i64.wrap (t - b) - 1) = t - b - 1) ∧
              (b < IntKind.i64.wrap (IntKind.i64.wrap (b + 1) + (IntKind.i64.wrap a).tmod (IntKind.i64.wrap (IntKind.i64.wrap (t - b) - 1)))) ∧ IntKind.i64.wrap (IntKind.i64.wrap (b + 1) + (IntKind.i64.wrap a).tmod (IntKind.i64.wrap (IntKind.i64.wrap (t - b) - 1))) < t := fun b t g1 g2 g3 g4 => by
            rw [i64w (n := t - b) (by omega)] at g4 ⊢
            rw [i64w (n := t - b - 1) (by omega), i64w (n := b + 1) (by omega), i64w (n := a) (by omega), Int.tmod_eq_emod_of_nonneg ha.1]
            have m1 := Int.emod_nonneg a (b := t - b - 1) (by omega)
            have m2 := Int.emod_lt_of_pos a (b := t - b - 1) (by omega)
            generalize a % (t - b - 1) = m at m1 m2
            rw [i64w (by omega)]
            omega
          have hnot : ¬ IntKind.i64.wrap (s.1.2.1 - s.1.1) < 2 := of_decide_eq_false (Bool.eq_false_iff.2 h3)
          obtain ⟨⟨k1, k2⟩, k3, k4⟩ := key s.1.1 s.1.2.1 f1 f2 f3 hnot
          have hw1 : IntKind.i64.wrap (k + 1) = k + 1 := i64w (by omega)
          have hT : onT l k = l.take k.toNat := by
            unfold onT
            rw [show Int.toNat 0 = 0 from rfl, List.drop_zero, Int.sub_zero]
          have hR : onR l (k + 1) = l.drop (k.toNat + 1) := by
            unfold onR
            rw [show (k + 1).toNat = k.toNat + 1 by omega]
            apply List.take_of_length_le
            simp
            omega
          have hcut : onC l k (k + 1) s a = l.take k.toNat ++ [onX s a, onY s a] ++ l.drop (k.toNat + 1) := by
            unfold onC
            rw [hT, hR, List.nil_append]
          have hcurve : curveO (onC l k (k + 1) s a) = curveO l := by
            rw [hcut]
            conv => rhs; rw [hsplit]
            exact curve_two (d := onD s a) (by rw [← hsplit]; exact hc) (by rw [← hsplit]; omega) (fun _ => ⟨k3, k4⟩) rfl rfl rfl rfl rfl rfl
          have hU : ∀ d, UptoF (onC l k (k + 1) s a) d = UptoF l d := fun d => by
            unfold UptoF curveF
            rw [hcurve]
          have hlT : (onT l k).length ≤ 98 := by rw [hT]; simp; omega
          have hlR : (onR l (k + 1)).length ≤ 98 := by rw [hR]; simp; omega
          refine ⟨⟨by omega, ⟨hk1, hk2⟩, fun _ => trivial, fun _ => ?_⟩, ?_⟩
          · rw [hw1]
            refine ⟨by rw [k2]; omega, ⟨hk1, hk2⟩, ⟨hk1, hk2⟩, ⟨Int.le_refl _, hk1, by omega⟩, ?_, ?_, ⟨by omega, by omega, Int.le_refl _⟩, ?_, trivial⟩
            · simp only [maxLen, List.length_nil]
              omega
            · simp only [maxLen, List.nil_append, List.length_cons, List.length_nil]
              omega
            · simp only [maxLen, List.nil_append, List.length_append, List.length_cons, List.length_nil]
              omega
          · show (if decide (IntKind.i64.wrap (s.1.2.1 - s.1.1) < 2) = true then _ else (frOn3 l k (IntKind.i64.wrap (k + 1)) s a d).get) = _
            rw [if_neg h3, hw1]
            show ((bif bif bif bif bif true then (UptoF (onC l k (k + 1) s a) 292195).2 == 0 else false then (UptoF (onC l k (k + 1) s a) 292195).1 == (UptoF l 292195).1 else false then (UptoF l d).2 == 0 else false then (UptoF (onC l k (k + 1) s a) d).2 == 0 else false then (UptoF l d).1 == (UptoF (onC l k (k + 1) s a) d).1 else false), ()) = _
            rw [hU, hU, hall d, hall 292195]
            simp
      exact ⟨hok main.1, hget.trans main.2⟩
    · have hb2 : ((UptoF l 292195).2 != 0) = true := by simp [h2]
      refine ⟨⟨fun _ => trivial, fun _ => ⟨fun _ => trivial, fun hc => (by have hc' : ((UptoF l 292195).2 != 0) = false := hc; rw [hb2] at hc'; cases hc')⟩⟩, ?_⟩
      show (if (bif decide ((l.length : Int) > 98) then true else (l.length : Int) == 0) = true then _ else if ((UptoF l 292195).2 != 0) = true then (true, ()) else _) = _
      rw [h1', hb2]
      rfl

theorem once_ok : SoundCt Try.prog 4 ⟨[.d slsT, .d u8t, .d u32t, .d i64], [.bool], fun _ => (true, ()), fun _ => []⟩ :=
  conv on_fr _ _ (fun _ _ x _ hr _ => by
      obtain ⟨l, w, a, d, _⟩ := x
      obtain ⟨v1, vs1, rfl, h1, v2, vs2, rfl, h2, v3, vs3, rfl, h3, _⟩ := hr
      have hw : 0 ≤ w ∧ w ≤ 255 := h2.2.2.2
      have ha : 0 ≤ a ∧ a ≤ 4294967295 := h3.2.2.2
      exact ⟨(on_plain l w a d hw ha).1, (on_plain l w a d hw ha).2⟩)

end Go.Proofs.Ytbfcnjddddjbbaa
