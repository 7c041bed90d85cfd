/-
  accrue.curve: the function that it adds by.
-/
import Derived.Test.YtbfcnjddddjbbaaC1
namespace Go.Proofs.Ytbfcnjddddjbbaa
open Go Go.Ab Go.RowKit Go.Proofs

/-- One change more: on a day, a value. -/
def addAV (p : List Int × List Int) (day v : Int) : List Int × List Int :=
  let q := if p.1.getLast? = some day then (p.1.dropLast, p.2.dropLast) else p
  if v ≠ q.2.getLast?.getD 0 ∧ day ≤ 292194 then (q.1 ++ [day], q.2 ++ [v]) else q

section
variable {α : Type}
/-- The piece's tree, with what comes behind left open. -/
def addT2 (at_ val : List Int) (day v : Int) (K : List Int → List Int → Fr α) : Fr α :=
  Fr.br (decide ((val.length : Int) > 0))
    (Fr.need (0 ≤ IntKind.i64.wrap (val.length - 1) ∧ IntKind.i64.wrap (val.length - 1) < val.length)
      (Fr.need ((IntKind.i64.wrap (val.length - 1)).toNat < val.length)
        (Fr.br (bif v != val.getD (IntKind.i64.wrap (val.length - 1)).toNat i64.dflt then decide (day ≤ 292194) else false)
          (Fr.need (at_.length + [day].length ≤ maxLen ∧ (at_.length + [day].length) * 8 ≤ 140737488355328)
            (Fr.need (val.length + [v].length ≤ maxLen ∧ (val.length + [v].length) * 8 ≤ 140737488355328)
              (K (at_ ++ [day]) (val ++ [v]))))
          (K at_ val))))
    (Fr.br (bif v != 0 then decide (day ≤ 292194) else false)
      (Fr.need (at_.length + [day].length ≤ maxLen ∧ (at_.length + [day].length) * 8 ≤ 140737488355328)
        (Fr.need (val.length + [v].length ≤ maxLen ∧ (val.length + [v].length) * 8 ≤ 140737488355328)
          (K (at_ ++ [day]) (val ++ [v]))))
      (K at_ val))

def addT (at_ val : List Int) (day v : Int) (K : List Int → List Int → Fr α) : Fr α :=
  Fr.need (decide ((at_.length : Int) > 0) = true → 0 ≤ IntKind.i64.wrap (at_.length - 1) ∧ IntKind.i64.wrap (at_.length - 1) < at_.length)
    (Fr.need (decide ((at_.length : Int) > 0) = true → (IntKind.i64.wrap (at_.length - 1)).toNat < at_.length)
      (Fr.br (bif decide ((at_.length : Int) > 0) then at_.getD (IntKind.i64.wrap (at_.length - 1)).toNat i64.dflt == day else false)
        (Fr.need (0 ≤ IntKind.i64.wrap (at_.length - 1) ∧ IntKind.i64.wrap (at_.length - 1) ≤ at_.length)
          (Fr.need (0 ≤ IntKind.i64.wrap (at_.length - 1) ∧ IntKind.i64.wrap (at_.length - 1) ≤ val.length)
            (addT2 (at_.take (IntKind.i64.wrap (at_.length - 1)).toNat) (val.take (IntKind.i64.wrap (at_.length - 1)).toNat) day v K)))
        (addT2 at_ val day v K)))

theorem last_getD {l : List Int} (h : 0 < l.length) (hb : l.length < 1000000) : l.getD (IntKind.i64.wrap ((l.length : Int) - 1)).toNat i64.dflt = l.getLast?.getD 0 := by
  rw [i64w (by omega), List.getLast?_eq_getElem?, List.getD_eq_getElem?_getD]
  have : ((l.length : Int) - 1).toNat = l.length - 1 := by omega
  rw [this]
  rfl

theorem addT2_sat {at_ val : List Int} {day v : Int} {K : List Int → List Int → Fr α} {Q : α → Prop} (h1 : at_.length < 1000000) (h2 : val.length < 1000000)
    (h : (if v ≠ val.getLast?.getD 0 ∧ day ≤ 292194 then K (at_ ++ [day]) (val ++ [v]) else K at_ val).satP Q) : (addT2 at_ val day v K).satP Q := by
  have hroom : ∀ (l : List Int) (x : Int), l.length < 1000000 → l.length + [x].length ≤ maxLen ∧ (l.length + [x].length) * 8 ≤ 140737488355328 := fun l x hl => by
    simp only [maxLen, List.length_singleton]
    omega
  by_cases hv : 0 < val.length
  · refine ⟨fun _ => ⟨?_, ?_, ?_, ?_⟩, fun hn => ?_⟩
    · rw [i64w (by omega)]
      omega
    · rw [i64w (by omega)]
      omega
    · intro hb
      rw [last_getD hv h2, bif_and] at hb
      have hb' : v ≠ val.getLast?.getD 0 ∧ day ≤ 292194 := by simpa using hb
      rw [if_pos hb'] at h
      exact ⟨hroom _ _ h1, hroom _ _ h2, h⟩
    · intro hb
      rw [last_getD hv h2, bif_and] at hb
      have hb' : ¬ (v ≠ val.getLast?.getD 0 ∧ day ≤ 292194) := by
        intro hc
        simp [hc.1, hc.2] at hb
      rw [if_neg hb'] at h
      exact h
    · exact absurd (of_decide_eq_false hn) (by omega)
  · have hnil : val = [] := by
      cases val with
      | nil => rfl
      | cons _ _ => simp at hv
    subst hnil
    refine ⟨fun hn => by simp at hn, fun _ => ⟨fun hb => ?_, fun hb => ?_⟩⟩
    · rw [bif_and] at hb
      have hb' : v ≠ ([] : List Int).getLast?.getD 0 ∧ day ≤ 292194 := by simpa using hb
      rw [if_pos hb'] at h
      exact ⟨hroom _ _ h1, hroom _ _ h2, h⟩
    · rw [bif_and] at hb
      have hb' : ¬ (v ≠ ([] : List Int).getLast?.getD 0 ∧ day ≤ 292194) := by
        intro hc
        have h3 : v ≠ 0 := hc.1
        simp [h3, hc.2] at hb
      rw [if_neg hb'] at h
      exact h

theorem addT_sat {at_ val : List Int} {day v : Int} {K : List Int → List Int → Fr α} {Q : α → Prop} (h1 : at_.length < 1000000) (h2 : at_.length = val.length)
    (h : (K (addAV (at_, val) day v).1 (addAV (at_, val) day v).2).satP Q) : (addT at_ val day v K).satP Q := by
  have key : ∀ a b : List Int, a.length < 1000000 → b.length < 1000000 → addAV (at_, val) day v = (if v ≠ b.getLast?.getD 0 ∧ day ≤ 292194 then (a ++ [day], b ++ [v]) else (a, b)) → (addT2 a b day v K).satP Q := fun a b ha hb he => by
    refine addT2_sat ha hb ?_
    rw [he] at h
    by_cases hc : v ≠ b.getLast?.getD 0 ∧ day ≤ 292194
    · rw [if_pos hc] at h ⊢
      exact h
    · rw [if_neg hc] at h ⊢
      exact h
  refine ⟨fun hp => ?_, fun hp => ?_, fun hb => ⟨?_, ?_, ?_⟩, fun hb => ?_⟩
  · have : (at_.length : Int) > 0 := by simpa using hp
    rw [i64w (by omega)]
    omega
  · have : (at_.length : Int) > 0 := by simpa using hp
    rw [i64w (by omega)]
    omega
  · have : (at_.length : Int) > 0 := by
      rw [bif_and] at hb
      simp at hb
      simpa using hb.1
    rw [i64w (by omega)]
    omega
  · have : (at_.length : Int) > 0 := by
      rw [bif_and] at hb
      simp at hb
      simpa using hb.1
    rw [i64w (by omega)]
    omega
  · rw [bif_and] at hb
    obtain ⟨hp, hb⟩ := Bool.and_eq_true_iff.1 hb
    have hp' : 0 < at_.length := by simpa using hp
    rw [last_getD hp' h1] at hb
    have hl : at_.getLast? = some day := by
      have : at_.getLast?.getD 0 = day := by simpa using hb
      rw [List.getLast?_eq_getElem?] at this ⊢
      rw [List.getElem?_eq_getElem (by omega)] at this ⊢
      simpa using this
    have e1 : (IntKind.i64.wrap ((at_.length : Int) - 1)).toNat = at_.length - 1 := by
      rw [i64w (by omega)]
      omega
    rw [e1]
    refine key _ _ (by simp; omega) (by simp; omega) ?_
    unfold addAV
    simp only [hl, if_true, List.dropLast_eq_take, ← h2]
  · rw [bif_and] at hb
    refine key _ _ h1 (by omega) ?_
    have hl : at_.getLast? ≠ some day := by
      intro hl
      have hp' : 0 < at_.length := by
        cases at_ with
        | nil => simp at hl
        | cons _ _ => simp
      have hp : decide ((at_.length : Int) > 0) = true := by simpa using hp'
      rw [hp, last_getD hp' h1, hl] at hb
      simp at hb
    unfold addAV
    simp only [hl, if_false]

end

theorem addAV_len {p : List Int × List Int} (day v : Int) (h : p.1.length = p.2.length) : (addAV p day v).1.length = (addAV p day v).2.length ∧ (addAV p day v).1.length ≤ p.1.length + 1 := by
  unfold addAV
  by_cases hc : p.1.getLast? = some day
  · simp only [hc, if_true]
    split <;> simp <;> omega
  · simp only [hc, if_false]
    split <;> simp <;> omega

/-- What stands while a slice is added. -/
abbrev keepV : List (Tmp × PT) := [(10015, .d i64), (10014, .d i64), (10013, .d slsT), (10005, .d i64)]
abbrev keepM : List MI := [.y 3 45 [(3, i64), (3, i64)], .r 10003 3 0, .g 10004 27 3, .x 7 36 sliceT, .r 10007 7 0, .x 2 45 stepT, .r 10002 2 0]
abbrev ptA : Pt := ⟨65, 0, ⟨keepV, keepM⟩, ⟨[], []⟩, ⟨[], []⟩⟩
abbrev LA : LS := ⟨(0, .d i64) :: (1, .d i64) :: keepV, .r 2 3 0 :: keepM⟩
noncomputable def bodyA : Code := Try.f27.body.getD .skip

def frA (x : LA.X) : Fr ptA.Out :=
  addT x.2.1.1 x.2.1.2.1 x.1.1 x.1.2.1 fun a b => Fr.val (Rd.next (x.1.2.2, (a, b, ()), x.2.2))

theorem cx0_ok : CxOK Try.prog (cx [] []) := cx_ok mixed trivial trivial

theorem semA : Does Try.prog bodyA LA ptA frA :=
  Does.of_run cx0_ok (bs := 80000) (Λ := lam0) rfl rfl rfl (fun E => lam0_ok _ 0) (fun x => by kernel_rfl)

def FA (x : LA.X) : Fr ptA.Out :=
  Fr.need (x.2.1.1.length < 1000000 ∧ x.2.1.1.length = x.2.1.2.1.length)
    (Fr.val (Rd.next (x.1.2.2, ((addAV (x.2.1.1, x.2.1.2.1) x.1.1 x.1.2.1).1, (addAV (x.2.1.1, x.2.1.2.1) x.1.1 x.1.2.1).2, ()), x.2.2)))

theorem doesA : Does Try.prog bodyA LA ptA FA :=
  semA.conv fun x Q h => addT_sat h.1.1 h.1.2 h.2

noncomputable def kA : Nat → FuncId → List AV → St → Option Tr := hanK Try.prog (envF []) 27 Try.f27 LA ptA FA
theorem kA_ok : InlOK Try.prog kA := hanK_ok cx0_ok (c := bodyA) (by kernel_rfl) (by kernel_rfl) rfl rfl doesA

end Go.Proofs.Ytbfcnjddddjbbaa
