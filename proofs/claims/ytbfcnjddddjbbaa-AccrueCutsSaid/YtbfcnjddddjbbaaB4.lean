/-
  The value of steps on a day.
-/
import Derived.Test.YtbfcnjddddjbbaaB3
namespace Go.Proofs.Ytbfcnjddddjbbaa
open Go Go.Ab Go.RowKit Go.Proofs

/-- How many are not above. -/
def cntLe (l : List Int) (x : Int) : Nat := l.countP fun y => decide (y ≤ x)

theorem cntLe_eq {x : Int} : {l : List Int} → l.Pairwise (· < ·) → cntLe l x = cnt l x + (if l.contains x then 1 else 0)
  | [], _ => rfl
  | a :: r, h => by
    obtain ⟨h1, h2⟩ := List.pairwise_cons.1 h
    have ih := cntLe_eq (x := x) h2
    have hnot : a = x → ¬ x ∈ r := fun he hm => by have := h1 x hm; omega
    unfold cntLe cnt at *
    rw [List.countP_cons, List.countP_cons, ih]
    rcases Int.lt_trichotomy a x with hlt | heq | hgt
    · have : ¬ x = a := by omega
      simp [hlt, Int.le_of_lt hlt, this]
      omega
    · subst heq
      have := hnot rfl
      simp [this]
    · have h3 : ¬ a ≤ x := by omega
      have h4 : ¬ a < x := by omega
      have h5 : ¬ x = a := by omega
      simp [h3, h4, h5]

/-- What the steps say of a day. -/
def valAt (f : stepT.den) (d : Int) : Int := match cntLe f.1 d with
  | 0 => 0
  | k + 1 => f.2.1.getD k 0

def Γ3 : FuncId → Option Ct := fun f => if f = 33 then some cSearch else if f = 25 then some cMoney else none
def C3 : Cx := ⟨Γ3, fun _ => none, fun _ _ _ _ => none⟩
theorem C3_ok : CxOK Try.prog C3 := onlyCt fun f ct h => by
  simp only [Γ3] at h
  split at h
  · rename_i hf; subst hf; cases h; exact search_ok
  · split at h
    · rename_i hf; subst hf; cases h; exact money_ok
    · cases h

def frV (x : denP [.d stepT, .d i64]) : Fr (denL [i64]) :=
  let r := cSearch.f (x.1.1, x.2.1, ())
  Fr.need (x.1.1.Pairwise (· < ·))
    (Fr.br (!r.2.1)
      (Fr.br (decide (IntKind.i64.wrap (r.1 - 1) < 0)) (Fr.val (0, ()))
        (Fr.need (0 ≤ IntKind.i64.wrap (r.1 - 1) ∧ IntKind.i64.wrap (r.1 - 1) < x.1.2.1.length) (Fr.val (x.1.2.1.getD (IntKind.i64.wrap (r.1 - 1)).toNat i64.dflt, ()))))
      (Fr.br (decide (r.1 < 0)) (Fr.val (0, ()))
        (Fr.need (0 ≤ r.1 ∧ r.1 < x.1.2.1.length) (Fr.val (x.1.2.1.getD r.1.toNat i64.dflt, ())))))

theorem value_fr : SoundCt Try.prog 30 ⟨[.d stepT, .d i64], [i64], fun xs => (frV xs).get, fun xs => [(frV xs).ok]⟩ :=
  fn_sound C3_ok (Λ := noΛ) (fn := Try.f30) (([], [], ()), 0, ()) (by kernel_rfl) (fun c E _ => noΛ_ok c 0) (fun xs => by kernel_rfl)

theorem frV_val {at_ val : List Int} {d : Int} (h : at_.Pairwise (· < ·)) (hl : (at_.length : Int) ≤ 9223372036854775807) (hlen : at_.length = val.length) :
    (frV ((at_, val, ()), d, ())).ok ∧ (frV ((at_, val, ()), d, ())).get = (valAt (at_, val, ()) d, ()) := by
  have hle := cnt_le at_ d
  have hcl := cntLe_eq (x := d) h
  have hmem := cnt_mem (x := d) h
  by_cases hc : d ∈ at_
  · have hcb : at_.contains d = true := by simpa using hc
    have hlt : cnt at_ d < at_.length := (List.getElem?_eq_some_iff.1 (hmem.1 hc)).1
    have hv : valAt (at_, val, ()) d = val.getD (cnt at_ d) 0 := by
      unfold valAt
      simp only [hcl, hcb, if_true]
    refine ⟨⟨h, fun hb => ?_, fun _ => ⟨fun hb => ?_, fun _ => ⟨⟨by show (0 : Int) ≤ (cnt at_ d : Int); omega, by show (cnt at_ d : Int) < val.length; omega⟩, trivial⟩⟩⟩, ?_⟩
    · have hb' : (!at_.contains d) = true := hb
      rw [hcb] at hb'
      cases hb'
    · trivial
    · show (if (!at_.contains d) = true then _ else if decide ((cnt at_ d : Int) < 0) = true then ((0 : Int), ()) else (val.getD (Int.toNat (cnt at_ d : Int)) i64.dflt, ())) = _
      have h0 : decide ((cnt at_ d : Int) < 0) = false := by simp
      rw [hcb, h0, hv]
      rfl
  · have hcb : at_.contains d = false := by simpa using hc
    have hw : IntKind.i64.wrap ((cnt at_ d : Int) - 1) = (cnt at_ d : Int) - 1 := IntWalk.i64_in _ (by omega)
    have hv : valAt (at_, val, ()) d = (match cnt at_ d with | 0 => 0 | k + 1 => val.getD k 0) := by
      unfold valAt
      simp only [hcl, hcb, Bool.false_eq_true, if_false, Nat.add_zero]
    refine ⟨⟨h, fun _ => ⟨fun _ => trivial, fun hb => ?_⟩, fun hb => ?_⟩, ?_⟩
    · have hb' : decide (IntKind.i64.wrap ((cnt at_ d : Int) - 1) < 0) = false := hb
      rw [hw] at hb'
      have hb2 : ¬ ((cnt at_ d : Int) - 1 < 0) := by simpa using hb'
      refine ⟨?_, trivial⟩
      show 0 ≤ IntKind.i64.wrap ((cnt at_ d : Int) - 1) ∧ IntKind.i64.wrap ((cnt at_ d : Int) - 1) < val.length
      rw [hw]
      omega
    · have hb' : (!at_.contains d) = false := hb
      rw [hcb] at hb'
      cases hb'
    · show (if (!at_.contains d) = true then (if decide (IntKind.i64.wrap ((cnt at_ d : Int) - 1) < 0) = true then ((0 : Int), ()) else (val.getD (IntKind.i64.wrap ((cnt at_ d : Int) - 1)).toNat i64.dflt, ())) else _) = _
      rw [hcb, hw, hv]
      cases hk : cnt at_ d with
      | zero => rfl
      | succ k =>
        have h0 : decide (((k + 1 : Nat) : Int) - 1 < 0) = false := by simp
        have h1 : (((k + 1 : Nat) : Int) - 1).toNat = k := by omega
        rw [h0, h1]
        rfl

def cValue : Ct := ⟨[.d stepT, .d i64], [i64], fun x => (valAt x.1 x.2.1, ()), fun x => [x.1.1.Pairwise (· < ·), x.1.1.length = x.1.2.1.length]⟩

theorem value_ok : SoundCt Try.prog 30 cValue :=
  conv value_fr _ _ fun w F xs vs hr hok => by
    obtain ⟨⟨at_, val, _⟩, d, _⟩ := xs
    obtain ⟨v, vs', rfl, hv, _⟩ := hr
    have hwf := RepT.wf hv.2.2
    have hlen : (at_.length : Int) ≤ 9223372036854775807 := by
      have := hwf.1.1
      simp only [maxLen] at this
      omega
    exact frV_val hok.1 hlen hok.2

end Go.Proofs.Ytbfcnjddddjbbaa
