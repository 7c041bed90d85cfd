/-
  Parts of a span: bordereauref03.Parts.
-/
import Derived.Test.YtbfcnjddddjbbaaB7
namespace Go.Proofs.Ytbfcnjddddjbbaa
open Go Go.Ab Go.RowKit Go.Proofs

abbrev ptO : Pt := ⟨48, 0, ⟨[(1, .d ints)], [.o 5 31 spanT, .x 2 31 spanT, .r 2 2 0]⟩, ⟨[], [.o 5 31 spanT]⟩, ⟨[], []⟩⟩
noncomputable def ΛI : Nat → St → Option Tr := fun _ => ptI.han Γ5 ptI.M FI

def frO (x : ptO.M.X) : Fr ptO.Out :=
  Fr.br (decide ((cMany.f ((x.2.2.1.1, x.2.2.1.2.1, ()), ())).1 > 0))
    (Fr.need (InvI x.1.1 0)
      (Fr.need
        (x.2.1.length + [((x.2.2.1.1, nextCut x.2.2.1.1 (x.1.1.drop (Int.toNat 0)) x.2.2.1.2.1, ()) : spanT.den)].length ≤ maxLen ∧
          (x.2.1.length + [((x.2.2.1.1, nextCut x.2.2.1.1 (x.1.1.drop (Int.toNat 0)) x.2.2.1.2.1, ()) : spanT.den)].length) * Try.prog.types[31].bytes ≤ 140737488355328)
        (Fr.val (Rd.next ((x.1.1, ()), x.2.1 ++ [(x.2.2.1.1, nextCut x.2.2.1.1 (x.1.1.drop (Int.toNat 0)) x.2.2.1.2.1, ())], (nextCut x.2.2.1.1 (x.1.1.drop (Int.toNat 0)) x.2.2.1.2.1, x.2.2.1.2.1, ()), ())))))
    (Fr.val (Rd.out ((), x.2.1, ())))

theorem semO : Does Try.prog (loopOf Try.f12 0) ptO.M ptO frO :=
  Does.of_run C5_ok (bs := 0) (Λ := ΛI) rfl rfl rfl (fun E => lam_of _ 0 fun i b hb => by
    match i, hb with
    | 0, hb => 
      have e : some innerI = some b := by rw [← hb]; kernel_rfl
      cases e
      exact Does.han C5_ok rfl loopI
    | i + 1, hb => exact absurd (bodyOf_lt hb) (by
      have : loopsIn (loopOf Try.f12 0) = 1 := by kernel_rfl
      omega)) (fun x => by kernel_rfl)

theorem spanBytes : Try.prog.types[31].bytes = 16 := by kernel_rfl

/-- The parts of days, from a up to b. -/
def partsF (l : List Int) : Nat → Int → Int → List spanT.den
  | 0, _, _ => []
  | n + 1, a, b => if a < b then (a, nextCut a l b, ()) :: partsF l n (nextCut a l b) b else []

theorem nextCut_le (a : Int) : (l : List Int) → (n : Int) → a < n → a < nextCut a l n ∧ nextCut a l n ≤ n
  | [], _, h => ⟨h, Int.le_refl _⟩
  | x :: l, n, h => by
    unfold nextCut
    by_cases hc : (decide (x > a) && decide (x < n)) = true
    · rw [if_pos hc]
      simp only [Bool.and_eq_true, decide_eq_true_eq] at hc
      have := nextCut_le a l x (by omega)
      omega
    · rw [if_neg hc]
      exact nextCut_le a l n h

structure InvO (l : List Int) (out : List spanT.den) (a b : Int) : Prop where
  big : (l.length : Int) ≤ 9223372036854775807
  room : rightS (a, b, ()) = true → (out.length : Int) + (b - a) ≤ 300000

/-- The parts of a span. -/
def partsO (l : List Int) (a b : Int) : List spanT.den := if rightS (a, b, ()) = true then partsF l (b - a).toNat a b else []

def FO (x : ptO.M.X) : Fr ptO.Out :=
  Fr.need (InvO x.1.1 x.2.1 x.2.2.1.1 x.2.2.1.2.1) (Fr.val (Rd.out ((), x.2.1 ++ partsO x.1.1 x.2.2.1.1 x.2.2.1.2.1, ())))

theorem partsF_end (l : List Int) (n : Nat) (b : Int) : partsF l n b b = [] := by
  cases n with
  | zero => rfl
  | succ n => unfold partsF; rw [if_neg (by omega)]

/-- More steps than days make no other parts. -/
theorem partsF_fuel (l : List Int) (b : Int) : (n m : Nat) → (a : Int) → a ≤ b → (b - a).toNat ≤ n → (b - a).toNat ≤ m → partsF l n a b = partsF l m a b
  | 0, m, a, h, h1, _ => by
    have : a = b := by omega
    subst this
    rw [partsF_end, partsF_end]
  | n + 1, 0, a, h, _, h2 => by
    have : a = b := by omega
    subst this
    rw [partsF_end, partsF_end]
  | n + 1, m + 1, a, h, h1, h2 => by
    unfold partsF
    by_cases hab : a < b
    · rw [if_pos hab, if_pos hab]
      have hn := nextCut_le a l b hab
      rw [partsF_fuel l b n m (nextCut a l b) hn.2 (by omega) (by omega)]
    · rw [if_neg hab, if_neg hab]

theorem partsF_step (l : List Int) {a b : Int} (h : a < b) : partsF l (b - a).toNat a b = (a, nextCut a l b, ()) :: partsF l (b - nextCut a l b).toNat (nextCut a l b) b := by
  obtain ⟨n, hn⟩ : ∃ n, (b - a).toNat = n + 1 := ⟨(b - a).toNat - 1, by omega⟩
  have hc := nextCut_le a l b h
  have e : partsF l (n + 1) a b = if a < b then (a, nextCut a l b, ()) :: partsF l n (nextCut a l b) b else [] := rfl
  rw [hn, e, if_pos h, partsF_fuel l b n (b - nextCut a l b).toNat _ hc.2 (by omega) (Nat.le_refl _)]

theorem partsO_nil (l : List Int) {a b : Int} (h : many (a, b, ()) ≤ 0) : partsO l a b = [] := by
  unfold partsO
  by_cases hr : rightS (a, b, ()) = true
  · have h' := rightS_iff.1 hr
    have hm : many (a, b, ()) = b - a := if_pos hr
    have : a = b := by omega
    subst this
    rw [partsF_end]
    exact if_pos hr
  · exact if_neg hr

theorem lawO (l : List Int) (out : List spanT.den) (a b : Int) (hinv : InvO l out a b) (Q : ptO.Out → Prop)
    (hq : Q (Rd.out ((), out ++ partsO l a b, ()))) :
    (frO ((l, ()), out, (a, b, ()), ())).satP fun
      | .next x' => InvO x'.1.1 x'.2.1 x'.2.2.1.1 x'.2.2.1.2.1 ∧ (x'.2.2.1.2.1 - x'.2.2.1.1).toNat < (b - a).toNat ∧ (FO x').satP Q
      | .out y => Q (.out y)
      | .back z => Q (.back z)
      | .pan p => Q (.pan p) := by
  obtain ⟨h4, h5⟩ := hinv
  refine ⟨fun hi => ?_, fun hi => ?_⟩
  · have hi' : many (a, b, ()) > 0 := of_decide_eq_true hi
    have hr : rightS (a, b, ()) = true := by
      cases hr : rightS (a, b, ()) with
      | true => rfl
      | false =>
        have : many (a, b, ()) = 0 := if_neg (by rw [hr]; decide)
        omega
    obtain ⟨h1, h2, h3⟩ := rightS_iff.1 hr
    have hm : many (a, b, ()) = b - a := if_pos hr
    have hab : a < b := by omega
    have hc := nextCut_le a l b hab
    have hl := h5 hr
    have hp : partsO l a b = (a, nextCut a l b, ()) :: partsF l (b - nextCut a l b).toNat (nextCut a l b) b := by
      rw [← partsF_step l hab]
      exact if_pos hr
    rw [hp] at hq
    generalize hx : nextCut a l b = x at *
    have hr2 : rightS (x, b, ()) = true := rightS_iff.2 ⟨by omega, hc.2, h3⟩
    have hI : InvO l (out ++ [((a, x, ()) : spanT.den)]) x b := ⟨h4, fun _ => by simp only [List.length_append, List.length_cons, List.length_nil]; omega⟩
    refine ⟨⟨Int.le_refl _, by omega, h4⟩, ?_⟩
    show (out.length + [((a, nextCut a l b, ()) : spanT.den)].length ≤ maxLen ∧ (out.length + [((a, nextCut a l b, ()) : spanT.den)].length) * Try.prog.types[31].bytes ≤ 140737488355328) ∧
      InvO l (out ++ [((a, nextCut a l b, ()) : spanT.den)]) (nextCut a l b) b ∧ (b - nextCut a l b).toNat < (b - a).toNat ∧ (FO ((l, ()), out ++ [((a, nextCut a l b, ()) : spanT.den)], (nextCut a l b, b, ()), ())).satP Q
    rw [hx]
    refine ⟨⟨?_, ?_⟩, hI, by omega, hI, ?_⟩
    · simp only [List.length_cons, List.length_nil, maxLen]; omega
    · rw [spanBytes]; simp only [List.length_cons, List.length_nil]; omega
    · show Q (Rd.out ((), (out ++ [((a, x, ()) : spanT.den)]) ++ partsO l x b, ()))
      have hp2 : partsO l x b = partsF l (b - x).toNat x b := if_pos hr2
      rw [List.append_assoc, hp2]
      exact hq
  · have hi' : ¬ many (a, b, ()) > 0 := of_decide_eq_false hi
    rw [partsO_nil l (by omega), List.append_nil] at hq
    exact hq

theorem loopO : Does Try.prog (.loop (loopOf Try.f12 0)) ptO.M ptO FO := by
  refine Does.loop (n := 48) (id := 0) semO (inv := fun x => InvO x.1.1 x.2.1 x.2.2.1.1 x.2.2.1.2.1) (μ := fun x => (x.2.2.1.2.1 - x.2.2.1.1).toNat) ?_ (fun x Q h => h.1)
  rintro ⟨⟨l, _⟩, out, ⟨a, b, _⟩, _⟩ hinv Q hq
  exact lawO l out a b hinv Q hq.2

noncomputable def ΛO : Nat → St → Option Tr := fun _ => ptO.han Γ5 ptO.M FO

theorem right_room {a b : Int} (h : rightS (a, b, ()) = true) : ((0 : Nat) : Int) + (b - a) ≤ 300000 := by
  have := rightS_iff.1 h
  omega

def cParts : Ct := ⟨[.d spanT, .d ints], [.sl spanT], fun x => (partsO x.2.1 x.1.1 x.1.2.1, ()), fun _ => []⟩

theorem parts_ok : SoundCt Try.prog 12 cParts :=
  conv (fn_sound C5_ok (Λ := ΛO) (fn := Try.f12) (ps := [.d spanT, .d ints]) (rs := [.sl spanT]) (fr := fun x => Fr.need (InvO x.2.1 [] x.1.1 x.1.2.1) (Fr.val ([] ++ partsO x.2.1 x.1.1 x.1.2.1, ()))) ((0, 0, ()), [], ()) (by kernel_rfl) (fun c E hc => lam_one hc (by kernel_rfl) (b := loopOf Try.f12 0) (by kernel_rfl) (Does.han C5_ok rfl loopO)) (fun xs => by kernel_rfl)) _ _ fun w F xs vs hr _ => by
    obtain ⟨⟨a, b, _⟩, l, _⟩ := xs
    obtain ⟨v, vs', rfl, hv, hr'⟩ := hr
    obtain ⟨v2, vs2, rfl, hv2, _⟩ := hr'
    have hwf := RepT.wf hv2.2.2
    have hlen : (l.length : Int) ≤ 9223372036854775807 := by
      have := hwf.1
      simp only [maxLen] at this
      omega
    refine ⟨⟨⟨hlen, fun hr => ?_⟩, trivial⟩, ?_⟩
    · exact right_room hr
    · rfl

end Go.Proofs.Ytbfcnjddddjbbaa
