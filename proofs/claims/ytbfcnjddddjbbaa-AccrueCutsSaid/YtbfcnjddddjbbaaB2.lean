/-
  Search in a list of rising numbers.
-/
import Derived.Test.YtbfcnjddddjbbaaB1
import Derived.IntWalk
namespace Go.Proofs.Ytbfcnjddddjbbaa
open Go Go.Ab Go.RowKit Go.Proofs

/-- The body of a function's k-th loop. -/
def bodyOf : Code → Nat → Option Code
  | .loop c, 0 => some c
  | .seq a b, k => if k < loopsIn a then bodyOf a k else bodyOf b (k - loopsIn a)
  | .cond _ a b, k => if k < loopsIn a then bodyOf a k else bodyOf b (k - loopsIn a)
  | .block _ c, k => bodyOf c k
  | .scope c, k => bodyOf c k
  | _, _ => none
def loopOf (f : Func) (k : Nat) : Code := (f.body.bind (bodyOf · k)).getD .skip

def Γ2 : FuncId → Option Ct := fun f => if f = 38 then some cNaN else if f = 37 then some cLess else none
def C2 : Cx := ⟨Γ2, fun _ => none, fun _ _ _ _ => none⟩
theorem C2_ok : CxOK Try.prog C2 := onlyCt fun f ct h => by
  simp only [Γ2] at h
  split at h
  · rename_i hf; subst hf; cases h; exact nan1_ok
  · split at h
    · rename_i hf; subst hf; cases h; exact less_ok
    · cases h

/-- How many are below. -/
def cnt (l : List Int) (x : Int) : Nat := l.countP fun y => decide (y < x)

theorem cnt_at {l : List Int} {x : Int} {i : Nat} (h1 : ∀ k y, k < i → l[k]? = some y → y < x) (h2 : ∀ k y, i ≤ k → l[k]? = some y → ¬ y < x) (hi : i ≤ l.length) : cnt l x = i := by
  unfold cnt
  rw [← List.take_append_drop i l, List.countP_append]
  have e1 : (l.take i).countP (fun y => decide (y < x)) = (l.take i).length := by
    rw [List.countP_eq_length]
    intro y hy
    obtain ⟨k, hk⟩ := List.mem_iff_getElem?.1 hy
    rw [List.getElem?_take] at hk
    split at hk
    · rename_i hlt
      simpa using h1 k y hlt hk
    · cases hk
  have e2 : (l.drop i).countP (fun y => decide (y < x)) = 0 := by
    rw [List.countP_eq_zero]
    intro y hy
    obtain ⟨k, hk⟩ := List.mem_iff_getElem?.1 hy
    rw [List.getElem?_drop] at hk
    simpa using h2 (i + k) y (by omega) hk
  rw [e1, e2, List.length_take]
  omega

abbrev ptB : Pt := ⟨54, 0, ⟨[(0, .d ints), (1, .d i64), (6, .d i64), (7, .d i64), (8, .d i64)], []⟩, ⟨[(0, .d ints), (1, .d i64), (6, .d i64), (7, .d i64)], []⟩, ⟨[], []⟩⟩

def mid (i j : Int) : Int := IntKind.i64.wrap ((IntKind.u64.wrap (IntKind.i64.wrap (i + j))).fdiv (2 ^ min (Int.toNat 1) IntKind.u64.bits))

def frB (x : ptB.M.X) : Fr ptB.Out :=
  Fr.br (decide (x.1.2.2.2.1 < x.1.2.2.2.2.1))
    (Fr.need (¬ (1 : Int) < 0)
      (Fr.need (0 ≤ mid x.1.2.2.2.1 x.1.2.2.2.2.1 ∧ mid x.1.2.2.2.1 x.1.2.2.2.2.1 < x.1.1.length)
        (Fr.br (cLess.f (x.1.1.getD (mid x.1.2.2.2.1 x.1.2.2.2.2.1).toNat i64.dflt, x.1.2.1, ())).1
          (Fr.val (Rd.next ((x.1.1, x.1.2.1, x.1.2.2.1, IntKind.i64.wrap (mid x.1.2.2.2.1 x.1.2.2.2.2.1 + 1), x.1.2.2.2.2.1, ()), ())))
          (Fr.val (Rd.next ((x.1.1, x.1.2.1, x.1.2.2.1, x.1.2.2.2.1, mid x.1.2.2.2.1 x.1.2.2.2.2.1, ()), ()))))))
    (Fr.val (Rd.out ((x.1.1, x.1.2.1, x.1.2.2.1, x.1.2.2.2.1, ()), ())))

theorem semB : Does Try.prog (loopOf Try.f33 0) ptB.M ptB frB :=
  Does.of_run C2_ok (bs := 0) (Λ := noΛ) rfl rfl rfl (fun E => noΛ_ok _ 0) (fun x => by kernel_rfl)

theorem mid_eq {i j : Int} (hi : 0 ≤ i) (hij : i ≤ j) (hj : j ≤ 9223372036854775807) : mid i j = (i + j) / 2 := by
  unfold mid
  have h1 : IntKind.u64.wrap (IntKind.i64.wrap (i + j)) = i + j := by
    rw [IntKind.wrap_i64, IntKind.wrap_u64]
    omega
  have h2 : (2 : Int) ^ min (Int.toNat 1) IntKind.u64.bits = 2 := by decide
  rw [h1, h2, Int.fdiv_eq_ediv_of_nonneg _ (by decide), IntWalk.i64_in _ (by omega)]

/-- What holds at the loop's head. -/
structure InvB (l : List Int) (x i j : Int) : Prop where
  lo : 0 ≤ i
  le : i ≤ j
  hi : j ≤ l.length
  big : (l.length : Int) ≤ 9223372036854775807
  up : l.Pairwise (· < ·)
  below : ∀ (k : Nat) (y : Int), (k : Int) < i → l[k]? = some y → y < x
  above : ∀ (k : Nat) (y : Int), j ≤ k → l[k]? = some y → ¬ y < x

def FB (x : ptB.M.X) : Fr ptB.Out :=
  Fr.need (InvB x.1.1 x.1.2.1 x.1.2.2.2.1 x.1.2.2.2.2.1) (Fr.val (Rd.out ((x.1.1, x.1.2.1, x.1.2.2.1, (cnt x.1.1 x.1.2.1 : Int), ()), ())))

theorem up_get {l : List Int} (h : l.Pairwise (· < ·)) {a b : Nat} {y z : Int} (hab : a < b) (ha : l[a]? = some y) (hb : l[b]? = some z) : y < z := by
  obtain ⟨h1, rfl⟩ := List.getElem?_eq_some_iff.1 ha
  obtain ⟨h2, rfl⟩ := List.getElem?_eq_some_iff.1 hb
  exact (List.pairwise_iff_getElem.1 h) a b h1 h2 hab

theorem lawB (l : List Int) (x n i j : Int) (hinv : InvB l x i j) (Q : ptB.Out → Prop) (hQ : Q (Rd.out ((l, x, n, (cnt l x : Int), ()), ()))) :
    (frB ((l, x, n, i, j, ()), ())).satP fun
      | .next x' => InvB x'.1.1 x'.1.2.1 x'.1.2.2.2.1 x'.1.2.2.2.2.1 ∧ (x'.1.2.2.2.2.1 - x'.1.2.2.2.1).toNat < (j - i).toNat ∧ (FB x').satP Q
      | .out y => Q (.out y)
      | .back z => Q (.back z)
      | .pan p => Q (.pan p) := by
  obtain ⟨h1, h2, h3, h4, h5, h6, h7⟩ := hinv
  simp only [frB, Fr.satP, decide_eq_true_eq, decide_eq_false_iff_not]
  refine ⟨fun hij => ?_, fun hij => ?_⟩
  · have hij : i < j := hij
    have hm := mid_eq h1 h2 (by omega)
    have hmid : 0 ≤ (i + j) / 2 ∧ (i + j) / 2 < l.length := by omega
    rw [hm]
    refine ⟨by omega, hmid, ?_⟩
    obtain ⟨y, hy⟩ : ∃ y, l[((i + j) / 2).toNat]? = some y := by
      have : ((i + j) / 2).toNat < l.length := by omega
      exact ⟨_, List.getElem?_eq_getElem this⟩
    have hget : l.getD ((i + j) / 2).toNat i64.dflt = y := by
      rw [List.getD_eq_getElem?_getD, hy]
      rfl
    rw [hget]
    show (decide (y < x) = true → _) ∧ (decide (y < x) = false → _)
    simp only [decide_eq_true_eq, decide_eq_false_iff_not]
    refine ⟨fun hyx => ?_, fun hyx => ?_⟩
    · have hyx : y < x := hyx
      have hw : IntKind.i64.wrap ((i + j) / 2 + 1) = (i + j) / 2 + 1 := IntWalk.i64_in _ (by omega)
      rw [hw]
      have hn : InvB l x ((i + j) / 2 + 1) j := ⟨by omega, by omega, h3, h4, h5, fun k z hk hz => by
        by_cases hk2 : k < ((i + j) / 2).toNat
        · exact Int.lt_trans (up_get h5 hk2 hz hy) hyx
        · have : k = ((i + j) / 2).toNat := by omega
          subst this
          rw [hy] at hz
          cases hz
          exact hyx, h7⟩
      exact ⟨hn, by show (j - ((i + j) / 2 + 1)).toNat < (j - i).toNat; omega, hn, hQ⟩
    · have hyx : ¬ y < x := hyx
      have hn : InvB l x i ((i + j) / 2) := ⟨h1, by omega, by omega, h4, h5, h6, fun k z hk hz => by
        by_cases hk2 : ((i + j) / 2).toNat < k
        · have := up_get h5 hk2 hy hz
          omega
        · have : k = ((i + j) / 2).toNat := by omega
          subst this
          rw [hy] at hz
          cases hz
          exact hyx⟩
      exact ⟨hn, by show ((i + j) / 2 - i).toNat < (j - i).toNat; omega, hn, hQ⟩
  · have hij : ¬ i < j := hij
    have hij' : i = j := by omega
    subst hij'
    have hc : cnt l x = i.toNat := cnt_at (fun k y hk hy => h6 k y (by omega) hy) (fun k y hk hy => h7 k y (by omega) hy) (by omega)
    rw [hc] at hQ
    have : ((i.toNat : Nat) : Int) = i := by omega
    rw [this] at hQ
    exact hQ

theorem loopB : Does Try.prog (.loop (loopOf Try.f33 0)) ptB.M ptB FB := by
  refine Does.loop (n := 54) (id := 0) semB (inv := fun x => InvB x.1.1 x.1.2.1 x.1.2.2.2.1 x.1.2.2.2.2.1) (μ := fun x => (x.1.2.2.2.2.1 - x.1.2.2.2.1).toNat) ?_ (fun x Q h => h.1)
  rintro ⟨⟨l, x, n, i, j, _⟩, _⟩ hinv Q hq
  exact lawB l x n i j hinv Q hq.2

theorem bodyOf_lt : {c : Code} → {k : Nat} → {b : Code} → bodyOf c k = some b → k < loopsIn c
  | .loop _, 0, _, _ => Nat.zero_lt_one
  | .loop _, _ + 1, _, h => by simp [bodyOf] at h
  | .seq x y, k, b, h => by
    simp only [bodyOf] at h
    simp only [loopsIn]
    split at h
    · omega
    · have := bodyOf_lt h
      omega
  | .cond _ x y, k, b, h => by
    simp only [bodyOf] at h
    simp only [loopsIn]
    split at h
    · omega
    · have := bodyOf_lt h
      omega
  | .block _ c, k, b, h => bodyOf_lt (c := c) h
  | .scope c, k, b, h => bodyOf_lt (c := c) h
  | .skip, _, _, h => by simp [bodyOf] at h
  | .region _ _ _, _, _, h => by simp [bodyOf] at h
  | .ret, _, _, h => by simp [bodyOf] at h
  | .exit _, _, _, h => by simp [bodyOf] at h
  | .label _, _, _, h => by simp [bodyOf] at h
  | .goto _, _, _, h => by simp [bodyOf] at h
  | .rangeFunc _ _ _ _, _, _, h => by simp [bodyOf] at h
  | .refuse _, _, _, h => by simp [bodyOf] at h

theorem lam_of {E : Env} {Λ : Nat → St → Option Tr} : (c : Code) → (k : Nat) → (∀ i b, bodyOf c i = some b → LoopOK Try.prog E b (Λ (k + i))) → LamOK Try.prog E Λ c k
  | .loop b, k, h => h 0 b rfl
  | .seq x y, k, h => ⟨lam_of x k fun i b hb => h i b (by simp only [bodyOf]; rw [if_pos (bodyOf_lt hb)]; exact hb), lam_of y _ fun i b hb => by
      have := h (loopsIn x + i) b (by simp only [bodyOf]; rw [if_neg (by omega), Nat.add_sub_cancel_left]; exact hb)
      rwa [← Nat.add_assoc] at this⟩
  | .cond _ x y, k, h => ⟨lam_of x k fun i b hb => h i b (by simp only [bodyOf]; rw [if_pos (bodyOf_lt hb)]; exact hb), lam_of y _ fun i b hb => by
      have := h (loopsIn x + i) b (by simp only [bodyOf]; rw [if_neg (by omega), Nat.add_sub_cancel_left]; exact hb)
      rwa [← Nat.add_assoc] at this⟩
  | .block _ c, k, h => lam_of c k h
  | .skip, _, _ => trivial
  | .ret, _, _ => trivial
  | .exit _, _, _ => trivial
  | .region _ _ _, _, _ => trivial
  | .label _, _, _ => trivial
  | .goto _, _, _ => trivial
  | .scope _, _, _ => trivial
  | .rangeFunc _ _ _ _, _, _ => trivial
  | .refuse _, _, _ => trivial

/-- A function with one loop. -/
theorem lam_one {E : Env} {Λ : Nat → St → Option Tr} {fn : Func} {c b : Code} (hc : fn.body = some c) (hn : (fn.body.map loopsIn) = some 1) (hb : fn.body.bind (bodyOf · 0) = some b) (h : LoopOK Try.prog E b (Λ 0)) : LamOK Try.prog E Λ c 0 := by
  refine lam_of c 0 fun i b' hb' => ?_
  have h1 := bodyOf_lt hb'
  rw [hc] at hn hb
  simp only [Option.map_some, Option.some.injEq] at hn
  have hi : i = 0 := by omega
  subst hi
  simp only [Option.bind_some] at hb
  rw [hb] at hb'
  cases hb'
  exact h

def ΛB : Nat → St → Option Tr := fun _ => ptB.han Γ2 ptB.M FB

def frS (x : denP [.d ints, .d i64]) : Fr (denL [i64, .bool]) :=
  Fr.need (InvB x.1 x.2.1 0 x.1.length)
    (Fr.need (decide ((cnt x.1 x.2.1 : Int) < x.1.length) = true → 0 ≤ (cnt x.1 x.2.1 : Int) ∧ (cnt x.1 x.2.1 : Int) < x.1.length)
    (Fr.need ((x.1.getD (Int.toNat (cnt x.1 x.2.1 : Int)) i64.dflt == x.2.1) = false → decide ((cnt x.1 x.2.1 : Int) < x.1.length) = true → 0 ≤ (cnt x.1 x.2.1 : Int) ∧ (cnt x.1 x.2.1 : Int) < x.1.length)
      (Fr.val
        ((cnt x.1 x.2.1 : Int),
          bif decide ((cnt x.1 x.2.1 : Int) < x.1.length) then
            bif x.1.getD (Int.toNat (cnt x.1 x.2.1 : Int)) i64.dflt == x.2.1 then true
            else
              bif (cNaN.f (x.1.getD (Int.toNat (cnt x.1 x.2.1 : Int)) i64.dflt, ())).1 then (cNaN.f (x.2.1, ())).1 else false
          else false,
          ()))))

theorem search_fr : SoundCt Try.prog 33 ⟨[.d ints, .d i64], [i64, .bool], fun xs => (frS xs).get, fun xs => [(frS xs).ok]⟩ :=
  fn_sound C2_ok (Λ := ΛB) (fn := Try.f33) ([], 0, ()) (by kernel_rfl) (fun c E hc => lam_one hc (by kernel_rfl) (b := loopOf Try.f33 0) (by kernel_rfl) (Does.han C2_ok rfl loopB)) (fun xs => by kernel_rfl)

end Go.Proofs.Ytbfcnjddddjbbaa
