/-
  Parts of the proof, one behind the other: I32, I33, I34, I37, I38, I39, I40, I41, J1, J2, J5.
-/
import Derived.Test.YtbplccbjgfappaaMd
/-
  The slices of a history that may be are the runs of what holds.
-/
namespace Go.Proofs.Ytbplccbjgfappaa
open Go Go.Ab Go.RowKit Go.Proofs

theorem orderL_sorted (h : histT.den) : (orderL h).Pairwise fun x y => dayOf h x ≤ dayOf h y :=
  (sortB_sort (key := dayOf h) (lt := ltDay h) (fun _ _ _ _ => rfl)).1

theorem chsO_sorted (h : histT.den) : (chsO h).Pairwise fun x y => x.2.1 ≤ y.2.1 := by
  unfold chsO
  rw [List.pairwise_map]
  exact orderL_sorted h

theorem chAt_mem {h : histT.den} {i : Int} (hi : 0 ≤ i ∧ i < ((chL h).length : Int)) : chAt h i ∈ chL h := by
  unfold chAt
  exact getD_mem (by omega)

theorem chsO_mem {h : histT.den} {c : changeT.den} (hc : c ∈ chsO h) : c ∈ chL h := by
  obtain ⟨i, hi, rfl⟩ := List.mem_map.1 hc
  exact chAt_mem (orderL_mem hi)

/-- What a history that may be says of its span, and of its changes. -/
structure HistOk (h : histT.den) : Prop where
  terms : termsB h.2.2.1 = true
  a1 : 1 ≤ h.2.2.1.1.1
  ab : h.2.2.1.1.1 < h.2.2.1.1.2.1
  b1 : h.2.2.1.1.2.1 ≤ 292195
  wide : h.2.2.1.1.2.1 - h.2.2.1.1.1 ≤ 1100
  chs : ∀ c ∈ chL h, changeB c = true ∧ h.2.2.1.1.1 ≤ c.2.1 ∧ c.2.1 < h.2.2.1.1.2.1

theorem histB_iff {h : histT.den} : histB h = true ↔ termsB h.2.2.1 = true ∧ h.2.2.2.1.length ≤ 2000 ∧ ∀ c ∈ chL h, changeB c = true ∧ inB h.2.2.1.1.1 h.2.2.1.1.2.1 c.2.1 = true := by
  unfold histB
  simp only [Bool.and_eq_true, decide_eq_true_eq, List.all_eq_true, and_assoc]

theorem terms_span {t : termsT.den} (h : termsB t = true) : 1 ≤ t.1.1 ∧ t.1.1 < t.1.2.1 ∧ t.1.2.1 ≤ 292195 ∧ t.1.2.1 - t.1.1 ≤ 1100 := by
  obtain ⟨⟨a, b, _⟩, r, cs, _⟩ := t
  unfold termsB at h
  rw [Bool.and_eq_true, Bool.and_eq_true] at h
  obtain ⟨h1, h2, _⟩ := h
  obtain ⟨p1, p2, p3⟩ := fullS_iff.1 h1
  exact ⟨p1, p2, p3, of_decide_eq_true h2⟩

theorem histOk {h : histT.den} (hh : histB h = true) : HistOk h := by
  obtain ⟨h1, _, h3⟩ := histB_iff.1 hh
  obtain ⟨p1, p2, p3, p4⟩ := terms_span h1
  refine ⟨h1, p1, p2, p3, p4, fun c hc => ?_⟩
  obtain ⟨q1, q2⟩ := h3 c hc
  have q3 := of_decide_eq_true q2
  exact ⟨q1, q3.2.2.1, q3.2.2.2⟩

theorem cutL_runs {h : histT.den} (hh : histB h = true) : Runs (stOf h) h.2.2.1.1.2.1 h.2.2.1.1.1 (cutL h) := by
  have ho := histOk hh
  exact goCut_runs (k0 := (true, h.2.2.1.2.1, h.2.2.1.2.2.1)) (a := h.2.2.1.1.1) (b := h.2.2.1.1.2.1) (fun c hc => Int.le_of_lt (ho.chs c (chsO_mem hc)).2.2) (chsO h) [] rfl (chsO_sorted h) (nowS h) [] (fun c hc => (by cases hc)) (fun c hc => (ho.chs c (chsO_mem hc)).2.1)
    (Int.le_of_lt ho.ab) rfl rfl rfl

/-! ### A day's slice, of runs -/

theorem atS_map {v : verT.den} (d : Int) : (l : List sliceT.den) → (atS (l.map (priceV v)) d).2 = (atS l d).2 ∧ ((atS l d).2 = true → (atS (l.map (priceV v)) d).1 = priceV v (atS l d).1)
  | [] => ⟨rfl, fun h => (by cases h)⟩
  | s :: l => by
    have hs : (priceV v s).1 = s.1 := by
      unfold priceV
      split <;> rfl
    simp only [List.map_cons, atS]
    rw [hs]
    split
    · exact ⟨rfl, fun _ => rfl⟩
    · exact atS_map d l

/-- Each day of the span is in a slice: what holds there is what holds on that day. -/
theorem Runs.at_day {st : Int → Core} {b : Int} (hb : b ≤ 292195) : {a : Int} → {l : List sliceT.den} → 1 ≤ a → Runs st b a l → (d : Int) → ((atS l d).2 = decide (a ≤ d ∧ d < b)) ∧ ((atS l d).2 = true → coreS (atS l d).1 = st d ∧ (atS l d).1 ∈ l ∧ (atS l d).1.1.1 ≤ d ∧ d < (atS l d).1.1.2.1)
  | a, [], _, h, d => by
    have h0 : a = b := h
    refine ⟨?_, fun h => (by cases h)⟩
    show false = _
    symm
    rw [decide_eq_false_iff_not]
    rintro ⟨h1, h2⟩
    rw [h0] at h1
    exact absurd (Int.lt_of_lt_of_le h2 h1) (Int.lt_irrefl _)
  | a, s :: l, ha, h, d => by
    have hlt : a < s.1.2.1 := h.2.1
    have hle : s.1.2.1 ≤ b := Runs.le h.2.2.2.2.2
    have h1 : s.1.1 = a := h.1
    have ih := Runs.at_day hb (a := s.1.2.1) (l := l) (by omega) h.2.2.2.2.2 d
    have hin : inB s.1.1 s.1.2.1 d = decide (a ≤ d ∧ d < s.1.2.1) := by
      unfold inB
      rw [h1]
      rw [Bool.eq_iff_iff, decide_eq_true_eq, decide_eq_true_eq]
      constructor
      · rintro ⟨_, _, q1, q2⟩
        exact ⟨q1, q2⟩
      · rintro ⟨q1, q2⟩
        exact ⟨ha, Int.le_trans hle hb, q1, q2⟩
    unfold atS
    by_cases hd : a ≤ d ∧ d < s.1.2.1
    · rw [hin, if_pos (decide_eq_true hd)]
      refine ⟨?_, fun _ => ⟨h.2.2.2.1 d hd.1 hd.2, by simp, ?_, hd.2⟩⟩
      · symm
        rw [decide_eq_true_eq]
        exact ⟨hd.1, Int.lt_of_lt_of_le hd.2 hle⟩
      · rw [h1]; exact hd.1
    · rw [hin, if_neg (by rw [decide_eq_true_eq]; exact hd)]
      refine ⟨?_, fun hx => ?_⟩
      · rw [ih.1, Bool.eq_iff_iff, decide_eq_true_eq, decide_eq_true_eq]
        constructor
        · rintro ⟨q1, q2⟩
          exact ⟨Int.le_trans (Int.le_of_lt hlt) q1, q2⟩
        · rintro ⟨q1, q2⟩
          refine ⟨Int.not_lt.1 fun q3 => hd ⟨q1, q3⟩, q2⟩
      · obtain ⟨q1, q2, q3⟩ := ih.2 hx
        exact ⟨q1, by simp [q2], q3⟩

end Go.Proofs.Ytbplccbjgfappaa

/-
  What holds on a day hangs on the changes up to that day, each day's in their order, and not on when they were booked.
-/
namespace Go.Proofs.Ytbplccbjgfappaa
open Go Go.Ab Go.RowKit Go.Proofs

/-- A change, whenever it was booked. -/
def strip (c : changeT.den) : changeT.den := (0, c.2)

theorem doesK_strip (k : Core) (c : changeT.den) : doesK k (strip c) = doesK k c := rfl

theorem holdK_strip (d : Int) : (l : List changeT.den) → (k : Core) → holdK d (l.map strip) k = holdK d l k
  | [], _ => rfl
  | c :: l, k => by
    simp only [List.map_cons, holdK]
    exact holdK_strip d l _

theorem holdK_filter (d : Int) : (l : List changeT.den) → (k : Core) → holdK d (l.filter fun c => decide (c.2.1 ≤ d)) k = holdK d l k
  | [], _ => rfl
  | c :: l, k => by
    by_cases hc : c.2.1 ≤ d
    · rw [List.filter_cons_of_pos (by simpa using hc)]
      simp only [holdK]
      exact holdK_filter d l _
    · rw [List.filter_cons_of_neg (by simpa using hc)]
      have hgt : c.2.1 > d := Int.not_le.1 hc
      simp only [holdK]
      rw [if_pos hgt]
      exact holdK_filter d l k

def dayC (c : changeT.den) : Int := c.2.1

theorem rangeI_chAt (h : histT.den) : (rangeI (chL h).length).map (chAt h) = chL h := by
  unfold rangeI chAt
  rw [List.map_map]
  apply List.ext_getElem
  · simp
  · intro i h1 h2
    simp only [List.getElem_map, List.getElem_range, Function.comp_apply, Int.toNat_natCast]
    rw [List.getD_eq_getElem?_getD, List.getElem?_eq_getElem h2]
    rfl

/-- Each day's changes stand in their order. -/
theorem chsO_same (h : histT.den) : SameK dayC (chL h) (chsO h) := fun k => by
  have hs := (sortB_sort (key := dayOf h) (lt := ltDay h) (l := rangeI (chL h).length) (fun _ _ _ _ => rfl)).2 k
  have h1 : (chsO h).filter (fun x => dayC x == k) = ((orderL h).filter (fun x => dayOf h x == k)).map (chAt h) := by
    unfold chsO
    rw [List.filter_map]
    rfl
  have h2 : (chL h).filter (fun x => dayC x == k) = ((rangeI (chL h).length).filter (fun x => dayOf h x == k)).map (chAt h) := by
    conv => lhs; rw [← rangeI_chAt h]
    rw [List.filter_map]
    rfl
  rw [h1, h2]
  exact congrArg _ hs

theorem chsO_sortK (h : histT.den) : SortK dayC (chsO h) := chsO_sorted h

theorem SortK.filter {α : Type} {key : α → Int} {l : List α} (h : SortK key l) (p : α → Bool) : SortK key (l.filter p) := List.Pairwise.sublist List.filter_sublist h

theorem sortK_strip {l : List changeT.den} (h : SortK dayC l) : SortK dayC (l.map strip) := by
  unfold SortK
  rw [List.pairwise_map]
  exact h

theorem filter_strip (l : List changeT.den) (k : Int) : (l.map strip).filter (fun x => dayC x == k) = (l.filter (fun x => dayC x == k)).map strip := by
  rw [List.filter_map]
  rfl

/-- What holds on a day: by what is told of each day up to it. -/
theorem stOf_congr {h x : histT.den} {d : Int} (h0 : ((true, h.2.2.1.2.1, h.2.2.1.2.2.1) : Core) = (true, x.2.2.1.2.1, x.2.2.1.2.2.1))
    (hk : ∀ k, k ≤ d → ((chL h).map strip).filter (fun c => dayC c == k) = ((chL x).map strip).filter (fun c => dayC c == k)) : stOf h d = stOf x d := by
  unfold stOf
  rw [h0, ← holdK_filter d (chsO h), ← holdK_filter d (chsO x), ← holdK_strip d ((chsO h).filter _), ← holdK_strip d ((chsO x).filter _)]
  congr 1
  refine SameK.eq (key := dayC) (sortK_strip ((chsO_sortK h).filter _)) (sortK_strip ((chsO_sortK x).filter _)) fun k => ?_
  have key : ∀ y : histT.den, ((((chsO y).filter fun c => decide (c.2.1 ≤ d))).map strip).filter (fun c => dayC c == k) = if k ≤ d then ((chL y).map strip).filter (fun c => dayC c == k) else [] := by
    intro y
    rw [filter_strip, List.filter_filter]
    split
    · rename_i hkd
      have : ((chsO y).filter fun a => (dayC a == k && decide (a.2.1 ≤ d))) = (chsO y).filter fun a => dayC a == k := by
        apply List.filter_congr
        intro a _
        rw [Bool.eq_iff_iff]
        simp only [Bool.and_eq_true, beq_iff_eq, decide_eq_true_eq]
        constructor
        · exact fun q => q.1
        · intro q
          refine ⟨q, ?_⟩
          have : dayC a = a.2.1 := rfl
          rw [← this, q]
          exact hkd
      rw [this, chsO_same y k, filter_strip]
    · rename_i hkd
      have : ((chsO y).filter fun a => (dayC a == k && decide (a.2.1 ≤ d))) = [] := by
        rw [List.filter_eq_nil_iff]
        intro a _
        simp only [Bool.and_eq_true, beq_iff_eq, decide_eq_true_eq]
        rintro ⟨q1, q2⟩
        have : dayC a = a.2.1 := rfl
        rw [← this, q1] at q2
        exact hkd q2
      rw [this]
      rfl
  rw [key x, key h]
  split
  · rename_i hkd
    exact (hk k hkd).symm
  · rfl

end Go.Proofs.Ytbplccbjgfappaa

/-
  bordereauref01: parts, by long multiplication and division.
-/
namespace Go.Proofs.Ytbplccbjgfappaa
open Go Go.Ab Go.RowKit Go.Proofs

noncomputable def CT2 : Cx := cx [] []
theorem CT2_ok : CxOK Try.prog CT2 := cx_ok (cs := []) (ps := []) mixed trivial trivial

def MT2 : LS := ⟨[(0, .d i64), (9, .d u64), (10, .d u64), (11, .d u64), (12, .d u64), (13, .d u64), (14, .d i64)], []⟩
def ptT2 : Pt := ⟨66, 0, MT2, ⟨[(9, .d u64), (10, .d u64)], []⟩, ⟨[(6, .d i64), (7, .d i64), (8, .d .bool)], []⟩⟩

abbrev wU2 (n : Int) : Int := IntKind.u64.wrap n
def jT (a by_ wh re k q l : Int) : Fr ptT2.Out :=
  Fr.br (decide (q > 4000000000000000000)) (Fr.val (Rd.back ((0, 0, false, ()), ()))) (Fr.val (Rd.next ((a, q, l, by_, wh, re, IntKind.i64.wrap (k - 1), ()), ())))
def kT (a by_ wh re k q l : Int) : Fr ptT2.Out :=
  Fr.need (¬ k < 0) (Fr.need ((2 : Int) ≠ 0)
    (Fr.br ((a.fdiv (2 ^ min k.toNat IntKind.i64.bits)).tmod 2 == 1)
      (Fr.br (decide (wU2 (l + re) ≥ by_)) (jT a by_ wh re k (wU2 (wU2 (q + wh) + 1)) (wU2 (wU2 (l + re) - by_))) (jT a by_ wh re k (wU2 (q + wh)) (wU2 (l + re))))
      (jT a by_ wh re k q l)))
def fT2 (x : MT2.X) : Fr ptT2.Out :=
  let a : Int := x.1.1; let q : Int := x.1.2.1; let l : Int := x.1.2.2.1; let by_ : Int := x.1.2.2.2.1; let wh : Int := x.1.2.2.2.2.1; let re : Int := x.1.2.2.2.2.2.1; let k : Int := x.1.2.2.2.2.2.2.1
  Fr.br (decide (k ≥ 0))
    (Fr.br (decide (wU2 (2 * l) ≥ by_)) (kT a by_ wh re k (wU2 (wU2 (2 * q) + 1)) (wU2 (wU2 (2 * l) - by_))) (kT a by_ wh re k (wU2 (2 * q)) (wU2 (2 * l))))
    (Fr.val (Rd.out ((q, l, ()), ())))
theorem semT2 : Does Try.prog (loopF Try.f164 0) MT2 ptT2 fT2 := Does.of_run CT2_ok (bs := 0) rfl rfl rfl (fun _ => lam0_ok _ 0) (fun x => by kernel_rfl)

structure InvT (a q l by_ wh re k : Int) : Prop where
  a0 : 0 ≤ a ∧ a ≤ 9223372036854775807
  c0 : 0 < by_ ∧ by_ ≤ 9223372036854775807
  w0 : 0 ≤ wh ∧ wh ≤ 9223372036854775807
  r0 : 0 ≤ re ∧ re < by_
  k0 : -1 ≤ k ∧ k ≤ 62
  l0 : 0 ≤ l ∧ l < by_
  q0 : 0 ≤ q ∧ q ≤ 4000000000000000000
  eq : q * by_ + l = (a / 2 ^ (k + 1).toNat) * (wh * by_ + re)

/-- Two numbers' product, divided: what comes, what is left, and whether it is told. -/
def twoF (a b c : Int) : Int × Int × Bool := if a * b / c > 4000000000000000000 then (0, 0, false) else (a * b / c, a * b % c, true)

def FT2 (x : MT2.X) : Fr ptT2.Out :=
  let a : Int := x.1.1; let q : Int := x.1.2.1; let l : Int := x.1.2.2.1; let by_ : Int := x.1.2.2.2.1; let wh : Int := x.1.2.2.2.2.1; let re : Int := x.1.2.2.2.2.2.1; let k : Int := x.1.2.2.2.2.2.2.1
  Fr.need (InvT a q l by_ wh re k) (Fr.br (decide (a * (wh * by_ + re) / by_ > 4000000000000000000)) (Fr.val (Rd.back ((0, 0, false, ()), ()))) (Fr.val (Rd.out ((a * (wh * by_ + re) / by_, a * (wh * by_ + re) % by_, ()), ()))))

theorem half_pow {a : Int} (ha : 0 ≤ a) (n : Nat) : a / 2 ^ n = 2 * (a / 2 ^ (n + 1)) + (a / 2 ^ n) % 2 := by
  have : a / 2 ^ (n + 1) = a / 2 ^ n / 2 := by
    rw [Int.pow_succ, Int.ediv_ediv_of_nonneg (by exact Int.pow_nonneg (by decide))]
  rw [this]
  omega

theorem div_uniq {p c q l : Int} (hc : 0 < c) (h : q * c + l = p) (hl : 0 ≤ l ∧ l < c) : p / c = q ∧ p % c = l := by
  subst h
  constructor
  · rw [Int.add_comm, Int.add_mul_ediv_right _ _ (by omega), Int.ediv_eq_zero_of_lt hl.1 hl.2]
    omega
  · rw [Int.add_comm, Int.add_mul_emod_self_right]
    exact Int.emod_eq_of_lt hl.1 hl.2

/-- A digit more. -/
theorem two_step {q l c wh re m A bit q1 l1 : Int} (hm : m = 2 * A + bit) (heq : q * c + l = A * (wh * c + re)) (h1 : (l1 = 2 * l ∧ q1 = 2 * q) ∨ (l1 = 2 * l - c ∧ q1 = 2 * q + 1)) :
    (bit = 0 → q1 * c + l1 = m * (wh * c + re)) ∧ (bit = 1 → (q1 + wh) * c + (l1 + re) = m * (wh * c + re) ∧ (q1 + wh + 1) * c + (l1 + re - c) = m * (wh * c + re)) := by
  subst hm
  have e : q1 * c + l1 = 2 * (q * c + l) := by
    rcases h1 with ⟨rfl, rfl⟩ | ⟨rfl, rfl⟩ <;> grind
  rw [heq] at e
  refine ⟨fun hb => ?_, fun hb => ⟨?_, ?_⟩⟩
  · subst hb
    grind
  · subst hb
    grind
  · subst hb
    grind

/-- What a round leads to. -/
def PhiT (Q : ptT2.Out → Prop) (k : Int) : Rd MT2.X ptT2.E.X ptT2.R.X → Prop
  | .next x' => InvT x'.1.1 x'.1.2.1 x'.1.2.2.1 x'.1.2.2.2.1 x'.1.2.2.2.2.1 x'.1.2.2.2.2.2.1 x'.1.2.2.2.2.2.2.1 ∧ ((x'.1.2.2.2.2.2.2.1 : Int) + 1).toNat < (k + 1).toNat ∧ (FT2 x').satP Q
  | .out y => Q (.out y)
  | .back z => Q (.back z)
  | .pan p => Q (.pan p)

theorem jT_sat {a q l c wh re k : Int} {Q : ptT2.Out → Prop} (ha : 0 ≤ a ∧ a ≤ 9223372036854775807) (hc : 0 < c ∧ c ≤ 9223372036854775807) (hw : 0 ≤ wh ∧ wh ≤ 9223372036854775807) (hr : 0 ≤ re ∧ re < c) (hk : 0 ≤ k ∧ k ≤ 62) (hl : 0 ≤ l ∧ l < c) (hq : 0 ≤ q)
    (heq : q * c + l = (a / 2 ^ k.toNat) * (wh * c + re)) (hQ : (Fr.br (decide (a * (wh * c + re) / c > 4000000000000000000)) (Fr.val (Rd.back ((0, 0, false, ()), ()))) (Fr.val (Rd.out ((a * (wh * c + re) / c, a * (wh * c + re) % c, ()), ()))) : Fr ptT2.Out).satP Q) :
    (jT a c wh re k q l).satP (PhiT Q k) := by
  have w : IntKind.i64.wrap (k - 1) = k - 1 := IntWalk.i64_in _ (by omega)
  have hB : 0 ≤ wh * c + re := Int.add_nonneg (Int.mul_nonneg hw.1 (Int.le_of_lt hc.1)) hr.1
  have hm : a / 2 ^ k.toNat ≤ a := Int.ediv_le_self _ ha.1
  have hp : (a / 2 ^ k.toNat) * (wh * c + re) ≤ a * (wh * c + re) := Int.mul_le_mul_of_nonneg_right hm hB
  unfold jT
  rw [w]
  refine ⟨fun h => ?_, fun h => ?_⟩
  · have h' : q > 4000000000000000000 := of_decide_eq_true h
    have hge : q ≤ a * (wh * c + re) / c := by
      rw [Int.le_ediv_iff_mul_le hc.1]
      omega
    exact hQ.1 (decide_eq_true (by omega))
  · have h' : q ≤ 4000000000000000000 := Int.not_lt.1 (of_decide_eq_false h)
    have hk1 : (k - 1 + 1).toNat = k.toNat := by omega
    have hI : InvT a q l c wh re (k - 1) := ⟨ha, hc, hw, hr, by omega, hl, ⟨hq, h'⟩, by rw [hk1]; exact heq⟩
    exact ⟨hI, (by show (k - 1 + 1).toNat < (k + 1).toNat; omega), hI, hQ⟩

theorem kT_sat {a q l c wh re k q1 l1 : Int} {Q : ptT2.Out → Prop} (hinv : InvT a q l c wh re k) (hk : 0 ≤ k) (h1 : (l1 = 2 * l ∧ q1 = 2 * q) ∨ (l1 = 2 * l - c ∧ q1 = 2 * q + 1)) (hl1 : 0 ≤ l1 ∧ l1 < c)
    (hQ : (Fr.br (decide (a * (wh * c + re) / c > 4000000000000000000)) (Fr.val (Rd.back ((0, 0, false, ()), ()))) (Fr.val (Rd.out ((a * (wh * c + re) / c, a * (wh * c + re) % c, ()), ()))) : Fr ptT2.Out).satP Q) :
    (kT a c wh re k q1 l1).satP (PhiT Q k) := by
  obtain ⟨ha, hc, hw, hr, hk0, hl, hq, heq⟩ := hinv
  have hq1 : 0 ≤ q1 ∧ q1 ≤ 8000000000000000001 := by omega
  have hmin : min k.toNat IntKind.i64.bits = k.toNat := by
    have : IntKind.i64.bits = 64 := rfl
    omega
  have hm0 : 0 ≤ a / 2 ^ k.toNat := Int.ediv_nonneg ha.1 (Int.pow_nonneg (by decide))
  have hshr : (a.fdiv (2 ^ min k.toNat IntKind.i64.bits)).tmod 2 = (a / 2 ^ k.toNat) % 2 := by
    rw [hmin, Int.fdiv_eq_ediv_of_nonneg _ (Int.pow_nonneg (by decide)), Int.tmod_eq_emod_of_nonneg hm0]
  have hkk : (k + 1).toNat = k.toNat + 1 := by omega
  rw [hkk] at heq
  have hhalf := half_pow ha.1 k.toNat
  obtain ⟨s0, s1⟩ := two_step (m := a / 2 ^ k.toNat) (bit := (a / 2 ^ k.toNat) % 2) hhalf heq h1
  unfold kT
  rw [hshr]
  refine ⟨by omega, by decide, fun hb => ?_, fun hb => ?_⟩
  · have hb' : (a / 2 ^ k.toNat) % 2 = 1 := eq_of_beq (α := Int) hb
    obtain ⟨t1, t2⟩ := s1 hb'
    have e1 : wU2 (l1 + re) = l1 + re := u64w (by omega)
    have e2 : wU2 (q1 + wh) = q1 + wh := u64w (by omega)
    have e3 : wU2 (q1 + wh + 1) = q1 + wh + 1 := u64w (by omega)
    rw [e1, e2, e3]
    refine ⟨fun hg => ?_, fun hg => ?_⟩
    · have hg' : l1 + re ≥ c := of_decide_eq_true hg
      have e4 : wU2 (l1 + re - c) = l1 + re - c := u64w (by omega)
      rw [e4]
      exact jT_sat ha hc hw hr ⟨hk, hk0.2⟩ (by omega) (by omega) t2 hQ
    · have hg' : l1 + re < c := Int.not_le.1 (of_decide_eq_false hg)
      exact jT_sat ha hc hw hr ⟨hk, hk0.2⟩ (by omega) (by omega) t1 hQ
  · have hb' : ¬ (a / 2 ^ k.toNat) % 2 = 1 := ne_of_beq_false (α := Int) hb
    exact jT_sat ha hc hw hr ⟨hk, hk0.2⟩ hl1 hq1.1 (s0 (by omega)) hQ

theorem lawT2 {a q l c wh re k : Int} (hinv : InvT a q l c wh re k) (Q : ptT2.Out → Prop)
    (hQ : (Fr.br (decide (a * (wh * c + re) / c > 4000000000000000000)) (Fr.val (Rd.back ((0, 0, false, ()), ()))) (Fr.val (Rd.out ((a * (wh * c + re) / c, a * (wh * c + re) % c, ()), ()))) : Fr ptT2.Out).satP Q) :
    (fT2 ((a, q, l, c, wh, re, k, ()), ())).satP (PhiT Q k) := by
  have hi := hinv
  obtain ⟨ha, hc, hw, hr, hk0, hl, hq, heq⟩ := hinv
  have e1 : wU2 (2 * l) = 2 * l := u64w (by omega)
  have e2 : wU2 (2 * q) = 2 * q := u64w (by omega)
  have e3 : wU2 (2 * q + 1) = 2 * q + 1 := u64w (by omega)
  dsimp only [fT2]
  rw [e1, e2, e3]
  refine ⟨fun hk => ?_, fun hk => ?_⟩
  · have hk' : k ≥ 0 := of_decide_eq_true hk
    refine ⟨fun hg => ?_, fun hg => ?_⟩
    · have hg' : 2 * l ≥ c := of_decide_eq_true hg
      have e4 : wU2 (2 * l - c) = 2 * l - c := u64w (by omega)
      rw [e4]
      exact kT_sat hi hk' (.inr ⟨rfl, rfl⟩) (by omega) hQ
    · have hg' : 2 * l < c := Int.not_le.1 (of_decide_eq_false hg)
      exact kT_sat hi hk' (.inl ⟨rfl, rfl⟩) (by omega) hQ
  · have hk' : ¬ k ≥ 0 := of_decide_eq_false hk
    have hk1 : (k + 1).toNat = 0 := by omega
    rw [hk1, Int.pow_zero, Int.ediv_one] at heq
    obtain ⟨d1, d2⟩ := div_uniq hc.1 heq hl
    rw [d1, d2] at hQ
    exact hQ.2 (decide_eq_false (by omega))

theorem loopT2 : Does Try.prog (.loop (loopF Try.f164 0)) MT2 ptT2 FT2 := by
  refine Does.loop (n := 66) (id := 0) semT2 (inv := fun x => InvT x.1.1 x.1.2.1 x.1.2.2.1 x.1.2.2.2.1 x.1.2.2.2.2.1 x.1.2.2.2.2.2.1 x.1.2.2.2.2.2.2.1) (μ := fun x => ((x.1.2.2.2.2.2.2.1 : Int) + 1).toNat) ?_ (fun x Q h => h.1)
  rintro ⟨⟨a, q, l, c, wh, re, k, _⟩, _⟩ hinv Q hq
  exact lawT2 hinv Q hq.2

def cTwo : Ct := ⟨[.d i64, .d i64, .d i64], [i64, i64, .bool], fun x => ((twoF x.1 x.2.1 x.2.2.1).1, (twoF x.1 x.2.1 x.2.2.1).2.1, (twoF x.1 x.2.1 x.2.2.1).2.2, ()), fun x => [0 ≤ x.1, 0 ≤ x.2.1, 0 < x.2.2.1]⟩
def frTwo (x : denP [.d i64, .d i64, .d i64]) : Fr (denL [i64, i64, .bool]) :=
  let a : Int := x.1; let b : Int := wU2 x.2.1; let c : Int := wU2 x.2.2.1
  Fr.need (c ≠ 0) (Fr.need (c ≠ 0)
    (Fr.need (InvT a 0 0 c (wU2 (b.tdiv c)) (b.tmod c) 62)
      (Fr.br (decide (a * (wU2 (b.tdiv c) * c + b.tmod c) / c > 4000000000000000000)) (Fr.val (0, 0, false, ()))
        (Fr.val (IntKind.i64.wrap (a * (wU2 (b.tdiv c) * c + b.tmod c) / c), IntKind.i64.wrap (a * (wU2 (b.tdiv c) * c + b.tmod c) % c), true, ())))))

theorem two_run : SoundCt Try.prog 164 ⟨[.d i64, .d i64, .d i64], [i64, i64, .bool], fun xs => (frTwo xs).get, fun xs => [(frTwo xs).ok]⟩ :=
  fn_sound CT2_ok (Λ := fun _ => ptT2.han CT2.Γ MT2 FT2) (fn := Try.f164) (fr := frTwo) (ps := [.d i64, .d i64, .d i64]) (rs := [i64, i64, .bool]) (0, 0, 0, ()) (by kernel_rfl)
    (fun c E hc => lam1f hc (by kernel_rfl) (b := loopF Try.f164 0) (by kernel_rfl) (Does.han CT2_ok rfl loopT2)) (fun x => by kernel_rfl)

theorem two_eq {a b c : Int} (ha : 0 ≤ a ∧ a ≤ 9223372036854775807) (hb : 0 ≤ b ∧ b ≤ 9223372036854775807) (hc : 0 < c ∧ c ≤ 9223372036854775807) :
    (frTwo (a, b, c, ())).ok ∧ (frTwo (a, b, c, ())).get = ((twoF a b c).1, (twoF a b c).2.1, (twoF a b c).2.2, ()) := by
  have e1 : wU2 b = b := u64w (by omega)
  have e2 : wU2 c = c := u64w (by omega)
  have hd0 : 0 ≤ b / c := Int.ediv_nonneg hb.1 (Int.le_of_lt hc.1)
  have hd1 : b / c ≤ b := Int.ediv_le_self _ hb.1
  have e3 : wU2 (b.tdiv c) = b / c := by rw [Int.tdiv_eq_ediv_of_nonneg hb.1]; exact u64w (by omega)
  have e4 : b.tmod c = b % c := Int.tmod_eq_emod_of_nonneg hb.1
  have hr0 := Int.emod_nonneg b (b := c) (by omega)
  have hr1 := Int.emod_lt_of_pos b hc.1
  have e5 : b / c * c + b % c = b := by rw [Int.mul_comm]; exact Int.mul_ediv_add_emod b c
  have hcz : c ≠ 0 := by omega
  have hm62 : a / 2 ^ (62 + 1 : Int).toNat = 0 := by
    have : (2 : Int) ^ (62 + 1 : Int).toNat = 9223372036854775808 := by decide
    rw [this]
    omega
  dsimp only [frTwo]
  rw [e1, e2, e3, e4]
  refine Fr.need_ hcz (Fr.need_ hcz (Fr.need_ ⟨ha, hc, ⟨hd0, by omega⟩, ⟨hr0, hr1⟩, by decide, ⟨Int.le_refl _, hc.1⟩, by decide, by rw [hm62]; simp⟩ ?_))
  rw [e5]
  unfold twoF
  by_cases hg : a * b / c > 4000000000000000000
  · rw [if_pos hg]
    exact Fr.br_t (decide_eq_true hg) ⟨trivial, rfl⟩
  · rw [if_neg hg]
    refine Fr.br_f (decide_eq_false hg) ⟨trivial, ?_⟩
    have p0 : 0 ≤ a * b := Int.mul_nonneg ha.1 hb.1
    have p1 := Int.ediv_nonneg p0 (Int.le_of_lt hc.1)
    have p2 := Int.emod_nonneg (a * b) (b := c) hcz
    have p3 := Int.emod_lt_of_pos (a * b) hc.1
    have w1 : IntKind.i64.wrap (a * b / c) = a * b / c := IntWalk.i64_in _ (by omega)
    have w2 : IntKind.i64.wrap (a * b % c) = a * b % c := IntWalk.i64_in _ (by omega)
    show (IntKind.i64.wrap (a * b / c), IntKind.i64.wrap (a * b % c), true, ()) = (a * b / c, a * b % c, true, ())
    rw [w1, w2]

theorem two_ok : SoundCt Try.prog 164 cTwo :=
  convF two_run _ _ (fun w F x vs hr hok => by
    obtain ⟨a, b, c, _⟩ := x
    obtain ⟨v1, vs1, rfl, h1, v2, vs2, rfl, h2, v3, vs3, rfl, h3, _⟩ := hr
    obtain ⟨q1, q2, q3⟩ := hok
    exact two_eq ⟨q1, (i64_of h1).2⟩ ⟨q2, (i64_of h2).2⟩ ⟨q3, (i64_of h3).2⟩)

end Go.Proofs.Ytbplccbjgfappaa

/-
  bordereauref01: Even, Bp; bordereauref07.Version.
-/
namespace Go.Proofs.Ytbplccbjgfappaa
open Go Go.Ab Go.RowKit Go.Proofs

def chkF (a b c : Int) : Int := if a < 0 ∨ b < 0 ∨ c < 0 then 1 else if c = 0 then 6 else 0
def cChk : Ct := ⟨[.d i64, .d i64, .d i64], [i64], fun x => (chkF x.1 x.2.1 x.2.2.1, ()), fun _ => []⟩
def frChk (x : denP [.d i64, .d i64, .d i64]) : Fr (denL [i64]) :=
  Fr.br (bif bif decide (x.1 < 0) then true else decide (x.2.1 < 0) then true else decide (x.2.2.1 < 0)) (Fr.val (1, ())) (Fr.br (x.2.2.1 == 0) (Fr.val (6, ())) (Fr.val (0, ())))
theorem chk_eq (a b c : Int) : (frChk (a, b, c, ())).ok ∧ (frChk (a, b, c, ())).get = (chkF a b c, ()) := by
  unfold frChk chkF
  simp only [bif3]
  by_cases hn : a < 0 ∨ b < 0 ∨ c < 0
  · rw [if_pos hn]
    exact Fr.br_t (by simpa using hn) ⟨trivial, rfl⟩
  · rw [if_neg hn]
    refine Fr.br_f (by simpa using hn) ?_
    by_cases hc : c = 0
    · rw [if_pos hc]
      exact Fr.br_t (beq_iff_eq.2 hc) ⟨trivial, rfl⟩
    · rw [if_neg hc]
      exact Fr.br_f (beq_eq_false_iff_ne.2 hc) ⟨trivial, rfl⟩
theorem chk_ok : SoundCt Try.prog 163 cChk :=
  flat (ps := [.d i64, .d i64, .d i64]) (rs := [i64]) (cx_ok (cs := []) (ps := []) mixed trivial trivial) (fn := Try.f163) (fr := frChk) (0, 0, 0, ()) (by kernel_rfl) (fun x => by kernel_rfl) _ _
    (fun _ _ x _ _ _ => by
      obtain ⟨a, b, c, _⟩ := x
      exact chk_eq a b c)

noncomputable def CE1 : Cx := cx [(163, cChk), (164, cTwo)] []
theorem CE1_ok : CxOK Try.prog CE1 := cx_ok mixed ⟨chk_ok, two_ok, trivial⟩ trivial

def frE2 (q l : Int) (is : Bool) (c : Int) : Fr (denL [i64, i64]) :=
  Fr.need ((l == IntKind.i64.wrap (c - l)) = true → decide (l > IntKind.i64.wrap (c - l)) = false → is = true → (2 : Int) ≠ 0)
    (Fr.br (bif is then bif decide (l > IntKind.i64.wrap (c - l)) then true else bif l == IntKind.i64.wrap (c - l) then Int.tmod q 2 == 1 else false else false)
      (Fr.br (bif !is then true else decide (IntKind.i64.wrap (q + 1) > 4000000000000000000)) (Fr.val (0, 5, ())) (Fr.val (IntKind.i64.wrap (q + 1), 0, ())))
      (Fr.br (bif !is then true else decide (q > 4000000000000000000)) (Fr.val (0, 5, ())) (Fr.val (q, 0, ()))))
def frE1 (x : denP [.d i64, .d i64, .d i64]) : Fr (denL [i64, i64]) :=
  Fr.br ((cChk.f (x.1, x.2.1, x.2.2.1, ())).1 != 0) (Fr.val (0, (cChk.f (x.1, x.2.1, x.2.2.1, ())).1, ()))
    (Fr.need (0 ≤ x.1) (Fr.need (0 ≤ x.2.1) (Fr.need (0 < x.2.2.1)
      (frE2 (cTwo.f (x.1, x.2.1, x.2.2.1, ())).1 (cTwo.f (x.1, x.2.1, x.2.2.1, ())).2.1 (cTwo.f (x.1, x.2.1, x.2.2.1, ())).2.2.1 x.2.2.1))))

def evq (q l c : Int) : Int := if l > c - l ∨ (l = c - l ∧ q % 2 = 1) then q + 1 else q

theorem e2_told {q l c : Int} (hq : 0 ≤ q ∧ q ≤ 4000000000000000000) (hl : 0 ≤ l ∧ l < c) (hc : c ≤ 9223372036854775807) :
    (frE2 q l true c).ok ∧ (frE2 q l true c).get = if evq q l c > 4000000000000000000 then (0, 5, ()) else (evq q l c, 0, ()) := by
  have w1 : IntKind.i64.wrap (c - l) = c - l := IntWalk.i64_in _ (by omega)
  have w2 : IntKind.i64.wrap (q + 1) = q + 1 := IntWalk.i64_in _ (by omega)
  have w3 : Int.tmod q 2 = q % 2 := Int.tmod_eq_emod_of_nonneg hq.1
  unfold frE2 evq
  rw [w1, w2, w3]
  refine Fr.need_ (fun _ _ _ => by decide) ?_
  by_cases h : l > c - l ∨ (l = c - l ∧ q % 2 = 1)
  · rw [if_pos h]
    refine Fr.br_t ?_ ?_
    · show (bif decide (l > c - l) then true else bif l == c - l then q % 2 == 1 else false) = true
      rcases h with h | ⟨h, h'⟩
      · rw [decide_eq_true h]
        rfl
      · rw [beq_iff_eq.2 h, h']
        cases decide (l > c - l) <;> rfl
    · by_cases hg : q + 1 > 4000000000000000000
      · rw [if_pos hg]
        exact Fr.br_t (decide_eq_true hg) ⟨trivial, rfl⟩
      · rw [if_neg hg]
        exact Fr.br_f (decide_eq_false hg) ⟨trivial, rfl⟩
  · rw [if_neg h]
    refine Fr.br_f ?_ ?_
    · show (bif decide (l > c - l) then true else bif l == c - l then q % 2 == 1 else false) = false
      have h1 : ¬ l > c - l := fun hh => h (.inl hh)
      rw [decide_eq_false h1]
      by_cases h2 : l = c - l
      · have h3 : ¬ q % 2 = 1 := fun hh => h (.inr ⟨h2, hh⟩)
        show (bif l == c - l then q % 2 == 1 else false) = false
        rw [beq_eq_false_iff_ne.2 h3]
        cases l == c - l <;> rfl
      · show (bif l == c - l then q % 2 == 1 else false) = false
        rw [beq_eq_false_iff_ne.2 h2]
        rfl
    · have hg : ¬ q > 4000000000000000000 := by omega
      rw [if_neg hg]
      exact Fr.br_f (decide_eq_false hg) ⟨trivial, rfl⟩

theorem e2_over {c : Int} : (frE2 0 0 false c).ok ∧ (frE2 0 0 false c).get = (0, 5, ()) := by
  unfold frE2
  exact Fr.need_ (fun _ _ h => by cases h) (Fr.br_f rfl (Fr.br_t rfl ⟨trivial, rfl⟩))

def cEvenR : Ct := ⟨[.d i64, .d i64, .d i64], [i64, i64], fun x => ((evenF x.1 x.2.1 x.2.2.1).1, (evenF x.1 x.2.1 x.2.2.1).2, ()), fun _ => []⟩
theorem e1_eq {a b c : Int} (hc : c ≤ 9223372036854775807) : (frE1 (a, b, c, ())).ok ∧ (frE1 (a, b, c, ())).get = ((evenF a b c).1, (evenF a b c).2, ()) := by
  unfold frE1 evenF
  have e : (cChk.f (a, b, c, ())).1 = chkF a b c := rfl
  show (Fr.br ((chkF a b c) != 0) (Fr.val (0, chkF a b c, ())) _).ok ∧ (Fr.br ((chkF a b c) != 0) (Fr.val (0, chkF a b c, ())) _).get = _
  by_cases hn : a < 0 ∨ b < 0 ∨ c < 0
  · have h1 : chkF a b c = 1 := if_pos hn
    rw [h1, if_pos hn]
    exact Fr.br_t rfl ⟨trivial, rfl⟩
  · by_cases hz : c = 0
    · have h1 : chkF a b c = 6 := by unfold chkF; rw [if_neg hn, if_pos hz]
      rw [h1, if_neg hn, if_pos hz]
      exact Fr.br_t rfl ⟨trivial, rfl⟩
    · have h1 : chkF a b c = 0 := by unfold chkF; rw [if_neg hn, if_neg hz]
      rw [h1, if_neg hn, if_neg hz]
      have ha : 0 ≤ a := by omega
      have hb : 0 ≤ b := by omega
      have hc0 : 0 < c := by omega
      refine Fr.br_f rfl (Fr.need_ ha (Fr.need_ hb (Fr.need_ hc0 ?_)))
      show (frE2 (twoF a b c).1 (twoF a b c).2.1 (twoF a b c).2.2 c).ok ∧ (frE2 (twoF a b c).1 (twoF a b c).2.1 (twoF a b c).2.2 c).get = _
      have hp : 0 ≤ a * b := Int.mul_nonneg ha hb
      have hq := Int.ediv_nonneg hp (Int.le_of_lt hc0)
      have r1 := Int.emod_nonneg (a * b) (b := c) hz
      have r2 := Int.emod_lt_of_pos (a * b) hc0
      have hev : evenQ (a * b) c = evq (a * b / c) (a * b % c) c := rfl
      unfold twoF
      by_cases hg : a * b / c > 4000000000000000000
      · rw [if_pos hg]
        have hbig : evenQ (a * b) c > 4000000000000000000 := by
          rw [hev]
          unfold evq
          split <;> omega
        rw [if_pos hbig]
        exact e2_over
      · rw [if_neg hg]
        have := e2_told (q := a * b / c) (l := a * b % c) (c := c) ⟨hq, by omega⟩ ⟨r1, r2⟩ hc
        refine ⟨this.1, this.2.trans ?_⟩
        rw [← hev]
        split <;> rfl

theorem evenR_ok : SoundCt Try.prog 151 cEvenR :=
  convF (fn_sound CE1_ok (Λ := lam0) (fn := Try.f151) (fr := frE1) (ps := [.d i64, .d i64, .d i64]) (rs := [i64, i64]) (0, 0, 0, ()) (by kernel_rfl) (fun c E _ => lam0_ok c 0) (fun x => by kernel_rfl)) _ _
    (fun w F x vs hr _ => by
      obtain ⟨a, b, c, _⟩ := x
      obtain ⟨v1, vs1, rfl, h1, v2, vs2, rfl, h2, v3, vs3, rfl, h3, _⟩ := hr
      exact e1_eq (i64_of h3).2)

noncomputable def CE2 : Cx := cx [(151, cEvenR)] []
theorem CE2_ok : CxOK Try.prog CE2 := cx_ok mixed ⟨evenR_ok, trivial⟩ trivial
theorem bpR_ok : SoundCt Try.prog 133 cBp :=
  flat (ps := [.d i64, .d i64]) (rs := [i64, i64]) CE2_ok (fn := Try.f133) (fr := fun x => Fr.val ((cEvenR.f (x.1, x.2.1, 10000, ())).1, (cEvenR.f (x.1, x.2.1, 10000, ())).2.1, ())) (0, 0, ()) (by kernel_rfl) (fun x => by kernel_rfl) _ _
    (fun _ _ x _ _ _ => ⟨trivial, rfl⟩)

end Go.Proofs.Ytbplccbjgfappaa

/-
  bordereauref07.Version, bordereauref09.One.
-/
namespace Go.Proofs.Ytbplccbjgfappaa
open Go Go.Ab Go.RowKit Go.Proofs

noncomputable def CR7 : Cx := cx [(150, cFactors), (149, cBands)] []
theorem CR7_ok : CxOK Try.prog CR7 := cx_ok mixed ⟨factors_ok, r06_Bands_ok, trivial⟩ trivial

abbrev p7 : Pt := ⟨73, 0, ⟨[(3, .d i64)], [.x 1 79 verT, .r 1 1 0]⟩, ⟨[], [.x 1 79 verT, .r 1 1 0]⟩, ⟨[(2, .d .bool)], []⟩⟩
def baseL (v : verT.den) : List Int := [v.2.1.1, v.2.1.2.1, v.2.1.2.2.1, v.2.1.2.2.2.1]
def f7 (x : p7.M.X) : Fr p7.Out :=
  let k : Int := x.1.1; let v : verT.den := x.2.1
  Fr.br (decide (k < 4))
    (Fr.need (0 ≤ k ∧ k < ((4 : Nat) : Int)) (Fr.need (decide ((baseL v).getD k.toNat 0 < 0) = false → 0 ≤ k ∧ k < ((4 : Nat) : Int))
      (Fr.br (bif decide ((baseL v).getD k.toNat 0 < 0) then true else decide ((baseL v).getD k.toNat 0 > 100000)) (Fr.val (Rd.back ((false, ()), ()))) (Fr.val (Rd.next ((IntKind.i64.wrap (k + 1), ()), (v, ())))))))
    (Fr.val (Rd.out ((), (v, ()))))
theorem sem7 : Does Try.prog (loopF Try.f130 0) p7.M p7 f7 := Does.of_run CR7_ok (bs := 0) rfl rfl rfl (fun _ => lam0_ok _ 0) (fun x => by kernel_rfl)
def In7 (k : Int) : Prop := 0 ≤ k ∧ k ≤ 4
def F7 (x : p7.M.X) : Fr p7.Out := Fr.need (In7 x.1.1) (Fr.br (factorsB ((baseL x.2.1).drop x.1.1.toNat)) (Fr.val (Rd.out ((), (x.2.1, ())))) (Fr.val (Rd.back ((false, ()), ()))))

theorem fac_cons (n : Int) (l : List Int) : factorsB (n :: l) = (!(bif decide (n < 0) then true else decide (n > 100000)) && factorsB l) := by
  have : decide (0 ≤ n ∧ n ≤ 100000) = !(bif decide (n < 0) then true else decide (n > 100000)) := by
    rw [Bool.eq_iff_iff]
    simp
  unfold factorsB
  rw [List.all_cons, this]

theorem law7 (k : Int) (v : verT.den) (hinv : In7 k) (Q : p7.Out → Prop) (hq : (Fr.br (factorsB ((baseL v).drop k.toNat)) (Fr.val (Rd.out ((), (v, ())))) (Fr.val (Rd.back ((false, ()), ()))) : Fr p7.Out).satP Q) :
    (f7 ((k, ()), (v, ()))).satP fun
      | .next x' => In7 x'.1.1 ∧ (4 - x'.1.1).toNat < (4 - k).toNat ∧ (F7 x').satP Q
      | .out y => Q (.out y)
      | .back z => Q (.back z)
      | .pan p => Q (.pan p) := by
  obtain ⟨h1, h2⟩ := hinv
  refine ⟨fun hi => ?_, fun hi => ?_⟩
  · have hi' : k < 4 := of_decide_eq_true hi
    obtain ⟨k, rfl⟩ : ∃ n : Nat, k = n := ⟨k.toNat, by omega⟩
    have hl : k < (baseL v).length := by show k < 4; omega
    have hw : IntKind.i64.wrap ((k : Int) + 1) = k + 1 := IntWalk.i64_in _ (by omega)
    have g1 : (baseL v).getD (k : Int).toNat 0 = (baseL v)[k] := by
      rw [show (k : Int).toNat = k by omega, List.getD_eq_getElem?_getD, List.getElem?_eq_getElem hl]; rfl
    have hd : (baseL v).drop (k : Int).toNat = (baseL v)[k] :: (baseL v).drop (k + 1) := by
      rw [show (k : Int).toNat = k by omega]
      exact List.drop_eq_getElem_cons hl
    rw [hd] at hq
    dsimp only [f7, Fr.satP]
    rw [g1, hw]
    have hf : factorsB ((baseL v)[k] :: (baseL v).drop (k + 1)) = (!(bif decide ((baseL v)[k] < 0) then true else decide ((baseL v)[k] > 100000)) && factorsB ((baseL v).drop (k + 1))) := fac_cons _ _
    refine ⟨⟨by omega, by omega⟩, fun _ => ⟨by omega, by omega⟩, fun hb => ?_, fun hb => ?_⟩
    · rw [hb] at hf
      exact hq.2 hf
    · rw [hb] at hf
      have hf' : factorsB ((baseL v)[k] :: (baseL v).drop (k + 1)) = factorsB ((baseL v).drop (k + 1)) := hf
      rw [hf'] at hq
      have hI : In7 ((k : Int) + 1) := ⟨by omega, by omega⟩
      refine ⟨hI, by show (4 - ((k : Int) + 1)).toNat < (4 - (k : Int)).toNat; omega, hI, ?_⟩
      have : ((k : Int) + 1).toNat = k + 1 := by omega
      show (Fr.br (factorsB ((baseL v).drop ((k : Int) + 1).toNat)) (Fr.val (Rd.out ((), (v, ())))) (Fr.val (Rd.back ((false, ()), ()))) : Fr p7.Out).satP Q
      rw [this]
      exact hq
  · have hi' : ¬ k < 4 := of_decide_eq_false hi
    have : k = 4 := by omega
    subst this
    exact hq.1 rfl
theorem loop7 : Does Try.prog (.loop (loopF Try.f130 0)) p7.M p7 F7 := by
  refine Does.loop (n := 73) (id := 0) sem7 (inv := fun x => In7 x.1.1) (μ := fun x => (4 - x.1.1).toNat) ?_ (fun x Q h => h.1)
  rintro ⟨⟨k, _⟩, v, _⟩ hinv Q hq
  exact law7 k v hinv Q hq.2

def frV7 (x : denP [.d verT]) : Fr (denL [.bool]) :=
  let v : verT.den := x.1
  Fr.need (In7 0) (Fr.br (factorsB ((baseL v).drop (0 : Int).toNat))
    (Fr.br (ver1 v.1 v.2.2.2.2.2.1) (Fr.val (false, ()))
      (Fr.br (ver2 v.2.2.1.length v.2.2.2.1.length v.2.2.2.2.1.length) (Fr.val (false, ()))
        (Fr.val (bif bif (cBands.f (v.2.2.1, ())).1 then (cFactors.f (v.2.2.2.1, ())).1 else false then (cFactors.f (v.2.2.2.2.1, ())).1 else false, ()))))
    (Fr.val (false, ())))
theorem ver7_ok : SoundCt Try.prog 130 cVer :=
  convF (fn_sound CR7_ok (Λ := fun _ => p7.han CR7.Γ p7.M F7) (fn := Try.f130) (fr := frV7) (ps := [.d verT]) (rs := [.bool]) (verT.dflt, ()) (by kernel_rfl)
    (fun c E hc => lam1f hc (by kernel_rfl) (b := loopF Try.f130 0) (by kernel_rfl) (Does.han CR7_ok rfl loop7)) (fun x => by kernel_rfl)) _ _
    (fun _ _ x _ _ _ => by
      obtain ⟨v, _⟩ := x
      show (frV7 (v, ())).ok ∧ (frV7 (v, ())).get = (verB v, ())
      unfold verB
      rw [← ver_dec]
      refine Fr.need_ ⟨by decide, by decide⟩ ?_
      have eb : factorsB [v.2.1.1, v.2.1.2.1, v.2.1.2.2.1, v.2.1.2.2.2.1] = factorsB ((baseL v).drop (0 : Int).toNat) := rfl
      rw [eb]
      cases h0 : factorsB ((baseL v).drop (0 : Int).toNat) with
      | false =>
        refine Fr.br_f rfl ⟨trivial, Prod.ext ?_ rfl⟩
        show false = _
        cases (!(ver1 v.1 v.2.2.2.2.2.1 || ver2 v.2.2.1.length v.2.2.2.1.length v.2.2.2.2.1.length)) <;> rfl
      | true =>
        refine Fr.br_t rfl ?_
        cases h1 : ver1 v.1 v.2.2.2.2.2.1 with
        | true => exact Fr.br_t rfl ⟨trivial, rfl⟩
        | false =>
          refine Fr.br_f rfl ?_
          cases h2 : ver2 v.2.2.1.length v.2.2.2.1.length v.2.2.2.2.1.length with
          | true => exact Fr.br_t rfl ⟨trivial, rfl⟩
          | false =>
            refine Fr.br_f rfl ⟨trivial, Prod.ext ?_ rfl⟩
            show (bif bif bandsL v.2.2.1 then factorsB v.2.2.2.1 else false then factorsB v.2.2.2.2.1 else false) = (true && (true && (factorsB v.2.2.2.1 && (factorsB v.2.2.2.2.1 && bandsL v.2.2.1))))
            cases bandsL v.2.2.1 <;> cases factorsB v.2.2.2.1 <;> cases factorsB v.2.2.2.2.1 <;> rfl)

/-! ### A year of one cover -/

noncomputable def CR9 : Cx := cx [(130, cVer), (127, cRisk), (131, cCover), (132, cBand), (133, cBp)] []
theorem CR9_ok : CxOK Try.prog CR9 := cx_ok mixed ⟨ver7_ok, risk6_ok, cover8_ok, band6_ok, bpR_ok, trivial⟩ trivial

abbrev p9 : Pt := ⟨85, 0, ⟨[(10, .d i64), (8, .d ints), (9, .d i64)], [.x 3 79 verT, .r 3 3 0]⟩, ⟨[(9, .d i64)], [.x 3 79 verT, .r 3 3 0]⟩, ⟨[(6, .d i64), (7, .d i64)], []⟩⟩
def f9 (x : p9.M.X) : Fr p9.Out :=
  let k : Int := x.1.1; let l : List Int := x.1.2.1; let m : Int := x.1.2.2.1; let v : verT.den := x.2.1
  Fr.br (decide (k < (l.length : Int)))
    (Fr.need (0 ≤ k ∧ k < (l.length : Int))
      (Fr.br ((cBp.f (m, l.getD k.toNat 0, ())).2.1 != 0) (Fr.val (Rd.back ((0, (cBp.f (m, l.getD k.toNat 0, ())).2.1, ()), ())))
        (Fr.val (Rd.next ((IntKind.i64.wrap (k + 1), l, (cBp.f (m, l.getD k.toNat 0, ())).1, ()), (v, ()))))))
    (Fr.val (Rd.out ((m, ()), (v, ()))))
theorem sem9 : Does Try.prog (loopF Try.f88 0) p9.M p9 f9 := Does.of_run CR9_ok (bs := 0) rfl rfl rfl (fun _ => lam0_ok _ 0) (fun x => by kernel_rfl)
def In9 (k : Int) (l : List Int) : Prop := 0 ≤ k ∧ k ≤ l.length ∧ (l.length : Int) ≤ 9223372036854775807
def out9 (v : verT.den) (r : Int × Int) : Fr p9.Out := Fr.br (r.2 != 0) (Fr.val (Rd.back ((0, r.2, ()), ()))) (Fr.val (Rd.out ((r.1, ()), (v, ()))))
def F9 (x : p9.M.X) : Fr p9.Out := Fr.need (In9 x.1.1 x.1.2.1) (out9 x.2.1 (bpGo (x.1.2.1.drop x.1.1.toNat) x.1.2.2.1))

theorem law9 (k : Int) (l : List Int) (m : Int) (v : verT.den) (hinv : In9 k l) (Q : p9.Out → Prop) (hq : (out9 v (bpGo (l.drop k.toNat) m)).satP Q) :
    (f9 ((k, l, m, ()), (v, ()))).satP fun
      | .next x' => In9 x'.1.1 x'.1.2.1 ∧ ((List.length (α := Int) x'.1.2.1 : Int) - x'.1.1).toNat < ((l.length : Int) - k).toNat ∧ (F9 x').satP Q
      | .out y => Q (.out y)
      | .back z => Q (.back z)
      | .pan p => Q (.pan p) := by
  obtain ⟨h1, h2, h3⟩ := hinv
  refine ⟨fun hi => ?_, fun hi => ?_⟩
  · have hi' : k < (l.length : Int) := of_decide_eq_true hi
    obtain ⟨k, rfl⟩ : ∃ n : Nat, k = n := ⟨k.toNat, by omega⟩
    have hl : k < l.length := by omega
    have hw : IntKind.i64.wrap ((k : Int) + 1) = k + 1 := IntWalk.i64_in _ (by omega)
    have g1 : l.getD (k : Int).toNat 0 = l[k] := by
      rw [show (k : Int).toNat = k by omega, List.getD_eq_getElem?_getD, List.getElem?_eq_getElem hl]; rfl
    have hd : l.drop (k : Int).toNat = l[k] :: l.drop (k + 1) := by
      rw [show (k : Int).toNat = k by omega]
      exact List.drop_eq_getElem_cons hl
    rw [hd] at hq
    dsimp only [f9, Fr.satP]
    rw [g1, hw]
    refine ⟨⟨by omega, by omega⟩, fun hb => ?_, fun hb => ?_⟩
    · have hb' : ¬ (bpF m l[k]).2 = 0 := bne_iff_ne.1 hb
      have e : bpGo (l[k] :: l.drop (k + 1)) m = bpF m l[k] := if_neg hb'
      rw [e] at hq
      exact hq.1 hb
    · have hb' : (bpF m l[k]).2 = 0 := by
        have : ((bpF m l[k]).2 != 0) = false := hb
        simpa using this
      have e : bpGo (l[k] :: l.drop (k + 1)) m = bpGo (l.drop (k + 1)) (bpF m l[k]).1 := if_pos hb'
      rw [e] at hq
      have hI : In9 ((k : Int) + 1) l := ⟨by omega, by omega, h3⟩
      refine ⟨hI, by show ((l.length : Int) - ((k : Int) + 1)).toNat < ((l.length : Int) - (k : Int)).toNat; omega, hI, ?_⟩
      have : ((k : Int) + 1).toNat = k + 1 := by omega
      show (out9 v (bpGo (l.drop ((k : Int) + 1).toNat) (bpF m l[k]).1)).satP Q
      rw [this]
      exact hq
  · have hi' : ¬ k < (l.length : Int) := of_decide_eq_false hi
    have : l.drop k.toNat = [] := List.drop_eq_nil_of_le (by omega)
    rw [this] at hq
    exact hq.2 rfl
theorem loop9 : Does Try.prog (.loop (loopF Try.f88 0)) p9.M p9 F9 := by
  refine Does.loop (n := 85) (id := 0) sem9 (inv := fun x => In9 x.1.1 x.1.2.1) (μ := fun x => ((List.length (α := Int) x.1.2.1 : Int) - x.1.1).toNat) ?_ (fun x Q h => h.1)
  rintro ⟨⟨k, l, m, _⟩, v, _⟩ hinv Q hq
  exact law9 k l m v hinv Q hq.2

def frOneR (x : denP [.d verT, .d riskT, .d coverT]) : Fr (denL [i64, i64]) :=
  Fr.br (bif bif !(cVer.f (x.1, ())).1 then true else !(cRisk.f (x.2.1, ())).1 then true else !(cCover.f (x.2.2.1, ())).1) (Fr.val (0, 1, ()))
    (Fr.br (decide (x.2.1.2.2.2.1 ≥ x.1.2.2.2.1.length)) (Fr.val (0, 7, ()))
      (Fr.need (0 ≤ x.2.1.1 ∧ x.2.1.1 < ((4 : Nat) : Int))
        (Fr.need (0 ≤ x.2.1.2.2.2.1 ∧ x.2.1.2.2.2.1 < x.1.2.2.2.1.length)
          (Fr.need (0 ≤ x.2.2.1.1 ∧ x.2.2.1.1 < x.1.2.2.2.2.1.length)
            (Fr.need (In9 0 (oneL x.1 x.2.1 x.2.2.1))
              (Fr.br ((bpGo ((oneL x.1 x.2.1 x.2.2.1).drop (0 : Int).toNat) x.2.1.2.1).2 != 0) (Fr.val (0, (bpGo ((oneL x.1 x.2.1 x.2.2.1).drop (0 : Int).toNat) x.2.1.2.1).2, ()))
                (Fr.br (decide ((bpGo ((oneL x.1 x.2.1 x.2.2.1).drop (0 : Int).toNat) x.2.1.2.1).1 < x.1.2.2.2.2.2.1)) (Fr.val (x.1.2.2.2.2.2.1, 0, ())) (Fr.val ((bpGo ((oneL x.1 x.2.1 x.2.2.1).drop (0 : Int).toNat) x.2.1.2.1).1, 0, ())))))))))

theorem oneR_run : SoundCt Try.prog 88 ⟨[.d verT, .d riskT, .d coverT], [i64, i64], fun xs => (frOneR xs).get, fun xs => [(frOneR xs).ok]⟩ :=
  fn_sound CR9_ok (Λ := fun _ => p9.han CR9.Γ p9.M F9) (fn := Try.f88) (fr := frOneR) (ps := [.d verT, .d riskT, .d coverT]) (rs := [i64, i64]) (verT.dflt, riskT.dflt, coverT.dflt, ()) (by kernel_rfl)
    (fun c E hc => lam1f hc (by kernel_rfl) (b := loopF Try.f88 0) (by kernel_rfl) (Does.han CR9_ok rfl loop9)) (fun x => by kernel_rfl)

theorem oneR_eq (v : verT.den) (k val a z : Int) (c : coverT.den) : (frOneR (v, (k, val, a, z, ()), c, ())).ok ∧ (frOneR (v, (k, val, a, z, ()), c, ())).get = ((oneF v (k, val, a, z, ()) c).1, (oneF v (k, val, a, z, ()) c).2, ()) := by
  obtain ⟨p, l, g, d, s, _⟩ := c
  unfold frOneR oneF
  have e0 : (bif bif !(cVer.f (v, ())).1 then true else !(cRisk.f ((k, val, a, z, ()), ())).1 then true else !(cCover.f ((p, l, g, d, s, ()), ())).1) = !(verB v && (riskB k val a z && coverB p l g d s)) := not3 _ _ _
  by_cases h : (verB v && (riskB k val a z && coverB p l g d s)) = true
  · rw [if_pos h]
    refine Fr.br_f (by rw [e0, h]; rfl) ?_
    rw [Bool.and_eq_true, Bool.and_eq_true] at h
    obtain ⟨h1, h2, h3⟩ := h
    obtain ⟨r1, r2, r3⟩ := riskB_kind h2
    obtain ⟨c1, c2⟩ := coverB_peril h3
    have hp := verB_peril h1
    by_cases hz : z ≥ (v.2.2.2.1.length : Int)
    · rw [if_pos hz]
      exact Fr.br_t (decide_eq_true hz) ⟨trivial, rfl⟩
    · rw [if_neg hz]
      have hz' : z < (v.2.2.2.1.length : Int) := Int.not_le.1 hz
      refine Fr.br_f (decide_eq_false hz) (Fr.need_ ⟨r1, by omega⟩ (Fr.need_ ⟨r3, hz'⟩ (Fr.need_ ⟨c1, ?_⟩ (Fr.need_ ⟨Int.le_refl _, Int.natCast_nonneg _, (by show (5 : Int) ≤ 9223372036854775807; decide)⟩ ?_))))
      · show p < (v.2.2.2.2.1.length : Int)
        rw [hp]
        exact c2
      · have ed : (oneL v (k, val, a, z, ()) (p, l, g, d, s, ())).drop (0 : Int).toNat = oneL v (k, val, a, z, ()) (p, l, g, d, s, ()) := rfl
        rw [ed]
        by_cases hb : (bpGo (oneL v (k, val, a, z, ()) (p, l, g, d, s, ())) val).2 = 0
        · have hb' : ((bpGo (oneL v (k, val, a, z, ()) (p, l, g, d, s, ())) val).2 != 0) = false := by rw [hb]; rfl
          rw [if_pos hb]
          refine Fr.br_f hb' ?_
          by_cases hm : (bpGo (oneL v (k, val, a, z, ()) (p, l, g, d, s, ())) val).1 < v.2.2.2.2.2.1
          · exact Fr.br_t (decide_eq_true hm) ⟨trivial, Prod.ext (if_pos hm).symm rfl⟩
          · exact Fr.br_f (decide_eq_false hm) ⟨trivial, Prod.ext (if_neg hm).symm rfl⟩
        · have hb' : ((bpGo (oneL v (k, val, a, z, ()) (p, l, g, d, s, ())) val).2 != 0) = true := bne_iff_ne.2 hb
          rw [if_neg hb]
          exact Fr.br_t hb' ⟨trivial, rfl⟩
  · rw [if_neg h]
    simp only [Bool.not_eq_true] at h
    exact Fr.br_t (by rw [e0, h]; rfl) ⟨trivial, rfl⟩

theorem oneR_ok : SoundCt Try.prog 88 cOne :=
  convF oneR_run _ _ (fun _ _ x _ _ _ => by
    obtain ⟨v, ⟨k, val, a, z, _⟩, c, _⟩ := x
    exact oneR_eq v k val a z c)

end Go.Proofs.Ytbplccbjgfappaa

/-
  bordereauref09.Year.
-/
namespace Go.Proofs.Ytbplccbjgfappaa
open Go Go.Ab Go.RowKit Go.Proofs

noncomputable def CRY : Cx := cx [(88, cOne), (89, cSumM)] []
theorem CRY_ok : CxOK Try.prog CRY := cx_ok mixed ⟨oneR_ok, sumM_ok, trivial⟩ trivial

abbrev pYr : Pt := ⟨45, 0, ⟨[(9, .d i64), (2, .d (.sl coverT))], [.x 3 79 verT, .r 3 3 0, .x 4 25 riskT, .r 4 4 0, .o 8 3 i64]⟩, ⟨[], [.o 8 3 i64]⟩, ⟨[(6, .d i64), (7, .d i64)], []⟩⟩
set_option maxRecDepth 100000 in
def roomI (n m : Nat) : Prop := n + m ≤ maxLen ∧ (n + m) * Try.prog.types[3].bytes ≤ 140737488355328
set_option maxRecDepth 100000 in
theorem bytesInt : Try.prog.types[3].bytes ≤ 8 := by decide
theorem room_int {n m : Nat} (h : n + m ≤ 1000000) : roomI n m := by
  refine ⟨?_, Nat.le_trans (Nat.mul_le_mul h bytesInt) (by decide)⟩
  unfold maxLen
  omega

def fYr (x : pYr.M.X) : Fr pYr.Out :=
  let k : Int := x.1.1; let l : List coverT.den := x.1.2.1; let v : verT.den := x.2.1; let r : riskT.den := x.2.2.1; let o : List Int := x.2.2.2.1
  Fr.br (decide (k < (l.length : Int)))
    (Fr.need (0 ≤ k ∧ k < (l.length : Int))
      (Fr.br ((cOne.f (v, r, l.getD k.toNat coverT.dflt, ())).2.1 != 0) (Fr.val (Rd.back ((0, (cOne.f (v, r, l.getD k.toNat coverT.dflt, ())).2.1, ()), ())))
        (Fr.need (roomI o.length [(cOne.f (v, r, l.getD k.toNat coverT.dflt, ())).1].length)
          (Fr.val (Rd.next ((IntKind.i64.wrap (k + 1), l, ()), (v, r, o ++ [(cOne.f (v, r, l.getD k.toNat coverT.dflt, ())).1], ())))))))
    (Fr.val (Rd.out ((), (o, ()))))
theorem semYr : Does Try.prog (loopF Try.f47 0) pYr.M pYr fYr := Does.of_run CRY_ok (bs := 0) rfl rfl rfl (fun _ => lam0_ok _ 0) (fun x => by kernel_rfl)

/-- The first reason why a cover's year is not told. -/
def onesE (v : verT.den) (r : riskT.den) : List coverT.den → Int
  | [] => 0
  | c :: l => if (oneF v r c).2 = 0 then onesE v r l else (oneF v r c).2
def onesL (v : verT.den) (r : riskT.den) (l : List coverT.den) : List Int := l.map fun c => (oneF v r c).1

structure InYr (k : Int) (l : List coverT.den) (o : List Int) : Prop where
  k0 : 0 ≤ k
  kl : k ≤ l.length
  room : o.length + (l.length - k.toNat) ≤ 1000000
  big : l.length ≤ 1000000
def outYr (e : Int) (o : List Int) : Fr pYr.Out := Fr.br (e != 0) (Fr.val (Rd.back ((0, e, ()), ()))) (Fr.val (Rd.out ((), (o, ()))))
def FYr (x : pYr.M.X) : Fr pYr.Out := Fr.need (InYr x.1.1 x.1.2.1 x.2.2.2.1) (outYr (onesE x.2.1 x.2.2.1 (x.1.2.1.drop x.1.1.toNat)) (x.2.2.2.1 ++ onesL x.2.1 x.2.2.1 (x.1.2.1.drop x.1.1.toNat)))

theorem lawYr (k : Int) (l : List coverT.den) (v : verT.den) (r : riskT.den) (o : List Int) (hinv : InYr k l o) (Q : pYr.Out → Prop) (hq : (outYr (onesE v r (l.drop k.toNat)) (o ++ onesL v r (l.drop k.toNat))).satP Q) :
    (fYr ((k, l, ()), (v, r, o, ()))).satP fun
      | .next x' => InYr x'.1.1 x'.1.2.1 x'.2.2.2.1 ∧ ((List.length (α := coverT.den) x'.1.2.1 : Int) - x'.1.1).toNat < ((l.length : Int) - k).toNat ∧ (FYr x').satP Q
      | .out y => Q (.out y)
      | .back z => Q (.back z)
      | .pan p => Q (.pan p) := by
  obtain ⟨h1, h2, h3, h4⟩ := hinv
  refine ⟨fun hi => ?_, fun hi => ?_⟩
  · have hi' : k < (l.length : Int) := of_decide_eq_true hi
    obtain ⟨k, rfl⟩ : ∃ n : Nat, k = n := ⟨k.toNat, by omega⟩
    have hl : k < l.length := by omega
    have hk : (k : Int).toNat = k := by omega
    rw [hk] at hq h3
    have hw : IntKind.i64.wrap ((k : Int) + 1) = k + 1 := IntWalk.i64_in _ (by omega)
    have g1 : l.getD (k : Int).toNat coverT.dflt = l[k] := by
      rw [hk, List.getD_eq_getElem?_getD, List.getElem?_eq_getElem hl]; rfl
    rw [List.drop_eq_getElem_cons hl] at hq
    dsimp only [fYr, Fr.satP]
    rw [g1, hw]
    refine ⟨⟨by omega, by omega⟩, fun hb => ?_, fun hb => ?_⟩
    · have hb' : ¬ (oneF v r l[k]).2 = 0 := bne_iff_ne.1 hb
      have e : onesE v r (l[k] :: l.drop (k + 1)) = (oneF v r l[k]).2 := if_neg hb'
      rw [e] at hq
      exact hq.1 hb
    · have hb' : (oneF v r l[k]).2 = 0 := by
        have : ((oneF v r l[k]).2 != 0) = false := hb
        simpa using this
      have e : onesE v r (l[k] :: l.drop (k + 1)) = onesE v r (l.drop (k + 1)) := if_pos hb'
      have e2 : o ++ onesL v r (l[k] :: l.drop (k + 1)) = (o ++ [(oneF v r l[k]).1]) ++ onesL v r (l.drop (k + 1)) := by
        rw [List.append_assoc]
        rfl
      rw [e, e2] at hq
      have hk1 : ((k : Int) + 1).toNat = k + 1 := by omega
      have hI : InYr ((k : Int) + 1) l (o ++ [(oneF v r l[k]).1]) := ⟨by omega, by omega, by rw [hk1, List.length_append, List.length_singleton]; omega, h4⟩
      refine ⟨room_int (by show o.length + 1 ≤ _; omega), hI, by show ((l.length : Int) - ((k : Int) + 1)).toNat < ((l.length : Int) - (k : Int)).toNat; omega, hI, ?_⟩
      show (outYr (onesE v r (l.drop ((k : Int) + 1).toNat)) ((o ++ [(oneF v r l[k]).1]) ++ onesL v r (l.drop ((k : Int) + 1).toNat))).satP Q
      rw [hk1]
      exact hq
  · have hi' : ¬ k < (l.length : Int) := of_decide_eq_false hi
    have : l.drop k.toNat = [] := List.drop_eq_nil_of_le (by omega)
    rw [this] at hq
    have hq2 : Q (Rd.out ((), (o ++ [], ()))) := hq.2 rfl
    rw [List.append_nil] at hq2
    exact hq2
theorem loopYr : Does Try.prog (.loop (loopF Try.f47 0)) pYr.M pYr FYr := by
  refine Does.loop (n := 45) (id := 0) semYr (inv := fun x => InYr x.1.1 x.1.2.1 x.2.2.2.1) (μ := fun x => ((List.length (α := coverT.den) x.1.2.1 : Int) - x.1.1).toNat) ?_ (fun x Q h => h.1)
  rintro ⟨⟨k, l, _⟩, v, r, o, _⟩ hinv Q hq
  exact lawYr k l v r o hinv Q hq.2

def frYearR (x : denP [.d verT, .d riskT, .d (.sl coverT)]) : Fr (denL [i64, i64]) :=
  let v : verT.den := x.1; let r : riskT.den := x.2.1; let l : List coverT.den := x.2.2.1
  let o : List Int := [] ++ onesL v r (l.drop (0 : Int).toNat)
  Fr.need (InYr 0 l []) (Fr.br (onesE v r (l.drop (0 : Int).toNat) != 0) (Fr.val (0, onesE v r (l.drop (0 : Int).toNat), ()))
    (Fr.need (∀ e ∈ o, (0 : Int) ≤ e) (Fr.br (!(cSumM.f (o, ())).2.1) (Fr.val (0, 5, ())) (Fr.val ((cSumM.f (o, ())).1, 0, ())))))

theorem yearR_run : SoundCt Try.prog 47 ⟨[.d verT, .d riskT, .d (.sl coverT)], [i64, i64], fun xs => (frYearR xs).get, fun xs => [(frYearR xs).ok]⟩ :=
  fn_sound CRY_ok (Λ := fun _ => pYr.han CRY.Γ pYr.M FYr) (fn := Try.f47) (fr := frYearR) (ps := [.d verT, .d riskT, .d (.sl coverT)]) (rs := [i64, i64]) (verT.dflt, riskT.dflt, [], ()) (by kernel_rfl)
    (fun c E hc => lam1f hc (by kernel_rfl) (b := loopF Try.f47 0) (by kernel_rfl) (Does.han CRY_ok rfl loopYr)) (fun x => by kernel_rfl)

theorem yrGo_err (v : verT.den) (r : riskT.den) : (l : List coverT.den) → (q : Int) → (b : Bool) → (yrGo v r l q b).2.2 = onesE v r l
  | [], _, _ => rfl
  | c :: l, q, b => by
    unfold yrGo onesE
    split
    · split
      · split
        · exact yrGo_err v r l _ _
        · exact yrGo_err v r l _ _
      · exact yrGo_err v r l _ _
    · rfl

theorem yrGo_off (v : verT.den) (r : riskT.den) : (l : List coverT.den) → (q : Int) → onesE v r l = 0 → (yrGo v r l q false).2.1 = false
  | [], _, _ => rfl
  | c :: l, q, h => by
    unfold onesE at h
    unfold yrGo
    split
    · rename_i h1
      rw [if_pos h1] at h
      rw [if_neg (by decide)]
      exact yrGo_off v r l q h
    · rfl

theorem onesL_pos (v : verT.den) (r : riskT.den) : (l : List coverT.den) → onesE v r l = 0 → ∀ e ∈ onesL v r l, (0 : Int) ≤ e
  | [], _, _, he => by cases he
  | c :: l, h, e, he => by
    unfold onesE at h
    by_cases h1 : (oneF v r c).2 = 0
    · rw [if_pos h1] at h
      rcases List.mem_cons.1 he with rfl | he
      · exact oneF_pos h1
      · exact onesL_pos v r l h e he
    · rw [if_neg h1] at h
      exact absurd h h1

theorem sum_pos : (l : List Int) → (∀ e ∈ l, (0 : Int) ≤ e) → 0 ≤ l.sum
  | [], _ => Int.le_refl 0
  | a :: l, h => by
    rw [List.sum_cons]
    have := sum_pos l (fun e he => h e (List.mem_cons_of_mem _ he))
    have := h a (List.mem_cons_self ..)
    omega

theorem yrGo_sum (v : verT.den) (r : riskT.den) : (l : List coverT.den) → (q : Int) → 0 ≤ q → q ≤ 4000000000000000000 → onesE v r l = 0 →
    (q + (onesL v r l).sum ≤ 4000000000000000000 → (yrGo v r l q true).2.1 = true ∧ (yrGo v r l q true).1 = q + (onesL v r l).sum) ∧ (¬ q + (onesL v r l).sum ≤ 4000000000000000000 → (yrGo v r l q true).2.1 = false)
  | [], q, _, h2, _ => by
    refine ⟨fun _ => ⟨rfl, ?_⟩, fun h => absurd ?_ h⟩
    · show q = q + 0
      omega
    · show q + 0 ≤ _
      omega
  | c :: l, q, h1, h2, h => by
    have hp := onesL_pos v r (c :: l) h
    unfold onesE at h
    by_cases h3 : (oneF v r c).2 = 0
    · rw [if_pos h3] at h
      have hs : (onesL v r (c :: l)).sum = (oneF v r c).1 + (onesL v r l).sum := by
        show List.sum ((oneF v r c).1 :: onesL v r l) = _
        rw [List.sum_cons]
      have hsp := sum_pos (onesL v r l) (onesL_pos v r l h)
      have hc := oneF_pos h3
      unfold yrGo
      rw [if_pos h3, if_pos rfl, hs]
      by_cases h4 : (oneF v r c).1 > 4000000000000000000 - q
      · rw [if_pos h4]
        exact ⟨fun hh => absurd hh (by omega), fun _ => yrGo_off v r l q h⟩
      · rw [if_neg h4]
        obtain ⟨ih1, ih2⟩ := yrGo_sum v r l (q + (oneF v r c).1) (by omega) (by omega) h
        refine ⟨fun hh => ?_, fun hh => ih2 (by omega)⟩
        obtain ⟨j1, j2⟩ := ih1 (by omega)
        exact ⟨j1, by rw [j2]; omega⟩
    · rw [if_neg h3] at h
      exact absurd h h3

def cYearR : Ct := ⟨[.d verT, .d riskT, .d (.sl coverT)], [i64, i64], fun x => ((yearF x.1 x.2.1 x.2.2.1).1, (yearF x.1 x.2.1 x.2.2.1).2, ()), fun x => [List.length (α := coverT.den) x.2.2.1 ≤ 1000000]⟩

theorem yearR_eq (v : verT.den) (r : riskT.den) (l : List coverT.den) (hl : l.length ≤ 1000000) : (frYearR (v, r, l, ())).ok ∧ (frYearR (v, r, l, ())).get = ((yearF v r l).1, (yearF v r l).2, ()) := by
  refine Fr.need_ ⟨Int.le_refl _, Int.natCast_nonneg _, by show 0 + (l.length - 0) ≤ _; omega, hl⟩ ?_
  show (Fr.br (onesE v r l != 0) (Fr.val (0, onesE v r l, ())) (Fr.need (∀ e ∈ onesL v r l, (0 : Int) ≤ e) (Fr.br (!(sumM (onesL v r l)).2) (Fr.val (0, 5, ())) (Fr.val ((sumM (onesL v r l)).1, 0, ())))) : Fr (denL [i64, i64])).ok ∧ (Fr.br (onesE v r l != 0) (Fr.val (0, onesE v r l, ())) (Fr.need (∀ e ∈ onesL v r l, (0 : Int) ≤ e) (Fr.br (!(sumM (onesL v r l)).2) (Fr.val (0, 5, ())) (Fr.val ((sumM (onesL v r l)).1, 0, ())))) : Fr (denL [i64, i64])).get = _
  unfold yearF
  rw [yrGo_err]
  by_cases he : onesE v r l = 0
  · obtain ⟨s1, s2⟩ := yrGo_sum v r l 0 (Int.le_refl 0) (by decide) he
    rw [Int.zero_add] at s1 s2
    rw [if_pos he]
    refine Fr.br_f (by rw [he]; rfl) (Fr.need_ (onesL_pos v r l he) ?_)
    unfold sumM
    by_cases hs : (onesL v r l).sum ≤ 4000000000000000000
    · obtain ⟨j1, j2⟩ := s1 hs
      rw [if_pos hs, if_pos j1, j2]
      exact Fr.br_f rfl ⟨trivial, rfl⟩
    · rw [if_neg hs, if_neg (by rw [s2 hs]; decide)]
      exact Fr.br_t rfl ⟨trivial, rfl⟩
  · rw [if_neg he]
    exact Fr.br_t (bne_iff_ne.2 he) ⟨trivial, rfl⟩

theorem yearR_ok : SoundCt Try.prog 47 cYearR :=
  convF yearR_run _ _ (fun w F x vs hr hok => by
    obtain ⟨v, r, l, _⟩ := x
    exact yearR_eq v r l hok)

end Go.Proofs.Ytbplccbjgfappaa

/-
  bordereauref12.Of: its two loops.
-/
namespace Go.Proofs.Ytbplccbjgfappaa
open Go Go.Ab Go.RowKit Go.Proofs

noncomputable def CQ12 : Cx := cx [(42, cHist), (43, cVerAt), (44, cOrder11), (45, cHoldF), (46, cHolds), (47, cYearR)] []
theorem CQ12_ok : CxOK Try.prog CQ12 := cx_ok mixed ⟨r12_Right_ok, ref07_At_ok, order11_ok, holds12_ok, like_ok, yearR_ok, trivial⟩ trivial

abbrev pQA : Pt := ⟨124, 0, ⟨[(13, .d i64), (9, .d ints), (11, .d i64)], [.x 2 31 histT, .r 2 2 0, .x 7 79 verT, .r 7 7 0, .o 10 46 sliceT, .x 12 46 sliceT, .r 12 12 0]⟩, ⟨[(11, .d i64)], [.x 2 31 histT, .r 2 2 0, .x 7 79 verT, .r 7 7 0, .o 10 46 sliceT, .x 12 46 sliceT, .r 12 12 0]⟩, ⟨[], []⟩⟩
abbrev pQB : Pt := ⟨124, 2, ⟨[(16, .d i64)], [.o 10 46 sliceT, .x 7 79 verT, .r 7 7 0]⟩, ⟨[], [.o 10 46 sliceT]⟩, ⟨[(4, .d slsT), (5, .d i64)], []⟩⟩

set_option maxRecDepth 100000 in
def roomS (n m : Nat) : Prop := n + m ≤ maxLen ∧ (n + m) * Try.prog.types[46].bytes ≤ 140737488355328
set_option maxRecDepth 100000 in
theorem bytesS : Try.prog.types[46].bytes ≤ 1000 := by decide
theorem room_s {n m : Nat} (h : n + m ≤ 1000000) : roomS n m := by
  refine ⟨?_, Nat.le_trans (Nat.mul_le_mul h bytesS) (by decide)⟩
  unfold maxLen
  omega

def fQA (x : pQA.M.X) : Fr pQA.Out :=
  let k : Int := x.1.1; let l : List Int := x.1.2.1; let a : Int := x.1.2.2.1; let h : histT.den := x.2.1; let v : verT.den := x.2.2.1; let o : List sliceT.den := x.2.2.2.1; let s : sliceT.den := x.2.2.2.2.1
  let C : changeT.den := h.2.2.2.1.getD (l.getD k.toNat 0).toNat changeT.dflt
  let N : sliceT.den := (cHoldF.f (h, l, C.2.1, ())).1
  Fr.br (decide (k < (l.length : Int)))
    (Fr.need (0 ≤ k ∧ k < (l.length : Int))
      (Fr.need (0 ≤ l.getD k.toNat 0 ∧ l.getD k.toNat 0 < ((List.length (α := changeT.den) h.2.2.2.1 : Nat) : Int))
        (Fr.need (∀ i ∈ l, 0 ≤ i ∧ i < ((chL h).length : Int))
          (Fr.br ((cHolds.f (s, N, ())).1) (Fr.val (Rd.next ((IntKind.i64.wrap (k + 1), l, a, ()), (h, v, o, s, ()))))
            (Fr.need (roomS o.length [((((a, C.2.1, ()), s.2) : sliceT.den))].length)
              (Fr.val (Rd.next ((IntKind.i64.wrap (k + 1), l, C.2.1, ()), (h, v, o ++ [((((a, C.2.1, ()), s.2) : sliceT.den))], N, ())))))))))
    (Fr.val (Rd.out ((a, ()), (h, v, o, s, ()))))
theorem semQA : Does Try.prog (loopF Try.f18 0) pQA.M pQA fQA := Does.of_run CQ12_ok (bs := 0) rfl rfl rfl (fun _ => lam0_ok _ 0) (fun x => by kernel_rfl)

/-- A new slice from each day on which something else holds. -/
def goR (h : histT.den) : List changeT.den → Int → sliceT.den → List sliceT.den → Int × sliceT.den × List sliceT.den
  | [], a, s, o => (a, s, o)
  | c :: l, a, s, o => if holdsB s (holdF h c.2.1 (orderL h) (firstS h)) = true then goR h l a s o else goR h l c.2.1 (holdF h c.2.1 (orderL h) (firstS h)) (o ++ [((a, c.2.1, ()), s.2)])

structure InQA (k : Int) (l : List Int) (h : histT.den) (o : List sliceT.den) : Prop where
  k0 : 0 ≤ k
  kl : k ≤ l.length
  ord : l = orderL h
  room : o.length + (l.length - k.toNat) ≤ 1000000
  big : l.length ≤ 1000000
def endQ (h : histT.den) (v : verT.den) (r : Int × sliceT.den × List sliceT.den) : pQA.Out := Rd.out ((r.1, ()), (h, v, r.2.2, r.2.1, ()))
def FQA (x : pQA.M.X) : Fr pQA.Out :=
  let k : Int := x.1.1; let l : List Int := x.1.2.1; let a : Int := x.1.2.2.1; let h : histT.den := x.2.1; let v : verT.den := x.2.2.1; let o : List sliceT.den := x.2.2.2.1; let s : sliceT.den := x.2.2.2.2.1
  Fr.need (InQA k l h o) (Fr.val (endQ h v (goR h ((l.drop k.toNat).map (chAt h)) a s o)))

theorem lawQA (k : Int) (l : List Int) (a : Int) (h : histT.den) (v : verT.den) (o : List sliceT.den) (s : sliceT.den) (hinv : InQA k l h o) (Q : pQA.Out → Prop)
    (hq : Q (endQ h v (goR h ((l.drop k.toNat).map (chAt h)) a s o))) :
    (fQA ((k, l, a, ()), (h, v, o, s, ()))).satP fun
      | .next x' => InQA x'.1.1 x'.1.2.1 x'.2.1 x'.2.2.2.1 ∧ ((List.length (α := Int) x'.1.2.1 : Int) - x'.1.1).toNat < ((l.length : Int) - k).toNat ∧ (FQA x').satP Q
      | .out y => Q (.out y)
      | .back z => Q (.back z)
      | .pan p => Q (.pan p) := by
  obtain ⟨h1, h2, h3, h4, h5⟩ := hinv
  refine ⟨fun hi => ?_, fun hi => ?_⟩
  · have hi' : k < (l.length : Int) := of_decide_eq_true hi
    obtain ⟨k, rfl⟩ : ∃ n : Nat, k = n := ⟨k.toNat, by omega⟩
    have hl : k < l.length := by omega
    have hk : (k : Int).toNat = k := by omega
    rw [hk] at hq h4
    have hw : IntKind.i64.wrap ((k : Int) + 1) = k + 1 := IntWalk.i64_in _ (by omega)
    have g1 : l.getD (k : Int).toNat 0 = l[k] := by
      rw [hk, List.getD_eq_getElem?_getD, List.getElem?_eq_getElem hl]; rfl
    rw [List.drop_eq_getElem_cons hl, List.map_cons] at hq
    have hmem : ∀ i ∈ l, 0 ≤ i ∧ i < ((chL h).length : Int) := fun i him => orderL_mem (by rw [← h3]; exact him)
    have hC : h.2.2.2.1.getD (l[k]).toNat changeT.dflt = chAt h l[k] := rfl
    dsimp only [fQA, Fr.satP]
    rw [g1, hw, hC]
    have hN : (cHoldF.f (h, l, (chAt h l[k]).2.1, ())).1 = holdF h (chAt h l[k]).2.1 (orderL h) (firstS h) := congrArg (fun m => holdF h (chAt h l[k]).2.1 m (firstS h)) h3
    rw [hN]
    have hk1 : ((k : Int) + 1).toNat = k + 1 := by omega
    have hμ : ((l.length : Int) - ((k : Int) + 1)).toNat < ((l.length : Int) - (k : Int)).toNat := by omega
    refine ⟨⟨by omega, by omega⟩, hmem _ (List.getElem_mem hl), hmem, fun hb => ?_, fun hb => ?_⟩
    · have hb' : holdsB s (holdF h (chAt h l[k]).2.1 (orderL h) (firstS h)) = true := hb
      have e : goR h (chAt h l[k] :: (l.drop (k + 1)).map (chAt h)) a s o = goR h ((l.drop (k + 1)).map (chAt h)) a s o := if_pos hb'
      rw [e] at hq
      have hI : InQA ((k : Int) + 1) l h o := ⟨by omega, by omega, h3, by rw [hk1]; omega, h5⟩
      refine ⟨hI, hμ, hI, ?_⟩
      show Q (endQ h v (goR h ((l.drop ((k : Int) + 1).toNat).map (chAt h)) a s o))
      rw [hk1]
      exact hq
    · have hb' : ¬ holdsB s (holdF h (chAt h l[k]).2.1 (orderL h) (firstS h)) = true := by
        have : holdsB s (holdF h (chAt h l[k]).2.1 (orderL h) (firstS h)) = false := hb
        rw [this]
        decide
      have e : goR h (chAt h l[k] :: (l.drop (k + 1)).map (chAt h)) a s o = goR h ((l.drop (k + 1)).map (chAt h)) (chAt h l[k]).2.1 (holdF h (chAt h l[k]).2.1 (orderL h) (firstS h)) (o ++ [((a, (chAt h l[k]).2.1, ()), s.2)]) := if_neg hb'
      rw [e] at hq
      have hI : InQA ((k : Int) + 1) l h (o ++ [((((a, (chAt h l[k]).2.1, ()), s.2) : sliceT.den))]) := ⟨by omega, by omega, h3, by rw [hk1, List.length_append, List.length_singleton]; omega, h5⟩
      refine ⟨room_s (by show o.length + 1 ≤ _; omega), hI, hμ, hI, ?_⟩
      show Q (endQ h v (goR h ((l.drop ((k : Int) + 1).toNat).map (chAt h)) (chAt h l[k]).2.1 (holdF h (chAt h l[k]).2.1 (orderL h) (firstS h)) (o ++ [((a, (chAt h l[k]).2.1, ()), s.2)])))
      rw [hk1]
      exact hq
  · have hi' : ¬ k < (l.length : Int) := of_decide_eq_false hi
    have : l.drop k.toNat = [] := List.drop_eq_nil_of_le (by omega)
    rw [this] at hq
    exact hq
theorem loopA12 : Does Try.prog (.loop (loopF Try.f18 0)) pQA.M pQA FQA := by
  refine Does.loop (n := 124) (id := 0) semQA (inv := fun x => InQA x.1.1 x.1.2.1 x.2.1 x.2.2.2.1) (μ := fun x => ((List.length (α := Int) x.1.2.1 : Int) - x.1.1).toNat) ?_ (fun x Q h => h.1)
  rintro ⟨⟨k, l, a, _⟩, h, v, o, s, _⟩ hinv Q hq
  exact lawQA k l a h v o s hinv Q hq.2

/-! ### What a year of each costs -/

def fQB (x : pQB.M.X) : Fr pQB.Out :=
  let k : Int := x.1.1; let o : List sliceT.den := x.2.1; let v : verT.den := x.2.2.1
  let s : sliceT.den := o.getD k.toNat sliceT.dflt
  Fr.br (decide (k < (o.length : Int)))
    (Fr.need (0 ≤ k ∧ k < (o.length : Int)) (Fr.need (k.toNat < o.length)
      (Fr.br (!s.2.1) (Fr.val (Rd.next ((IntKind.i64.wrap (k + 1), ()), (o, v, ()))))
        (Fr.need (0 ≤ k ∧ k < (o.length : Int)) (Fr.need (k.toNat < o.length) (Fr.need (0 ≤ k ∧ k < (o.length : Int)) (Fr.need (k.toNat < o.length)
          (Fr.need (List.length (α := coverT.den) s.2.2.2.1 ≤ 1000000)
            (Fr.br ((cYearR.f (v, s.2.2.1, s.2.2.2.1, ())).2.1 != 0) (Fr.val (Rd.back (([], (cYearR.f (v, s.2.2.1, s.2.2.2.1, ())).2.1, ()), ())))
              (Fr.need (0 ≤ k ∧ k < (o.length : Int)) (Fr.need (k.toNat < o.length)
                (Fr.val (Rd.next ((IntKind.i64.wrap (k + 1), ()), (o.set k.toNat (setY s (cYearR.f (v, s.2.2.1, s.2.2.2.1, ())).1), v, ())))))))))))))))
    (Fr.val (Rd.out ((), (o, ()))))
theorem semQB : Does Try.prog (loopF Try.f18 1) pQB.M pQB fQB := Does.of_run CQ12_ok (bs := 0) rfl rfl rfl (fun _ => lam0_ok _ 0) (fun x => by kernel_rfl)

structure InQB (k : Int) (o : List sliceT.den) : Prop where
  k0 : 0 ≤ k
  kl : k ≤ o.length
  big : o.length ≤ 1000002
  few : ∀ s ∈ o, s.2.2.2.1.length ≤ 1000000
def outQB (l : List sliceT.den) (e : Int) : Fr pQB.Out := Fr.br (e != 0) (Fr.val (Rd.back (([], e, ()), ()))) (Fr.val (Rd.out ((), (l, ()))))
def FQB (x : pQB.M.X) : Fr pQB.Out :=
  let k : Int := x.1.1; let o : List sliceT.den := x.2.1; let v : verT.den := x.2.2.1
  Fr.need (InQB k o) (outQB (o.take k.toNat ++ (o.drop k.toNat).map (priceV v)) (errP v (o.drop k.toNat)))

theorem lawQB (k : Int) (l : List sliceT.den) (v : verT.den) (hinv : InQB k l) (Q : pQB.Out → Prop) (hq : (outQB (l.take k.toNat ++ (l.drop k.toNat).map (priceV v)) (errP v (l.drop k.toNat))).satP Q) :
    (fQB ((k, ()), (l, v, ()))).satP fun
      | .next x' => InQB x'.1.1 x'.2.1 ∧ ((List.length (α := sliceT.den) x'.2.1 : Int) - x'.1.1).toNat < ((l.length : Int) - k).toNat ∧ (FQB x').satP Q
      | .out y => Q (.out y)
      | .back z => Q (.back z)
      | .pan p => Q (.pan p) := by
  obtain ⟨h0, h1, h2, h3⟩ := hinv
  obtain ⟨i', rfl⟩ : ∃ n : Nat, k = n := ⟨k.toNat, by omega⟩
  simp only [Int.toNat_natCast] at hq
  dsimp only [fQB, Fr.satP, Ty.den, PT.den]
  simp only [Int.toNat_natCast]
  refine ⟨fun hi => ?_, fun hi => ?_⟩
  · have hlt : i' < l.length := by have : (i' : Int) < (l.length : Int) := of_decide_eq_true hi; omega
    have w : IntKind.i64.wrap ((i' : Int) + 1) = (i' + 1 : Nat) := succ_nat (by omega)
    rw [w]
    have hg : l.getD i' sliceT.dflt = l[i'] := by rw [List.getD_eq_getElem?_getD, List.getElem?_eq_getElem hlt]; rfl
    have hd : l.drop i' = l.getD i' sliceT.dflt :: l.drop (i' + 1) := by rw [hg]; exact List.drop_eq_getElem_cons hlt
    have hμ : ((l.length : Int) - ((i' + 1 : Nat) : Int)).toNat < ((l.length : Int) - (i' : Int)).toNat := by omega
    have hb : 0 ≤ (i' : Int) ∧ (i' : Int) < (l.length : Int) := ⟨by omega, by omega⟩
    have hmem : l.getD i' sliceT.dflt ∈ l := by rw [hg]; exact List.getElem_mem hlt
    have hfew := h3 _ hmem
    rw [hd] at hq
    generalize hs : l.getD i' sliceT.dflt = s at *
    have htk : l.take (i' + 1) = l.take i' ++ [s] := by
      rw [hg]
      exact (List.take_append_getElem hlt).symm
    refine ⟨hb, hlt, fun hoff => ?_, fun hon => ⟨hb, hlt, hb, hlt, hfew, fun he => ?_, fun he => ⟨hb, hlt, ?_⟩⟩⟩
    · have hoff' : ¬ s.2.1 = true := by
        intro hx
        rw [hx] at hoff
        cases hoff
      have hI : InQB ((i' + 1 : Nat) : Int) l := ⟨by omega, by omega, h2, h3⟩
      refine ⟨hI, hμ, hI, ?_⟩
      have e1 : errP v (s :: l.drop (i' + 1)) = errP v (l.drop (i' + 1)) := if_neg hoff'
      have e2 : priceV v s = s := if_neg hoff'
      rw [e1, List.map_cons, e2] at hq
      show (outQB (l.take (i' + 1) ++ (l.drop (i' + 1)).map (priceV v)) (errP v (l.drop (i' + 1)))).satP Q
      rw [htk, List.append_assoc]
      exact hq
    · have hon' : s.2.1 = true := by
        cases hx : s.2.1 with
        | true => rfl
        | false => rw [hx] at hon; cases hon
      have he' : ¬ (yrS v s).2 = 0 := bne_iff_ne.1 he
      have e1 : errP v (s :: l.drop (i' + 1)) = (yrS v s).2 := by
        unfold errP
        rw [if_pos hon', if_neg he']
      rw [e1] at hq
      exact hq.1 he
    · have hon' : s.2.1 = true := by
        cases hx : s.2.1 with
        | true => rfl
        | false => rw [hx] at hon; cases hon
      have he' : (yrS v s).2 = 0 := by
        have : ((yrS v s).2 != 0) = false := he
        simpa using this
      have hlen : (l.set i' (setY s (yrS v s).1)).length = l.length := List.length_set
      have hI : InQB ((i' + 1 : Nat) : Int) (l.set i' (setY s (yrS v s).1)) := ⟨by omega, by rw [hlen]; omega, by rw [hlen]; exact h2, fun t ht => by
        rcases List.mem_or_eq_of_mem_set ht with ht | rfl
        · exact h3 t ht
        · exact hfew⟩
      refine ⟨hI, by show ((List.length (l.set i' (setY s (yrS v s).1)) : Int) - ((i' + 1 : Nat) : Int)).toNat < _; rw [hlen]; exact hμ, hI, ?_⟩
      have e1 : errP v (s :: l.drop (i' + 1)) = errP v (l.drop (i' + 1)) := by
        conv => lhs; unfold errP
        rw [if_pos hon', if_pos he']
      have e2 : priceV v s = setY s (yrS v s).1 := if_pos hon'
      rw [e1, List.map_cons, e2] at hq
      show (outQB ((l.set i' (setY s (yrS v s).1)).take (i' + 1) ++ ((l.set i' (setY s (yrS v s).1)).drop (i' + 1)).map (priceV v)) (errP v ((l.set i' (setY s (yrS v s).1)).drop (i' + 1)))).satP Q
      have e3 : (l.set i' (setY s (yrS v s).1)).drop (i' + 1) = l.drop (i' + 1) := List.drop_set_of_lt (by omega)
      have e4 : (l.set i' (setY s (yrS v s).1)).take (i' + 1) = l.take i' ++ [setY s (yrS v s).1] := by
        rw [List.take_add_one, List.take_set_of_le (by omega)]
        simp [hlt]
      rw [e3, e4, List.append_assoc]
      exact hq
  · have hge : ¬ i' < l.length := by have : ¬ (i' : Int) < (l.length : Int) := of_decide_eq_false hi; omega
    rw [List.drop_eq_nil_of_le (by omega), List.take_of_length_le (by omega)] at hq
    have hq' := hq.2 rfl
    simp only [List.map_nil, List.append_nil] at hq'
    exact hq'
theorem loopB12 : Does Try.prog (.loop (loopF Try.f18 1)) pQB.M pQB FQB := by
  refine Does.loop (n := 124) (id := 2) semQB (inv := fun x => InQB x.1.1 x.2.1) (μ := fun x => ((List.length (α := sliceT.den) x.2.1 : Int) - x.1.1).toNat) ?_ (fun x Q h => h.1)
  rintro ⟨⟨k, _⟩, l, v, _⟩ hinv Q hq
  exact lawQB k l v hinv Q hq.2

end Go.Proofs.Ytbplccbjgfappaa

/-
  bordereauref12.Of is slices.Of.
-/
namespace Go.Proofs.Ytbplccbjgfappaa
open Go Go.Ab Go.RowKit Go.Proofs

def frQ2 (v : verT.den) (L : List sliceT.den) : Fr (denL [slsT, i64]) :=
  Fr.need (InQB 0 L) (Fr.br (errP v (L.drop (0 : Int).toNat) != 0) (Fr.val ([], errP v (L.drop (0 : Int).toNat), ())) (Fr.val (L.take (0 : Int).toNat ++ (L.drop (0 : Int).toNat).map (priceV v), 0, ())))
def lastQ (b : Int) (r : Int × sliceT.den × List sliceT.den) : sliceT.den := ((r.1, b, ()), r.2.1.2)
def frQ1 (v : verT.den) (b : Int) (r : Int × sliceT.den × List sliceT.den) : Fr (denL [slsT, i64]) :=
  Fr.need (roomS r.2.2.length [lastQ b r].length) (frQ2 v (r.2.2 ++ [lastQ b r]))
def runR (h : histT.den) : Int × sliceT.den × List sliceT.den := goR h (((orderL h).drop (0 : Int).toNat).map (chAt h)) h.2.2.1.1.1 (cHoldF.f (h, orderL h, h.2.2.1.1.1, ())).1 []
def frQ (x : denP [.d histT, .d tarT]) : Fr (denL [slsT, i64]) :=
  let h : histT.den := x.1; let t : tarT.den := x.2.1
  Fr.br (!(cHist.f (h, ())).1) (Fr.val ([], 1, ()))
    (Fr.br ((cVerAt.f (t, h.2.2.1.1.1, ())).2.1 != 0) (Fr.val ([], (cVerAt.f (t, h.2.2.1.1.1, ())).2.1, ()))
      (Fr.need (((chL h).length : Int) ≤ 1000000)
        (Fr.need (∀ i ∈ orderL h, 0 ≤ i ∧ i < ((chL h).length : Int))
          (Fr.need (InQA 0 (orderL h) h [])
            (frQ1 (cVerAt.f (t, h.2.2.1.1.1, ())).1 h.2.2.1.1.2.1 (runR h))))))

theorem q_run : SoundCt Try.prog 18 ⟨[.d histT, .d tarT], [slsT, i64], fun xs => (frQ xs).get, fun xs => [(frQ xs).ok]⟩ :=
  fn_sound CQ12_ok (Λ := (fun k => if k = 0 then pQA.han CQ12.Γ pQA.M FQA else pQB.han CQ12.Γ pQB.M FQB)) (fn := Try.f18) (fr := frQ) (ps := [.d histT, .d tarT]) (rs := [slsT, i64]) (histT.dflt, tarT.dflt, ()) (by kernel_rfl)
    (fun c E hc => lam2f hc (by kernel_rfl) (b0 := loopF Try.f18 0) (b1 := loopF Try.f18 1) (by kernel_rfl) (by kernel_rfl) (Does.han CQ12_ok rfl loopA12) (Does.han CQ12_ok rfl loopB12)) (fun x => by kernel_rfl)

/-! ### The law, plain -/

theorem holdF_span (h : histT.den) (d : Int) : (l : List Int) → (s : sliceT.den) → (holdF h d l s).2.2.2.2.1 = s.2.2.2.2.1
  | [], _ => rfl
  | i :: l, s => by
    unfold holdF
    rw [holdF_span h d l]
    split
    · rfl
    · exact (does_span s _).2

/-- What holds on a day, as the document tells it. -/
def nxQ (h : histT.den) (d : Int) : sliceT.den := holdF h d (orderL h) (firstS h)
theorem nxQ_core (h : histT.den) (d : Int) : coreS (nxQ h d) = stOf h d := holdF_core h d (orderL h) (firstS h)
theorem nxQ_yearly (h : histT.den) (d : Int) : (nxQ h d).2.2.2.2.1 = (0 : Int) := holdF_span h d (orderL h) (firstS h)

theorem Runs.snoc {st : Int → Core} {m n : Int} {s : sliceT.den} (h1 : s.1.1 = m) (h2 : s.1.2.1 = n) (h3 : m < n) (h4 : s.2.2.2.2.1 = (0 : Int)) (h5 : ∀ d, m ≤ d → d < n → coreS s = st d) :
    {a : Int} → {l : List sliceT.den} → Runs st m a l → (∀ t, l.getLast? = some t → coreS t ≠ coreS s) → Runs st n a (l ++ [s])
  | a, [], h, _ => by
    have h0 : a = m := h
    subst h0
    exact ⟨h1, by rw [h2]; exact h3, h4, by rw [h2]; exact h5, fun t ht => (by cases ht), h2⟩
  | a, t :: l, h, hl => by
    obtain ⟨k1, k2, k3, k4, k5, k6⟩ := h
    refine ⟨k1, k2, k3, k4, ?_, Runs.snoc h1 h2 h3 h4 h5 k6 (fun u hu => hl u ?_)⟩
    · intro u hu
      cases l with
      | nil =>
        have hu' : some s = some u := hu
        cases hu'
        exact hl t rfl
      | cons x l => exact k5 u hu
    · cases l with
      | nil => cases hu
      | cons x l => rw [List.getLast?_cons_cons]; exact hu

/-- Between changes the same holds. -/
theorem st_same {h : histT.den} {a d : Int} (had : a ≤ d) (hn : ∀ c ∈ chsO h, c.2.1 ≤ a ∨ d < c.2.1) : stOf h d = stOf h a := by
  unfold stOf
  rw [← holdK_filter d (chsO h), ← holdK_filter a (chsO h)]
  have : ((chsO h).filter fun c => decide (c.2.1 ≤ d)) = (chsO h).filter fun c => decide (c.2.1 ≤ a) := by
    apply List.filter_congr
    intro c hc
    rw [decide_eq_decide]
    rcases hn c hc with q | q
    · exact ⟨fun _ => q, fun _ => Int.le_trans q had⟩
    · exact ⟨fun q2 => absurd q (Int.not_lt.2 q2), fun q2 => Int.le_trans q2 had⟩
  rw [this]
  refine holdK_all (fun c hc => ?_) (fun c hc => ?_) _
  · have := of_decide_eq_true (List.mem_filter.1 hc).2
    exact Int.le_trans this had
  · exact of_decide_eq_true (List.mem_filter.1 hc).2

def finQ (b : Int) (r : Int × sliceT.den × List sliceT.den) : List sliceT.den := r.2.2 ++ [lastQ b r]

theorem core_span (x : spanT.den) (s : sliceT.den) : coreS ((x, s.2) : sliceT.den) = coreS s := rfl

theorem goR_runs {h : histT.den} {a0 b : Int} : (l p : List changeT.den) → p ++ l = chsO h → (a lo : Int) → (s : sliceT.den) → (o : List sliceT.den) → (∀ x ∈ p, x.2.1 ≤ lo) → a ≤ lo → lo < b → (∀ d, a ≤ d → d ≤ lo → stOf h d = coreS s) → s.2.2.2.2.1 = (0 : Int) →
    Runs (stOf h) a a0 o → (∀ t, o.getLast? = some t → coreS t ≠ coreS s) → (∀ x ∈ l, lo ≤ x.2.1 ∧ x.2.1 < b) → l.Pairwise (fun x y => x.2.1 ≤ y.2.1) → Runs (stOf h) b a0 (finQ b (goR h l a s o))
  | [], p, hp, a, lo, s, o, h1, h2, h3, h4, h5, h6, h7, _, _ => by
    rw [List.append_nil] at hp
    refine Runs.snoc (s := ((a, b, ()), s.2)) rfl rfl (Int.lt_of_le_of_lt h2 h3) h5 (fun d q1 q2 => ?_) h6 h7
    show coreS s = stOf h d
    by_cases hd : d ≤ lo
    · exact (h4 d q1 hd).symm
    · rw [st_same (a := lo) (d := d) (Int.le_of_lt (Int.not_le.1 hd)) (fun c hc => .inl (h1 c (by rw [hp]; exact hc)))]
      exact (h4 lo h2 (Int.le_refl _)).symm
  | c :: l, p, hp, a, lo, s, o, h1, h2, h3, h4, h5, h6, h7, h8, h9 => by
    obtain ⟨c1, c2⟩ := h8 c (List.mem_cons_self ..)
    have hpw := List.pairwise_cons.1 h9
    have hcut : ∀ x ∈ chsO h, x.2.1 ≤ lo ∨ c.2.1 ≤ x.2.1 := fun x hx => by
      rw [← hp, List.mem_append] at hx
      rcases hx with hx | hx
      · exact .inl (h1 x hx)
      · rcases List.mem_cons.1 hx with rfl | hx
        · exact .inr (Int.le_refl _)
        · exact .inr (hpw.1 x hx)
    have hmid : ∀ d, a ≤ d → d < c.2.1 → stOf h d = coreS s := fun d q1 q2 => by
      by_cases hd : d ≤ lo
      · exact h4 d q1 hd
      · rw [st_same (a := lo) (d := d) (Int.le_of_lt (Int.not_le.1 hd)) (fun x hx => (hcut x hx).imp_right fun q => Int.lt_of_lt_of_le q2 q)]
        exact h4 lo h2 (Int.le_refl _)
    have hp' : (p ++ [c]) ++ l = chsO h := by
      rw [List.append_assoc]
      exact hp
    have hpl : ∀ x ∈ p ++ [c], x.2.1 ≤ c.2.1 := fun x hx => by
      rcases List.mem_append.1 hx with hx | hx
      · exact Int.le_trans (h1 x hx) c1
      · rw [List.mem_singleton.1 hx]
        exact Int.le_refl _
    have hll : ∀ x ∈ l, c.2.1 ≤ x.2.1 ∧ x.2.1 < b := fun x hx => ⟨hpw.1 x hx, (h8 x (List.mem_cons_of_mem _ hx)).2⟩
    unfold goR
    by_cases hlike : holdsB s (holdF h c.2.1 (orderL h) (firstS h)) = true
    · rw [if_pos hlike]
      have hc : coreS s = stOf h c.2.1 := (holdsB_iff.1 hlike).trans (nxQ_core h c.2.1)
      refine goR_runs l (p ++ [c]) hp' a c.2.1 s o hpl (Int.le_trans h2 c1) c2 (fun d q1 q2 => ?_) h5 h6 h7 hll hpw.2
      by_cases hd : d < c.2.1
      · exact hmid d q1 hd
      · have : d = c.2.1 := Int.le_antisymm q2 (Int.not_lt.1 hd)
        rw [this]
        exact hc.symm
    · rw [if_neg hlike]
      have hne : coreS s ≠ stOf h c.2.1 := fun hh => hlike (holdsB_iff.2 (hh.trans (nxQ_core h c.2.1).symm))
      have hlt : a < c.2.1 := by
        apply Classical.byContradiction
        intro hn
        have hge := Int.not_lt.1 hn
        have e : c.2.1 = a := Int.le_antisymm hge (Int.le_trans h2 c1)
        exact hne (by rw [e]; exact (h4 a (Int.le_refl _) h2).symm)
      refine goR_runs l (p ++ [c]) hp' c.2.1 c.2.1 (nxQ h c.2.1) (o ++ [((a, c.2.1, ()), s.2)]) hpl (Int.le_refl _) c2 (fun d q1 q2 => ?_) (nxQ_yearly h c.2.1) ?_ ?_ hll hpw.2
      · have : d = c.2.1 := Int.le_antisymm q2 q1
        rw [this]
        exact (nxQ_core h c.2.1).symm
      · exact Runs.snoc (s := ((a, c.2.1, ()), s.2)) rfl rfl hlt h5 (fun d q1 q2 => (hmid d q1 q2).symm) h6 h7
      · intro t ht
        rw [List.getLast?_concat] at ht
        cases ht
        rw [nxQ_core]
        exact hne

theorem goR_length (h : histT.den) : (l : List changeT.den) → (a : Int) → (s : sliceT.den) → (o : List sliceT.den) → (goR h l a s o).2.2.length ≤ o.length + l.length
  | [], _, _, _ => Nat.le_refl _
  | c :: l, a, s, o => by
    unfold goR
    split
    · have := goR_length h l a s o
      rw [List.length_cons]
      omega
    · have := goR_length h l c.2.1 (holdF h c.2.1 (orderL h) (firstS h)) (o ++ [((a, c.2.1, ()), s.2)])
      rw [List.length_append, List.length_singleton] at this
      rw [List.length_cons]
      omega

theorem runR_cut {h : histT.den} (hh : histB h = true) : finQ h.2.2.1.1.2.1 (runR h) = cutL h := by
  have ho := histOk hh
  refine Runs.uniq ?_ (cutL_runs hh)
  refine goR_runs (h := h) (chsO h) [] rfl h.2.2.1.1.1 h.2.2.1.1.1 (nxQ h h.2.2.1.1.1) [] (fun x hx => (by cases hx)) (Int.le_refl _) ho.ab (fun d q1 q2 => ?_) (nxQ_yearly h _) rfl (fun t ht => (by cases ht)) (fun x hx => ?_) (chsO_sorted h)
  · have : d = h.2.2.1.1.1 := Int.le_antisymm q2 q1
    rw [this]
    exact (nxQ_core h _).symm
  · exact (ho.chs x (chsO_mem hx)).2

theorem Runs.memQ {st : Int → Core} {b : Int} : {a : Int} → {l : List sliceT.den} → Runs st b a l → ∀ s ∈ l, a ≤ s.1.1 ∧ s.1.1 < s.1.2.1 ∧ s.1.2.1 ≤ b ∧ ∀ d, s.1.1 ≤ d → d < s.1.2.1 → coreS s = st d
  | _, [], _, _, hs => by cases hs
  | a, t :: l, h, s, hs => by
    obtain ⟨h1, h2, h3, h4, h5, h6⟩ := h
    rcases List.mem_cons.1 hs with rfl | hs
    · rw [h1]
      exact ⟨Int.le_refl _, h2, h6.le, h4⟩
    · obtain ⟨q1, q2⟩ := Runs.memQ h6 s hs
      exact ⟨Int.le_trans (Int.le_of_lt h2) q1, q2⟩

theorem holdK_few {d : Int} {n : Nat} : (l : List changeT.den) → (k : Core) → (∀ c ∈ l, c.2.2.2.2.1.length ≤ n) → k.2.2.length ≤ n → (holdK d l k).2.2.length ≤ n
  | [], _, _, hk => hk
  | c :: l, k, hl, hk => by
    unfold holdK
    refine holdK_few l _ (fun x hx => hl x (List.mem_cons_of_mem _ hx)) ?_
    split
    · exact hk
    · unfold doesK
      repeat' split
      all_goals first | exact hk | exact hl c (List.mem_cons_self ..)

theorem cutL_few {h : histT.den} (hh : histB h = true) (hf : fewH h) : ∀ s ∈ cutL h, s.2.2.2.1.length ≤ 1000000 := fun s hs => by
  obtain ⟨_, m2, _, m4⟩ := (cutL_runs hh).memQ s hs
  have hc := m4 s.1.1 (Int.le_refl _) m2
  have e : s.2.2.2.1 = (stOf h s.1.1).2.2 := congrArg (fun k : Core => k.2.2) hc
  rw [e]
  exact holdK_few (chsO h) _ (fun c hc => hf.2.2 c (chsO_mem hc)) hf.2.1

theorem q2_eq {v : verT.den} {L : List sliceT.den} (hl : L.length ≤ 1000002) (hf : ∀ s ∈ L, s.2.2.2.1.length ≤ 1000000) :
    (frQ2 v L).ok ∧ (frQ2 v L).get = if errP v L = 0 then (L.map (priceV v), 0, ()) else ([], errP v L, ()) := by
  refine Fr.need_ ⟨Int.le_refl _, Int.natCast_nonneg _, hl, hf⟩ ?_
  by_cases he : errP v L = 0
  · rw [if_pos he]
    exact Fr.br_f (by show (errP v L != 0) = false; rw [he]; rfl) ⟨trivial, rfl⟩
  · rw [if_neg he]
    exact Fr.br_t (bne_iff_ne.2 he) ⟨trivial, rfl⟩

theorem of12_ok : SoundCt Try.prog 18 cOf :=
  convF q_run _ _ (fun w F x vs hr hok => by
    obtain ⟨h, t, _⟩ := x
    obtain ⟨hf, f4⟩ : fewH h ∧ fewT t := hok
    show (frQ (h, t, ())).ok ∧ (frQ (h, t, ())).get = ((ofF h t).1, (ofF h t).2, ())
    unfold ofF
    cases hh : histB h with
    | false =>
      refine Fr.br_t ?_ ⟨trivial, rfl⟩
      show (!(histB h)) = true
      rw [hh]
      rfl
    | true =>
      rw [if_pos rfl]
      refine Fr.br_f ?_ ?_
      · show (!(histB h)) = false
        rw [hh]
        rfl
      · by_cases hv : (verAt h.2.2.1.1.1 t.1.reverse).2 = 0
        · rw [if_pos hv]
          have hlen := orderL_length h
          have hf1 := hf.1
          have hgo : (runR h).2.2.length ≤ (chL h).length := by
            have := goR_length h (((orderL h).drop (0 : Int).toNat).map (chAt h)) h.2.2.1.1.1 (cHoldF.f (h, orderL h, h.2.2.1.1.1, ())).1 []
            have e : (((orderL h).drop (0 : Int).toNat).map (chAt h)).length = (chL h).length := by
              rw [List.length_map]
              exact hlen
            rw [e] at this
            have h2 : (runR h).2.2.length ≤ 0 + (chL h).length := this
            omega
          refine Fr.br_f ?_ (Fr.need_ ?_ (Fr.need_ (fun i hi => orderL_mem hi) (Fr.need_ ⟨Int.le_refl _, Int.natCast_nonneg _, rfl, ?_, ?_⟩ (Fr.need_ (room_s ?_) ?_))))
          · show ((verAt h.2.2.1.1.1 t.1.reverse).2 != 0) = false
            rw [hv]
            rfl
          · show ((chL h).length : Int) ≤ 1000000
            omega
          · show 0 + ((orderL h).length - 0) ≤ 1000000
            omega
          · show (orderL h).length ≤ 1000000
            omega
          · show (runR h).2.2.length + 1 ≤ 1000000
            omega
          · have hfin : (runR h).2.2 ++ [lastQ h.2.2.1.1.2.1 (runR h)] = cutL h := runR_cut hh
            have hcl : (cutL h).length ≤ 1000002 := by
              rw [← hfin, List.length_append, List.length_singleton]
              omega
            show (frQ2 (verAt h.2.2.1.1.1 t.1.reverse).1 ((runR h).2.2 ++ [lastQ h.2.2.1.1.2.1 (runR h)])).ok ∧ (frQ2 (verAt h.2.2.1.1.1 t.1.reverse).1 ((runR h).2.2 ++ [lastQ h.2.2.1.1.2.1 (runR h)])).get = _
            rw [hfin]
            have := q2_eq (v := (verAt h.2.2.1.1.1 t.1.reverse).1) hcl (cutL_few hh hf)
            refine ⟨this.1, this.2.trans ?_⟩
            split <;> rfl
        · rw [if_neg hv]
          refine Fr.br_t ?_ ⟨trivial, rfl⟩
          show ((verAt h.2.2.1.1.1 t.1.reverse).2 != 0) = true
          exact bne_iff_ne.2 hv)

end Go.Proofs.Ytbplccbjgfappaa

/-
  SlicesAt: the law's contract.
-/
namespace Go.Proofs.Ytbplccbjgfappaa
open Go Go.Ab Go.RowKit Go.Proofs

noncomputable def CLA : Cx := cx [(15, cYes), (25, cSliceEq), (21, cSliceEq), (20, cAt), (26, cAt)] []
theorem CLA_ok : CxOK Try.prog CLA := cx_ok mixed ⟨awake_ok, slices_Same_ok, r12_Same_ok, slices_At_ok, r12_At_ok, trivial⟩ trivial

abbrev pt_lAt : Pt := ⟨86, 0, ⟨[(8, .d i64), (0, .d slsT), (1, .d i64), (7, .d .bool)], [.x 5 46 sliceT, .r 5 5 0]⟩, ⟨[(0, .d slsT), (1, .d i64), (7, .d .bool)], [.x 5 46 sliceT, .r 5 5 0]⟩, ⟨[(6, .d .bool)], []⟩⟩
def fr_lAt (x : pt_lAt.M.X) : Fr pt_lAt.Out :=
  let i : Int := x.1.1; let l : List sliceT.den := x.1.2.1; let d : Int := x.1.2.2.1; let b : Bool := x.1.2.2.2.1; let X : sliceT.den := x.2.1
  let E : sliceT.den := l.getD i.toNat sliceT.dflt
  Fr.br (decide (i < (l.length : Int)))
    (Fr.need (0 ≤ i ∧ i < (l.length : Int))
      (Fr.br (decide ((E.2.2.2.1.length : Int) > 50)) (Fr.val (Rd.back ((b, ()), ())))
        (Fr.need (0 ≤ i ∧ i < (l.length : Int)) (Fr.need (0 ≤ i ∧ i < (l.length : Int))
          (Fr.need ((!(cSliceEq.f (E, X, ())).1 == (cSliceEq.f (E, X, ())).1) = false → 0 ≤ i ∧ i < (l.length : Int)) (Fr.need ((!(cSliceEq.f (E, X, ())).1 == (cSliceEq.f (E, X, ())).1) = false → 0 ≤ i ∧ i < (l.length : Int))
            (Fr.br (bif !(cSliceEq.f (E, X, ())).1 == (cSliceEq.f (E, X, ())).1 then true else !(cSliceEq.f (E, E, ())).1) (Fr.val (Rd.back ((false, ()), ())))
              (Fr.val (Rd.next ((IntKind.i64.wrap (i + 1), l, d, b, ()), (X, ()))))))))))
      ) (Fr.val (Rd.out ((l, d, b, ()), (X, ()))))
theorem sem_lAt : Does Try.prog (loopF Try.f7 0) pt_lAt.M pt_lAt fr_lAt :=
  Does.of_run CLA_ok (bs := 0) (Λ := lam0) rfl rfl rfl (fun E => lam0_ok _ 0) (fun x => by kernel_rfl)

theorem sliceEq_refl (s : sliceT.den) : sliceEq s s = true := by
  have h := holdsB_iff.2 (rfl : coreS s = coreS s)
  simp [sliceEq, h]

def InLAt (l : List sliceT.den) (i : Int) : Prop := 0 ≤ i ∧ i ≤ l.length ∧ (l.length : Int) ≤ 9223372036854775807
def bigL (l : List sliceT.den) : Bool := l.any fun s => decide (s.2.2.2.1.length > 50)
def FLAt (x : pt_lAt.M.X) : Fr pt_lAt.Out :=
  let i : Int := x.1.1; let l : List sliceT.den := x.1.2.1; let d : Int := x.1.2.2.1; let b : Bool := x.1.2.2.2.1; let X : sliceT.den := x.2.1
  Fr.need (InLAt l i) (Fr.br (bigL (l.drop i.toNat)) (Fr.val (Rd.back ((b, ()), ()))) (Fr.val (Rd.out ((l, d, b, ()), (X, ())))))

theorem lawLAt (i : Int) (l : List sliceT.den) (d : Int) (b : Bool) (X : sliceT.den) (hinv : InLAt l i) (Q : pt_lAt.Out → Prop)
    (hq : (Fr.br (bigL (l.drop i.toNat)) (Fr.val (Rd.back ((b, ()), ()))) (Fr.val (Rd.out ((l, d, b, ()), (X, ())))) : Fr pt_lAt.Out).satP Q) :
    (fr_lAt ((i, l, d, b, ()), (X, ()))).satP fun
      | .next x' => InLAt x'.1.2.1 x'.1.1 ∧ ((List.length (α := sliceT.den) x'.1.2.1 : Int) - x'.1.1).toNat < ((l.length : Int) - i).toNat ∧ (FLAt x').satP Q
      | .out y => Q (.out y)
      | .back z => Q (.back z)
      | .pan p => Q (.pan p) := by
  obtain ⟨h0, h1, h2⟩ := hinv
  obtain ⟨i', rfl⟩ : ∃ n : Nat, i = n := ⟨i.toNat, by omega⟩
  simp only [Int.toNat_natCast] at hq
  dsimp only [fr_lAt, Fr.satP, Ty.den, PT.den]
  simp only [Int.toNat_natCast]
  refine ⟨fun hi => ?_, fun hi => ?_⟩
  · have hlt : i' < l.length := by have : (i' : Int) < (l.length : Int) := of_decide_eq_true hi; omega
    have w : IntKind.i64.wrap ((i' : Int) + 1) = (i' + 1 : Nat) := succ_nat (by omega)
    have hg : l.getD i' sliceT.dflt = l[i'] := by rw [List.getD_eq_getElem?_getD, List.getElem?_eq_getElem hlt]; rfl
    have hd : l.drop i' = l.getD i' sliceT.dflt :: l.drop (i' + 1) := by rw [hg]; exact List.drop_eq_getElem_cons hlt
    have hb : 0 ≤ (i' : Int) ∧ (i' : Int) < (l.length : Int) := ⟨by omega, by omega⟩
    have hμ : ((l.length : Int) - ((i' + 1 : Nat) : Int)).toNat < ((l.length : Int) - (i' : Int)).toNat := by omega
    rw [w]
    rw [hd] at hq
    have hbig : bigL ((l.getD i' sliceT.dflt) :: l.drop (i' + 1)) = (decide ((l.getD i' sliceT.dflt).2.2.2.1.length > 50) || bigL (l.drop (i' + 1))) := rfl
    rw [hbig] at hq
    refine ⟨hb, fun hc => ?_, fun hc => ⟨hb, hb, fun _ => hb, fun _ => hb, fun he => ?_, fun he => ?_⟩⟩
    · have hc' : ((l.getD i' sliceT.dflt).2.2.2.1.length : Int) > 50 := of_decide_eq_true hc
      have : decide ((l.getD i' sliceT.dflt).2.2.2.1.length > 50) = true := decide_eq_true (by omega)
      rw [this] at hq
      exact hq.1 rfl
    · exfalso
      have h3 : (cSliceEq.f ((l.getD i' sliceT.dflt), (l.getD i' sliceT.dflt), ())).1 = true := sliceEq_refl _
      rw [h3] at he
      cases hx : (cSliceEq.f ((l.getD i' sliceT.dflt), X, ())).1 <;> rw [hx] at he <;> cases he
    · have hc' : ¬ ((l.getD i' sliceT.dflt).2.2.2.1.length : Int) > 50 := of_decide_eq_false hc
      have : decide ((l.getD i' sliceT.dflt).2.2.2.1.length > 50) = false := decide_eq_false (by omega)
      rw [this, Bool.false_or] at hq
      have hI : InLAt l ((i' + 1 : Nat) : Int) := ⟨by omega, by omega, h2⟩
      exact ⟨hI, hμ, hI, hq⟩
  · have hge : ¬ i' < l.length := by have : ¬ (i' : Int) < (l.length : Int) := of_decide_eq_false hi; omega
    rw [List.drop_eq_nil_of_le (by omega)] at hq
    exact hq.2 rfl

theorem loopLAt : Does Try.prog (.loop (loopF Try.f7 0)) pt_lAt.M pt_lAt FLAt := by
  refine Does.loop (n := 86) (id := 0) sem_lAt (inv := fun x => InLAt x.1.2.1 x.1.1) (μ := fun x => ((List.length (α := sliceT.den) x.1.2.1 : Int) - x.1.1).toNat) ?_ (fun x Q h => h.1)
  rintro ⟨⟨i, l, d, b, _⟩, X, _⟩ hinv Q hq
  exact lawLAt i l d b X hinv Q hq.2

def fr_SAt (x : denP [.d slsT, .d i64, .d sliceT]) : Fr (denL [.bool]) :=
  Fr.br (bif decide ((x.1.length : Int) > 60) then true else decide ((x.2.2.1.2.2.2.1.length : Int) > 50)) (Fr.val (true, ()))
    (Fr.need (InLAt x.1 0) (Fr.br (bigL (x.1.drop (0 : Int).toNat)) (Fr.val (true, ()))
      (Fr.val (bif bif true then ((cAt.f (x.1, x.2.1, ())).2.1 == (cAt.f (x.1, x.2.1, ())).2.1) else false then (cSliceEq.f ((cAt.f (x.1, x.2.1, ())).1, (cAt.f (x.1, x.2.1, ())).1, ())).1 else false, ()))))

/-- A law that is kept. -/
def cLaw (ps : List PT) : Ct := ⟨ps, [.bool], fun _ => (true, ()), fun _ => []⟩
theorem lawAt_ok : SoundCt Try.prog 7 (cLaw [.d slsT, .d i64, .d sliceT]) :=
  convF (fn_sound CLA_ok (Λ := fun _ => pt_lAt.han CLA.Γ pt_lAt.M FLAt) (fn := Try.f7) (fr := fr_SAt) (ps := [.d slsT, .d i64, .d sliceT]) (rs := [.bool]) ([], 0, sliceT.dflt, ()) (by kernel_rfl)
    (fun c E hc => lam1f hc (by kernel_rfl) (b := loopF Try.f7 0) (by kernel_rfl) (Does.han CLA_ok rfl loopLAt)) (fun x => by kernel_rfl)) _ _ (fun w F x vs hr _ => by
    obtain ⟨l, d, X, _⟩ := x
    obtain ⟨v1, vs1, rfl, h1, _⟩ := hr
    have hlen : (l.length : Int) ≤ 9223372036854775807 := wf_len h1
    show (fr_SAt (l, d, X, ())).ok ∧ (fr_SAt (l, d, X, ())).get = (true, ())
    unfold fr_SAt
    cases (bif decide ((l.length : Int) > 60) then true else decide ((X.2.2.2.1.length : Int) > 50)) with
    | true => exact Fr.br_t rfl ⟨trivial, rfl⟩
    | false =>
      refine Fr.br_f rfl (Fr.need_ ⟨Int.le_refl _, Int.natCast_nonneg _, hlen⟩ ?_)
      cases bigL (l.drop (0 : Int).toNat) with
      | true => exact Fr.br_t rfl ⟨trivial, rfl⟩
      | false =>
        refine Fr.br_f rfl ⟨trivial, Prod.ext ?_ rfl⟩
        show (bif ((cAt.f (l, d, ())).2.1 == (cAt.f (l, d, ())).2.1) then (cSliceEq.f ((cAt.f (l, d, ())).1, (cAt.f (l, d, ())).1, ())).1 else false) = true
        have h3 : (cSliceEq.f ((cAt.f (l, d, ())).1, (cAt.f (l, d, ())).1, ())).1 = true := sliceEq_refl _
        rw [h3]
        simp)

end Go.Proofs.Ytbplccbjgfappaa

/-
  SlicesWhole: the law's contract.
-/
namespace Go.Proofs.Ytbplccbjgfappaa
open Go Go.Ab Go.RowKit Go.Proofs

noncomputable def CLW : Cx := cx [(15, cYes), (25, cSliceEq), (20, cAt), (17, cOf), (16, cFew), (23, cIn)] []
theorem CLW_ok : CxOK Try.prog CLW := cx_ok mixed ⟨awake_ok, slices_Same_ok, slices_At_ok, of_ok, few_ok, in3_ok, trivial⟩ trivial

abbrev pt_lWh : Pt := ⟨173, 0, ⟨[(12, .d i64), (9, .d slsT), (2, .d (.int .u32)), (7, .d .bool), (11, .d i64)], [.x 3 31 histT, .r 3 3 0]⟩, ⟨[(2, .d (.int .u32)), (7, .d .bool), (9, .d slsT), (11, .d i64)], [.x 3 31 histT, .r 3 3 0]⟩, ⟨[(6, .d .bool)], []⟩⟩
def setSp (p : sliceT.den) (e : sliceT.den) : sliceT.den := (e.1, p.2.1, p.2.2.1, p.2.2.2.1, e.2.2.2.2.1, ())
def badW (e : sliceT.den) (a : Int) : Bool := bif e.1.1 != a then true else decide (e.1.2.1 ≤ a)
def badW2 (e : sliceT.den) (a : Int) : Bool := bif badW e a then true else bif !e.2.1 then e.2.2.2.2.1 != 0 else false
def fr_lWh (x : pt_lWh.M.X) : Fr pt_lWh.Out :=
  let i : Int := x.1.1; let l : List sliceT.den := x.1.2.1; let d : Int := x.1.2.2.1; let b : Bool := x.1.2.2.2.1; let a : Int := x.1.2.2.2.2.1; let h : histT.den := x.2.1
  let E : sliceT.den := l.getD i.toNat sliceT.dflt; let P : sliceT.den := l.getD (IntKind.i64.wrap (i - 1)).toNat sliceT.dflt
  Fr.br (decide (i < (l.length : Int)))
    (Fr.need (0 ≤ i ∧ i < (l.length : Int))
      (Fr.need ((E.1.1 != a) = false → 0 ≤ i ∧ i < (l.length : Int))
        (Fr.need (badW E a = false → 0 ≤ i ∧ i < (l.length : Int))
          (Fr.need ((!E.2.1) = true → badW E a = false → 0 ≤ i ∧ i < (l.length : Int))
            (Fr.need (badW2 E a = false → 0 ≤ i ∧ i < (l.length : Int))
              (Fr.br (bif badW2 E a then true else decide (E.2.2.2.2.1 < 0)) (Fr.val (Rd.back ((false, ()), ())))
                (Fr.br (decide (i > 0))
                  (Fr.need (0 ≤ IntKind.i64.wrap (i - 1) ∧ IntKind.i64.wrap (i - 1) < (l.length : Int))
                    (Fr.need (0 ≤ i ∧ i < (l.length : Int)) (Fr.need (0 ≤ i ∧ i < (l.length : Int)) (Fr.need (0 ≤ i ∧ i < (l.length : Int))
                      (Fr.br (cSliceEq.f (setSp P E, E, ())).1 (Fr.val (Rd.back ((false, ()), ())))
                        (Fr.need (0 ≤ i ∧ i < (l.length : Int)) (Fr.val (Rd.next ((IntKind.i64.wrap (i + 1), l, d, b, E.1.2.1, ()), (h, ()))))))))))
                  (Fr.need (0 ≤ i ∧ i < (l.length : Int)) (Fr.val (Rd.next ((IntKind.i64.wrap (i + 1), l, d, b, E.1.2.1, ()), (h, ())))))))))))
      ) (Fr.val (Rd.out ((d, b, l, a, ()), (h, ()))))
theorem sem_lWh : Does Try.prog (loopF Try.f8 0) pt_lWh.M pt_lWh fr_lWh :=
  Does.of_run CLW_ok (bs := 0) (Λ := lam0) rfl rfl rfl (fun E => lam0_ok _ 0) (fun x => by kernel_rfl)

/-- Slices on end, each as it should be. -/
def wholeP : Int → Option sliceT.den → List sliceT.den → Prop
  | _, _, [] => True
  | a, p, s :: l => s.1.1 = a ∧ a < s.1.2.1 ∧ (s.2.1 = false → s.2.2.2.2.1 = (0 : Int)) ∧ (0 : Int) ≤ s.2.2.2.2.1 ∧ (∀ q, p = some q → coreS q ≠ coreS s) ∧ wholeP s.1.2.1 (some s) l
def endAt : Int → List sliceT.den → Int
  | a, [] => a
  | _, s :: l => endAt s.1.2.1 l
def prevO (i : Int) (l : List sliceT.den) : Option sliceT.den := if i > 0 then some (l.getD (i - 1).toNat sliceT.dflt) else none

structure InvW (i : Int) (l : List sliceT.den) (a : Int) : Prop where
  i0 : 0 ≤ i
  il : i ≤ l.length
  big : (l.length : Int) ≤ 9223372036854775807
  whole : wholeP a (prevO i l) (l.drop i.toNat)

def FLW (x : pt_lWh.M.X) : Fr pt_lWh.Out :=
  let i : Int := x.1.1; let l : List sliceT.den := x.1.2.1; let d : Int := x.1.2.2.1; let b : Bool := x.1.2.2.2.1; let a : Int := x.1.2.2.2.2.1; let h : histT.den := x.2.1
  Fr.need (InvW i l a) (Fr.val (Rd.out ((d, b, l, endAt a (l.drop i.toNat), ()), (h, ()))))

theorem lawLW (i : Int) (l : List sliceT.den) (d : Int) (b : Bool) (a : Int) (h : histT.den) (hinv : InvW i l a) (Q : pt_lWh.Out → Prop) (hq : Q (Rd.out ((d, b, l, endAt a (l.drop i.toNat), ()), (h, ())))) :
    (fr_lWh ((i, l, d, b, a, ()), (h, ()))).satP fun
      | .next x' => InvW x'.1.1 x'.1.2.1 x'.1.2.2.2.2.1 ∧ ((List.length (α := sliceT.den) x'.1.2.1 : Int) - x'.1.1).toNat < ((l.length : Int) - i).toNat ∧ (FLW x').satP Q
      | .out y => Q (.out y)
      | .back z => Q (.back z)
      | .pan p => Q (.pan p) := by
  obtain ⟨h0, h1, h2, h3⟩ := hinv
  obtain ⟨i', rfl⟩ : ∃ n : Nat, i = n := ⟨i.toNat, by omega⟩
  simp only [Int.toNat_natCast] at hq h3
  dsimp only [fr_lWh, Fr.satP, Ty.den, PT.den]
  simp only [Int.toNat_natCast]
  refine ⟨fun hi => ?_, fun hi => ?_⟩
  · have hlt : i' < l.length := by have : (i' : Int) < (l.length : Int) := of_decide_eq_true hi; omega
    have w : IntKind.i64.wrap ((i' : Int) + 1) = (i' + 1 : Nat) := succ_nat (by omega)
    have hg : l.getD i' sliceT.dflt = l[i'] := by rw [List.getD_eq_getElem?_getD, List.getElem?_eq_getElem hlt]; rfl
    have hd : l.drop i' = l.getD i' sliceT.dflt :: l.drop (i' + 1) := by rw [hg]; exact List.drop_eq_getElem_cons hlt
    have hb : 0 ≤ (i' : Int) ∧ (i' : Int) < (l.length : Int) := ⟨by omega, by omega⟩
    have hμ : ((l.length : Int) - ((i' + 1 : Nat) : Int)).toNat < ((l.length : Int) - (i' : Int)).toNat := by omega
    rw [w]
    rw [hd] at hq h3
    obtain ⟨e1, e2, e3, e4, e5, e6⟩ := h3
    have hprev : prevO ((i' + 1 : Nat) : Int) l = some (l.getD i' sliceT.dflt) := by
      unfold prevO
      have : (((i' + 1 : Nat) : Int) - 1).toNat = i' := by omega
      rw [if_pos (by omega), this]
    have hI : InvW ((i' + 1 : Nat) : Int) l (l.getD i' sliceT.dflt).1.2.1 := ⟨by omega, by omega, h2, by rw [hprev]; exact e6⟩
    have b1 : badW (l.getD i' sliceT.dflt) a = false := by
      unfold badW
      have k1 : ((l.getD i' sliceT.dflt).1.1 != a) = false := by rw [e1]; simp
      rw [k1]
      exact decide_eq_false (Int.not_le.2 e2)
    have b2 : badW2 (l.getD i' sliceT.dflt) a = false := by
      unfold badW2
      rw [b1]
      cases hon : (l.getD i' sliceT.dflt).2.1 with
      | true => rfl
      | false =>
        show ((l.getD i' sliceT.dflt).2.2.2.2.1 != 0) = false
        rw [e3 hon]
        rfl
    refine ⟨hb, fun _ => hb, fun _ => hb, fun _ _ => hb, fun _ => hb, fun hx => ?_, fun _ => ⟨fun hp => ?_, fun hp => ⟨hb, hI, hμ, hI, hq⟩⟩⟩
    · exfalso
      rw [b2] at hx
      have : (l.getD i' sliceT.dflt).2.2.2.2.1 < (0 : Int) := of_decide_eq_true hx
      exact absurd this (Int.not_lt.2 e4)
    · have hp' : (i' : Int) > 0 := of_decide_eq_true hp
      have w2 : IntKind.i64.wrap ((i' : Int) - 1) = (i' : Int) - 1 := IntWalk.i64_in _ (by omega)
      rw [w2]
      refine ⟨⟨by omega, by omega⟩, hb, hb, hb, fun hx => ?_, fun _ => ⟨hb, hI, hμ, hI, hq⟩⟩
      exfalso
      have hx' : sliceEq (setSp (l.getD ((i' : Int) - 1).toNat sliceT.dflt) (l.getD i' sliceT.dflt)) (l.getD i' sliceT.dflt) = true := hx
      unfold sliceEq at hx'
      rw [Bool.and_eq_true] at hx'
      have hx2 := hx'.2
      rw [Bool.and_eq_true] at hx2
      have := holdsB_iff.1 hx2.2
      refine e5 (l.getD ((i' : Int) - 1).toNat sliceT.dflt) ?_ this
      unfold prevO
      rw [if_pos hp']
  · have hge : ¬ i' < l.length := by have : ¬ (i' : Int) < (l.length : Int) := of_decide_eq_false hi; omega
    rw [List.drop_eq_nil_of_le (by omega)] at hq
    exact hq

theorem loopLW : Does Try.prog (.loop (loopF Try.f8 0)) pt_lWh.M pt_lWh FLW := by
  refine Does.loop (n := 173) (id := 0) sem_lWh (inv := fun x => InvW x.1.1 x.1.2.1 x.1.2.2.2.2.1) (μ := fun x => ((List.length (α := sliceT.den) x.1.2.1 : Int) - x.1.1).toNat) ?_ (fun x Q h => h.1)
  rintro ⟨⟨i, l, d, b, a, _⟩, h, _⟩ hinv Q hq
  exact lawLW i l d b a h hinv Q hq.2

def dayW (h : histT.den) (d : Int) : Int := IntKind.i64.wrap (h.2.2.1.1.1 + IntKind.i64.wrap (d.tmod 1100))
def fr_Wh (x : denP [.d histT, .d tarT, .d (.int .u32)]) : Fr (denL [.bool]) :=
  let h : histT.den := x.1; let t : tarT.den := x.2.1; let d : Int := x.2.2.1
  let R : denL [slsT, i64] := cOf.f (h, t, ()); let A : denL [sliceT, .bool] := cAt.f (R.1, dayW h d, ())
  Fr.br (!(cFew.f (h, t, ())).1) (Fr.val (true, ()))
    (Fr.need (fewH h) (Fr.need (fewT t)
      (Fr.br (R.2.1 != 0) (Fr.val (bif true then (R.1.length : Int) == 0 else false, ()))
        (Fr.need (InvW 0 R.1 h.2.2.1.1.1) (Fr.need ((1100 : Int) ≠ 0)
          (Fr.val (bif bif bif true then endAt h.2.2.1.1.1 (R.1.drop (0 : Int).toNat) == h.2.2.1.1.2.1 else false then A.2.1 == (cIn.f (h.2.2.1.1, dayW h d, ())).1 else false then
            (bif !A.2.1 then true else bif decide (dayW h d ≥ A.1.1.1) then decide (dayW h d < A.1.1.2.1) else false) else false, ())))))))

theorem wh_run : SoundCt Try.prog 8 ⟨[.d histT, .d tarT, .d (.int .u32)], [.bool], fun xs => (fr_Wh xs).get, fun xs => [(fr_Wh xs).ok]⟩ :=
  fn_sound CLW_ok (Λ := fun _ => pt_lWh.han CLW.Γ pt_lWh.M FLW) (fn := Try.f8) (fr := fr_Wh) (ps := [.d histT, .d tarT, .d (.int .u32)]) (rs := [.bool]) (histT.dflt, tarT.dflt, 0, ()) (by kernel_rfl)
    (fun c E hc => lam1f hc (by kernel_rfl) (b := loopF Try.f8 0) (by kernel_rfl) (Does.han CLW_ok rfl loopLW)) (fun x => by kernel_rfl)

/-! ### The law, plain -/

theorem fewB_fewH {h : histT.den} {t : tarT.den} (hf : fewB h t = true) : fewH h ∧ fewT t := by
  unfold fewB at hf
  simp only [Bool.and_eq_true, decide_eq_true_eq, List.all_eq_true] at hf
  obtain ⟨⟨h1, h2, h3⟩, h4, h5⟩ := hf
  refine ⟨⟨by show h.2.2.2.1.length ≤ 500000; omega, by omega, fun c hc => ?_⟩, by omega, fun v hv => ?_⟩
  · have : c.2.2.2.2.1.length ≤ 50 := of_decide_eq_true (h4 c hc)
    omega
  · have := h5 v hv
    unfold fewV at this
    simp only [Bool.and_eq_true, decide_eq_true_eq] at this
    exact ⟨by omega, by omega, by omega⟩

theorem yrGo_pos (v : verT.den) (r : riskT.den) : (l : List coverT.den) → (q : Int) → (b : Bool) → 0 ≤ q → 0 ≤ (yrGo v r l q b).1
  | [], q, b, h => by
    unfold yrGo
    show 0 ≤ if b = true then q else 0
    split
    · exact h
    · exact Int.le_refl 0
  | c :: l, q, b, h => by
    unfold yrGo
    split
    · rename_i he
      split
      · split
        · exact yrGo_pos v r l q false h
        · exact yrGo_pos v r l _ true (Int.add_nonneg h (oneF_pos he))
      · exact yrGo_pos v r l q false h
    · exact Int.le_refl 0
theorem yearF_pos (v : verT.den) (r : riskT.den) (l : List coverT.den) : 0 ≤ (yearF v r l).1 := by
  unfold yearF
  split
  · split
    · exact yrGo_pos v r l 0 true (Int.le_refl 0)
    · exact Int.le_refl 0
  · exact Int.le_refl 0

theorem price_core (v : verT.den) (s : sliceT.den) : coreS (priceV v s) = coreS s ∧ (priceV v s).1 = s.1 := by
  unfold priceV
  split <;> exact ⟨rfl, rfl⟩

theorem whole_of {st : Int → Core} {b : Int} (v : verT.den) : {a : Int} → {l : List sliceT.den} → (p : Option sliceT.den) → (∀ q, p = some q → ∀ t ∈ l.head?, coreS q ≠ coreS t) → Runs st b a l → wholeP a p (l.map (priceV v)) ∧ endAt a (l.map (priceV v)) = b
  | a, [], _, _, h => ⟨trivial, h⟩
  | a, s :: l, p, hp, h => by
    obtain ⟨h1, h2, h3, h4, h5, h6⟩ := h
    obtain ⟨k1, k2⟩ := price_core v s
    have ih := whole_of v (some (priceV v s)) (fun q hq t ht => by
      cases hq
      rw [k1]
      exact h5 t ht) h6
    refine ⟨⟨by rw [k2]; exact h1, by rw [k2]; exact h2, fun hoff => ?_, ?_, fun q hq => ?_, ?_⟩, ?_⟩
    · have hoff' : s.2.1 = false := by
        have := congrArg Prod.fst k1
        exact this.symm.trans hoff
      have : priceV v s = s := if_neg (by rw [hoff']; decide)
      rw [this]
      exact h3
    · unfold priceV
      split
      · exact yearF_pos _ _ _
      · rw [h3]
        exact Int.le_refl 0
    · rw [k1]
      exact hp q hq s (by simp)
    · rw [k2]
      exact ih.1
    · show endAt (priceV v s).1.2.1 (l.map (priceV v)) = b
      rw [k2]
      exact ih.2

theorem ofF_bad {h : histT.den} {t : tarT.den} (he : (ofF h t).2 ≠ 0) : (ofF h t).1 = [] := by
  unfold ofF at he ⊢
  split
  · rename_i h1
    rw [if_pos h1] at he
    split
    · rename_i h2
      rw [if_pos h2] at he
      split
      · rename_i h3
        rw [if_pos h3] at he
        exact absurd rfl he
      · rfl
    · rfl
  · rfl

/-- The version of a policy's first day. -/
def verH (h : histT.den) (t : tarT.den) : verT.den × Int := verAt h.2.2.1.1.1 t.1.reverse

theorem ofF_good {h : histT.den} {t : tarT.den} (he : (ofF h t).2 = 0) : histB h = true ∧ (verH h t).2 = 0 ∧ errP (verH h t).1 (cutL h) = 0 ∧ (ofF h t).1 = (cutL h).map (priceV (verH h t).1) := by
  unfold ofF at he ⊢
  by_cases h1 : histB h = true
  · rw [if_pos h1] at he ⊢
    by_cases h2 : (verAt h.2.2.1.1.1 t.1.reverse).2 = 0
    · rw [if_pos h2] at he ⊢
      by_cases h3 : errP (verAt h.2.2.1.1.1 t.1.reverse).1 (cutL h) = 0
      · rw [if_pos h3]
        exact ⟨h1, h2, h3, rfl⟩
      · rw [if_neg h3] at he
        exact absurd he h3
    · rw [if_neg h2] at he
      exact absurd he h2
  · rw [if_neg h1] at he
    cases he

theorem dayW_plain {a b d : Int} (h1 : 1 ≤ a) (h2 : b ≤ 292195) (h3 : a < b) (hd : 0 ≤ d ∧ d ≤ 4294967295) : IntKind.i64.wrap (a + IntKind.i64.wrap (d.tmod 1100)) = a + d % 1100 := by
  rw [Int.tmod_eq_emod_of_nonneg hd.1]
  have e1 : IntKind.i64.wrap (d % 1100) = d % 1100 := IntWalk.i64_in _ (by omega)
  rw [e1]
  exact IntWalk.i64_in _ (by omega)
theorem dayW_eq {h : histT.den} {d : Int} (ho : HistOk h) (hd : 0 ≤ d ∧ d ≤ 4294967295) : dayW h d = h.2.2.1.1.1 + d % 1100 := dayW_plain ho.a1 ho.b1 ho.ab hd

theorem inB_eq {h : histT.den} (ho : HistOk h) (d : Int) : inB h.2.2.1.1.1 h.2.2.1.1.2.1 d = decide (h.2.2.1.1.1 ≤ d ∧ d < h.2.2.1.1.2.1) := by
  have h1 := ho.a1
  have h2 := ho.b1
  unfold inB
  rw [Bool.eq_iff_iff, decide_eq_true_eq, decide_eq_true_eq]
  exact ⟨fun h => ⟨h.2.2.1, h.2.2.2⟩, fun h => ⟨h1, h2, h.1, h.2⟩⟩

theorem lawWhole_ok : SoundCt Try.prog 8 (cLaw [.d histT, .d tarT, .d (.int .u32)]) :=
  convF wh_run _ _ (fun w F x vs hr _ => by
    obtain ⟨h, t, d, _⟩ := x
    obtain ⟨v1, vs1, rfl, _, v2, vs2, rfl, _, v3, vs3, rfl, h3, _⟩ := hr
    have hd : 0 ≤ d ∧ d ≤ 4294967295 := h3.2.2.2
    show (fr_Wh (h, t, d, ())).ok ∧ (fr_Wh (h, t, d, ())).get = (true, ())
    cases hf : fewB h t with
    | false =>
      refine Fr.br_t ?_ ⟨trivial, rfl⟩
      show (!(fewB h t)) = true
      rw [hf]; rfl
    | true =>
      obtain ⟨f1, f2⟩ := fewB_fewH hf
      refine Fr.br_f ?_ (Fr.need_ f1 (Fr.need_ f2 ?_))
      · show (!(fewB h t)) = false
        rw [hf]; rfl
      · by_cases he : (ofF h t).2 = 0
        · obtain ⟨g1, g2, g3, g4⟩ := ofF_good he
          have ho := histOk g1
          have hruns := cutL_runs g1
          obtain ⟨w1, w2⟩ := whole_of (verH h t).1 none (fun q hq => by cases hq) hruns
          have hmem := fewB_fewH hf
          have hlen : ((ofF h t).1.length : Int) ≤ 9223372036854775807 := by
            have hl := endS_length (goH h).1 (goH h).2 h.2.2.1.1.2.1
            have hg := goCut_length (((orderL h).drop (0 : Int).toNat).map (chAt h)) ((h.2.2.1.1.1, 0, ()), true, h.2.2.1.2.1, [] ++ h.2.2.1.2.2.1, 0, ()) []
            have e : (((orderL h).drop (0 : Int).toNat).map (chAt h)).length = (chL h).length := by
              rw [List.length_map]
              exact orderL_length h
            rw [e] at hg
            have hg2 : (goH h).2.length ≤ 0 + (chL h).length := hg
            have hl2 : (cutL h).length ≤ (goH h).2.length + 1 := hl
            have hf1 := f1.1
            rw [g4, List.length_map]
            omega
          refine Fr.br_f ?_ (Fr.need_ ⟨Int.le_refl _, Int.natCast_nonneg _, hlen, ?_⟩ (Fr.need_ (by decide) ⟨trivial, Prod.ext ?_ rfl⟩))
          · show ((ofF h t).2 != 0) = false
            rw [he]; rfl
          · show wholeP h.2.2.1.1.1 none (ofF h t).1
            rw [g4]
            exact w1
          · show (bif bif (endAt h.2.2.1.1.1 (ofF h t).1 == h.2.2.1.1.2.1) then (atS (ofF h t).1 (dayW h d)).2 == inB h.2.2.1.1.1 h.2.2.1.1.2.1 (dayW h d) else false then
              (bif !(atS (ofF h t).1 (dayW h d)).2 then true else bif decide (dayW h d ≥ (atS (ofF h t).1 (dayW h d)).1.1.1) then decide (dayW h d < (atS (ofF h t).1 (dayW h d)).1.1.2.1) else false) else false) = true
            obtain ⟨k1, k2⟩ := atS_map (v := (verH h t).1) (dayW h d) (cutL h)
            obtain ⟨m1, m2⟩ := hruns.at_day ho.b1 ho.a1 (dayW h d)
            have ee : (endAt h.2.2.1.1.1 (ofF h t).1 == h.2.2.1.1.2.1) = true := by
              rw [g4, w2]
              simp
            rw [ee, inB_eq ho]
            rw [g4, k1, m1]
            cases hx : decide (h.2.2.1.1.1 ≤ dayW h d ∧ dayW h d < h.2.2.1.1.2.1) with
            | false => rfl
            | true =>
              rw [hx] at m1
              obtain ⟨_, _, q3, q4⟩ := m2 m1
              have hp := k2 m1
              have e1 : decide (dayW h d ≥ (atS ((cutL h).map (priceV (verH h t).1)) (dayW h d)).1.1.1) = true := by
                rw [hp, (price_core _ _).2]
                exact decide_eq_true q3
              have e2 : decide (dayW h d < (atS ((cutL h).map (priceV (verH h t).1)) (dayW h d)).1.1.2.1) = true := by
                rw [hp, (price_core _ _).2]
                exact decide_eq_true q4
              rw [e1, e2]
              rfl
        · have hnil := ofF_bad he
          refine Fr.br_t ?_ ⟨trivial, Prod.ext ?_ rfl⟩
          · show ((ofF h t).2 != 0) = true
            exact bne_iff_ne.2 he
          · show (bif true then ((ofF h t).1.length : Int) == 0 else false) = true
            rw [hnil]
            rfl)

end Go.Proofs.Ytbplccbjgfappaa

/-
  SlicesTells: the law's contract.
-/
namespace Go.Proofs.Ytbplccbjgfappaa
open Go Go.Ab Go.RowKit Go.Proofs

noncomputable def CLT : Cx := cx [(15, cYes), (16, cFew), (17, cOf), (18, cOf), (19, cSameS)] []
theorem CLT_ok : CxOK Try.prog CLT := cx_ok mixed ⟨awake_ok, few_ok, of_ok, of12_ok, all12_ok, trivial⟩ trivial

def fr_Te (x : denP [.d histT, .d tarT]) : Fr (denL [.bool]) :=
  let h : histT.den := x.1; let t : tarT.den := x.2.1
  let R : denL [slsT, i64] := cOf.f (h, t, ())
  Fr.br (!(cFew.f (h, t, ())).1) (Fr.val (true, ()))
    (Fr.need (fewH h) (Fr.need (fewT t) (Fr.need (fewH h) (Fr.need (fewT t)
      (Fr.val (bif bif true then R.2.1 == R.2.1 else false then (cSameS.f (R.1, R.1, ())).1 else false, ()))))))

theorem te_run : SoundCt Try.prog 3 ⟨[.d histT, .d tarT], [.bool], fun xs => (fr_Te xs).get, fun xs => [(fr_Te xs).ok]⟩ :=
  fn_sound CLT_ok (Λ := lam0) (fn := Try.f3) (fr := fr_Te) (ps := [.d histT, .d tarT]) (rs := [.bool]) (histT.dflt, tarT.dflt, ()) (by kernel_rfl)
    (fun c E hc => lam0_ok _ 0) (fun x => by kernel_rfl)

theorem sameS_refl : (l : List sliceT.den) → sameS l l = true
  | [] => rfl
  | s :: l => by
    unfold sameS
    rw [sliceEq_refl, sameS_refl l]
    rfl

theorem lawTells_ok : SoundCt Try.prog 3 (cLaw [.d histT, .d tarT]) :=
  convF te_run _ _ (fun w F x vs hr _ => by
    obtain ⟨h, t, _⟩ := x
    show (fr_Te (h, t, ())).ok ∧ (fr_Te (h, t, ())).get = (true, ())
    cases hf : fewB h t with
    | false =>
      refine Fr.br_t ?_ ⟨trivial, rfl⟩
      show (!(fewB h t)) = true
      rw [hf]; rfl
    | true =>
      obtain ⟨f1, f2⟩ := fewB_fewH hf
      refine Fr.br_f ?_ (Fr.need_ f1 (Fr.need_ f2 (Fr.need_ f1 (Fr.need_ f2 ⟨trivial, Prod.ext ?_ rfl⟩))))
      · show (!(fewB h t)) = false
        rw [hf]; rfl
      · show (bif ((ofF h t).2 == (ofF h t).2) then sameS (ofF h t).1 (ofF h t).1 else false) = true
        rw [sameS_refl]
        simp)

end Go.Proofs.Ytbplccbjgfappaa
