/-
  math/bits: products of 128 bits; quotients, where the high half is 0.
-/
import Derived.Test.YtbfcnjddddjbbaaC1
namespace Go.Proofs.Ytbfcnjddddjbbaa
open Go Go.Ab Go.RowKit Go.Proofs

def m32 (a : Int) : Int := IntKind.u64.wrap ((BitVec.ofInt IntKind.u64.bits a &&& BitVec.ofInt IntKind.u64.bits 4294967295).toNat : Int)
def h32 (a : Int) : Int := a.fdiv (2 ^ min (Int.toNat 32) IntKind.u64.bits)

theorem u64w {n : Int} (h : 0 ≤ n ∧ n ≤ 18446744073709551615) : IntKind.u64.wrap n = n := IntWalk.u64_in _ h

theorem m32_eq {a : Int} (h : 0 ≤ a ∧ a ≤ 18446744073709551615) : m32 a = a % 4294967296 := by
  obtain ⟨n, rfl⟩ : ∃ n : Nat, a = n := ⟨a.toNat, by omega⟩
  unfold m32
  have e1 : (BitVec.ofInt IntKind.u64.bits (n : Int) &&& BitVec.ofInt IntKind.u64.bits 4294967295).toNat = n % 4294967296 := by
    have h1 : (BitVec.ofInt IntKind.u64.bits (n : Int)).toNat = n := by
      rw [BitVec.toNat_ofInt]
      show ((n : Int) % ((2 ^ 64 : Nat) : Int)).toNat = n
      omega
    have h2 : (BitVec.ofInt IntKind.u64.bits (4294967295 : Int)).toNat = 2 ^ 32 - 1 := by decide
    rw [BitVec.toNat_and, h1, h2, Nat.and_two_pow_sub_one_eq_mod]
  rw [e1, u64w (by omega)]
  omega

theorem h32_eq {a : Int} : h32 a = a / 4294967296 := by
  unfold h32
  have : (2 : Int) ^ min (Int.toNat 32) IntKind.u64.bits = 4294967296 := by decide
  rw [this, Int.fdiv_eq_ediv_of_nonneg _ (by decide)]

def mulT (x y : Int) : Int := IntKind.u64.wrap (IntKind.u64.wrap (h32 x * m32 y) + h32 (IntKind.u64.wrap (m32 x * m32 y)))

def frMul (x : denP [.d u64, .d u64]) : Fr (denL [u64, u64]) :=
  Fr.need (¬ (32 : Int) < 0) (Fr.need (¬ (32 : Int) < 0) (Fr.need (¬ (32 : Int) < 0) (Fr.need (¬ (32 : Int) < 0) (Fr.need (¬ (32 : Int) < 0)
    (Fr.val (IntKind.u64.wrap (IntKind.u64.wrap (IntKind.u64.wrap (h32 x.1 * h32 x.2.1) + h32 (mulT x.1 x.2.1)) + h32 (IntKind.u64.wrap (m32 (mulT x.1 x.2.1) + IntKind.u64.wrap (m32 x.1 * h32 x.2.1)))),
      IntKind.u64.wrap (x.1 * x.2.1), ()))))))

def cMul : Ct := ⟨[.d u64, .d u64], [u64, u64], fun x => (x.1 * x.2.1 / 18446744073709551616, x.1 * x.2.1 % 18446744073709551616, ()), fun _ => []⟩

theorem prod_bd {a b n : Int} (ha : 0 ≤ a ∧ a ≤ n) (hb : 0 ≤ b ∧ b ≤ n) : 0 ≤ a * b ∧ a * b ≤ n * n :=
  ⟨Int.mul_nonneg ha.1 hb.1, Int.mul_le_mul ha.2 hb.2 hb.1 (by omega)⟩

theorem mul_split (a1 a0 b1 b0 : Int) : (a1 * 4294967296 + a0) * (b1 * 4294967296 + b0) = a1 * b1 * 18446744073709551616 + (a1 * b0 + a0 * b1) * 4294967296 + a0 * b0 := by grind

theorem mul_plain {x y : Int} (hx : 0 ≤ x ∧ x ≤ 18446744073709551615) (hy : 0 ≤ y ∧ y ≤ 18446744073709551615) :
    IntKind.u64.wrap (IntKind.u64.wrap (IntKind.u64.wrap (h32 x * h32 y) + h32 (mulT x y)) + h32 (IntKind.u64.wrap (m32 (mulT x y) + IntKind.u64.wrap (m32 x * h32 y)))) = x * y / 18446744073709551616 := by
  have ex : x = x / 4294967296 * 4294967296 + x % 4294967296 := by omega
  have ey : y = y / 4294967296 * 4294967296 + y % 4294967296 := by omega
  have hs := mul_split (x / 4294967296) (x % 4294967296) (y / 4294967296) (y % 4294967296)
  rw [← ex, ← ey] at hs
  rw [hs]
  unfold mulT
  rw [m32_eq hx, m32_eq hy]
  simp only [h32_eq]
  have b1 : 0 ≤ x / 4294967296 ∧ x / 4294967296 ≤ 4294967295 := by omega
  have b2 : 0 ≤ x % 4294967296 ∧ x % 4294967296 ≤ 4294967295 := by omega
  have b3 : 0 ≤ y / 4294967296 ∧ y / 4294967296 ≤ 4294967295 := by omega
  have b4 : 0 ≤ y % 4294967296 ∧ y % 4294967296 ≤ 4294967295 := by omega
  have p11 := prod_bd b1 b3
  have p10 := prod_bd b1 b4
  have p01 := prod_bd b2 b3
  have p00 := prod_bd b2 b4
  clear hs ex ey b1 b2 b3 b4
  generalize x / 4294967296 * (y / 4294967296) = q11 at *
  generalize x / 4294967296 * (y % 4294967296) = q10 at *
  generalize x % 4294967296 * (y / 4294967296) = q01 at *
  generalize x % 4294967296 * (y % 4294967296) = q00 at *
  rw [u64w (n := q11) (by omega), u64w (n := q10) (by omega), u64w (n := q01) (by omega), u64w (n := q00) (by omega), u64w (n := q10 + q00 / 4294967296) (by omega), m32_eq (a := q10 + q00 / 4294967296) (by omega),
    u64w (n := (q10 + q00 / 4294967296) % 4294967296 + q01) (by omega)]
  rw [u64w (n := q11 + (q10 + q00 / 4294967296) / 4294967296) (by omega), u64w (by omega)]
  omega

theorem u64_of {w : World} {F : Nat → Prop} {n : Int} {v : Value} (h : RepV w F u64 n v) : 0 ≤ n ∧ n ≤ 18446744073709551615 := h.2.2.2
theorem i64_of {w : World} {F : Nat → Prop} {n : Int} {v : Value} (h : RepV w F i64 n v) : -9223372036854775808 ≤ n ∧ n ≤ 9223372036854775807 := h.2.2.2

theorem mul_ok : SoundCt Try.prog 35 cMul :=
  flat (ps := [.d u64, .d u64]) (rs := [u64, u64]) (cx_ok (cs := []) (ps := []) mixed trivial trivial) (fn := Try.f35) (fr := frMul) (0, 0, ()) (by kernel_rfl) (fun x => by kernel_rfl) _ _
    (fun w F x vs hr _ => by
      obtain ⟨a, b, u⟩ := x
      obtain ⟨v1, vs1, rfl, h1, v2, vs2, rfl, h2, _⟩ := hr
      have g1 := u64_of h1
      have g2 := u64_of h2
      refine ⟨⟨by decide, by decide, by decide, by decide, by decide, trivial⟩, ?_⟩
      show (IntKind.u64.wrap (IntKind.u64.wrap (IntKind.u64.wrap (h32 a * h32 b) + h32 (mulT a b)) + h32 (IntKind.u64.wrap (m32 (mulT a b) + IntKind.u64.wrap (m32 a * h32 b)))), IntKind.u64.wrap (a * b), ()) = (a * b / 18446744073709551616, a * b % 18446744073709551616, ())
      have hw : IntKind.u64.wrap (a * b) = a * b % 18446744073709551616 := by
        rw [IntKind.wrap_u64]
      rw [mul_plain g1 g2, hw])

def frDiv (x : denP [.d u64, .d u64, .d u64]) : Fr (denL [u64, u64]) :=
  Fr.br (x.2.2.1 == 0) (Fr.need False (Fr.val (0, 0, ())))
    (Fr.br (decide (x.2.2.1 ≤ x.1)) (Fr.need False (Fr.val (0, 0, ())))
      (Fr.br (x.1 == 0) (Fr.need (x.2.2.1 ≠ 0) (Fr.need (x.2.2.1 ≠ 0) (Fr.val (IntKind.u64.wrap (x.2.1.tdiv x.2.2.1), x.2.1.tmod x.2.2.1, ()))))
        (Fr.need False (Fr.val (0, 0, ())))))

/-- A quotient, where the high half is 0. -/
def cDiv : Ct := ⟨[.d u64, .d u64, .d u64], [u64, u64], fun x => (x.2.1 / x.2.2.1, x.2.1 % x.2.2.1, ()), fun x => [x.1 = 0, 0 < x.2.2.1]⟩
theorem div_plain {lo y : Int} (g2 : 0 ≤ lo ∧ lo ≤ 18446744073709551615) (hy : 0 < y) : (frDiv (0, lo, y, ())).ok ∧ (frDiv (0, lo, y, ())).get = (lo / y, lo % y, ()) := by
  have e1 : (y == 0) = false := by simp; omega
  have e2 : decide (y ≤ (0 : Int)) = false := by simp; omega
  have e3 : y ≠ 0 := by omega
  refine ⟨⟨fun hc => ?_, fun _ => ⟨fun hc => ?_, fun _ => ⟨fun _ => ⟨e3, e3, trivial⟩, fun hc => by cases hc⟩⟩⟩, ?_⟩
  · have hc' : (y == 0) = true := hc
    rw [e1] at hc'
    cases hc'
  · have hc' : decide (y ≤ (0 : Int)) = true := hc
    rw [e2] at hc'
    cases hc'
  · show (if (y == 0) = true then ((0 : Int), (0 : Int), ()) else if decide (y ≤ (0 : Int)) = true then ((0 : Int), (0 : Int), ()) else (IntKind.u64.wrap (lo.tdiv y), lo.tmod y, ())) = (lo / y, lo % y, ())
    rw [e1, e2]
    simp only [Bool.false_eq_true, if_false]
    rw [IntWalk.u64_quo lo y ⟨g2.1, g2.2, by omega⟩, IntWalk.rem_in lo y g2.1]

theorem div_ok : SoundCt Try.prog 36 cDiv :=
  flat (ps := [.d u64, .d u64, .d u64]) (rs := [u64, u64]) (cx_ok (cs := []) (ps := []) mixed trivial trivial) (fn := Try.f36) (fr := frDiv) (0, 0, 0, ()) (by kernel_rfl) (fun x => by kernel_rfl) _ _
    (fun w F x vs hr hok => by
      obtain ⟨hi, lo, y, u⟩ := x
      obtain ⟨v1, vs1, rfl, h1, v2, vs2, rfl, h2, v3, vs3, rfl, h3, _⟩ := hr
      obtain ⟨he, hy⟩ := hok
      have he' : hi = 0 := he
      subst he'
      exact div_plain (u64_of h2) hy)

end Go.Proofs.Ytbfcnjddddjbbaa
