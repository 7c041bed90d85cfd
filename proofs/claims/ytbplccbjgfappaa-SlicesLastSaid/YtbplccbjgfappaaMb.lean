/-
  Parts of the proof, one behind the other: I4, I5, I6, I7, I8, H2, H3, H4, H5, H6, H7, H8, H9, I9, I10, I11, H10.
-/
import Derived.Test.YtbplccbjgfappaaMa
/-
  slices.symMergeCmpFunc over numbers: its loops.
-/
namespace Go.Proofs.Ytbplccbjgfappaa
open Go Go.Ab Go.RowKit Go.Proofs

/-- The middle of two places. -/
def midI (i j : Int) : Int := IntKind.i64.wrap ((IntKind.u64.wrap (IntKind.i64.wrap (i + j))).fdiv (2 ^ min (Int.toNat 1) IntKind.u64.bits))
theorem midI_nat {i j : Nat} (h : i + j ≤ 9223372036854775807) : midI (i : Int) j = ((i + j) / 2 : Nat) := half_nat h

abbrev pt_s0 : Pt := ⟨220, 0, ⟨[(1, .d i64), (4, cmpT), (10, .d i64), (11, .d i64)], [.al 10000 0, .o 0 3 i64]⟩, ⟨[(1, .d i64), (10, .d i64)], [.al 10000 0, .o 0 3 i64]⟩, ⟨[], []⟩⟩

def fr_s0 (x : pt_s0.M.X) : Fr pt_s0.Out :=
  let c := x.1.1; let g := x.1.2.1; let i := x.1.2.2.1; let j := x.1.2.2.2.1; let l := x.2.1
  Fr.br (decide (i < j))
    (Fr.need (¬(1 : Int) < 0)
      (Fr.need (0 ≤ midI i j ∧ midI i j < (l.length : Int))
        (Fr.need ((midI i j).toNat < l.length)
          (Fr.need (0 ≤ c ∧ c < (l.length : Int))
            (Fr.need ((c).toNat < l.length)
              (Fr.need (g.2 (l.getD (midI i j).toNat i64.dflt, l.getD c.toNat i64.dflt, ()))
                (Fr.br (decide ((g.1 (l.getD (midI i j).toNat i64.dflt, l.getD c.toNat i64.dflt, ())).1 < 0))
                  (Fr.val (Rd.next ((c, (g.1, g.2), IntKind.i64.wrap (midI i j + 1), j, ()), (l, ()))))
                  (Fr.val (Rd.next ((c, (g.1, g.2), i, midI i j, ()), (l, ())))))))))))
    (Fr.val (Rd.out ((c, i, ()), (l, ()))))

theorem sem_s0 : Does Try.prog (loopF Try.f162 0) pt_s0.M pt_s0 fr_s0 :=
  Does.of_run CI0_ok (bs := 0) (Λ := lam0) rfl rfl rfl (fun E => lam0_ok _ 0) (fun x => by kernel_rfl)

structure InvS0 (c i j : Int) (g : cmpT.den) (l : List Int) : Prop where
  c0 : 0 ≤ c
  cl : c < l.length
  i0 : 0 ≤ i
  ij : i ≤ j
  jl : j ≤ l.length
  big : (l.length : Int) ≤ 4611686018427387903
  dom : DomOf g l

def FS0 (x : pt_s0.M.X) : Fr pt_s0.Out :=
  let c := x.1.1; let g := x.1.2.1; let i := x.1.2.2.1; let j := x.1.2.2.2.1; let l := x.2.1
  Fr.need (InvS0 c i j g l) (Fr.val (Rd.out ((c, (bsG (fun h => ltOf g (l.getD h 0) (l.getD c.toNat 0)) (j.toNat - i.toNat) i.toNat j.toNat : Nat), ()), (l, ()))))

theorem lawS0 (c i j : Int) (g : cmpT.den) (l : List Int) (hinv : InvS0 c i j g l) (Q : pt_s0.Out → Prop)
    (hq : Q (Rd.out ((c, (bsG (fun h => ltOf g (l.getD h 0) (l.getD c.toNat 0)) (j.toNat - i.toNat) i.toNat j.toNat : Nat), ()), (l, ())))) : (fr_s0 ((c, g, i, j, ()), (l, ()))).satP fun
      | .next x' => InvS0 x'.1.1 x'.1.2.2.1 x'.1.2.2.2.1 x'.1.2.1 x'.2.1 ∧ (x'.1.2.2.2.1 - x'.1.2.2.1).toNat < (j - i).toNat ∧ (FS0 x').satP Q
      | .out y => Q (.out y)
      | .back z => Q (.back z)
      | .pan p => Q (.pan p) := by
  obtain ⟨h0, h1, h2, h3, h4, hb, hd⟩ := hinv
  obtain ⟨i', rfl⟩ : ∃ n : Nat, i = n := ⟨i.toNat, by omega⟩
  obtain ⟨j', rfl⟩ : ∃ n : Nat, j = n := ⟨j.toNat, by omega⟩
  obtain ⟨c', rfl⟩ : ∃ n : Nat, c = n := ⟨c.toNat, by omega⟩
  have hm : midI (i' : Int) j' = ((i' + j') / 2 : Nat) := midI_nat (by omega)
  have hw : IntKind.i64.wrap ((((i' + j') / 2 : Nat) : Int) + 1) = ((i' + j') / 2 + 1 : Nat) := succ_nat (by omega)
  dsimp only [fr_s0, Fr.satP, Ty.den, PT.den]
  rw [hm, hw]

  simp only [Int.toNat_natCast] at hq ⊢
  refine ⟨fun hi => ?_, fun hi => ?_⟩
  · have hlt : i' < j' := by have : (i' : Int) < j' := of_decide_eq_true hi; omega
    rw [bsG_step hlt] at hq
    have hml : (i' + j') / 2 < l.length := by omega
    have hcl : c' < l.length := by omega
    refine ⟨by omega, ⟨by omega, by omega⟩, by omega, ⟨by omega, by omega⟩, by omega, hd _ (getD_mem hml) _ (getD_mem hcl), fun hc => ?_, fun hc => ?_⟩
    · have hc' : (ltOf g (l.getD ((i' + j') / 2) 0) (l.getD c' 0)) = true := hc
      rw [hc'] at hq
      have hI : InvS0 (c' : Int) ((i' + j') / 2 + 1 : Nat) j' g l := ⟨h0, h1, by omega, by omega, by omega, hb, hd⟩
      exact ⟨hI, by omega, hI, hq⟩
    · have hc' : (ltOf g (l.getD ((i' + j') / 2) 0) (l.getD c' 0)) = false := hc
      rw [hc'] at hq
      have hI : InvS0 (c' : Int) i' ((i' + j') / 2 : Nat) g l := ⟨h0, h1, by omega, by omega, by omega, hb, hd⟩
      exact ⟨hI, by omega, hI, hq⟩
  · have hge : ¬ i' < j' := by have : ¬ (i' : Int) < j' := of_decide_eq_false hi; omega
    rw [show j' - i' = 0 by omega] at hq
    exact hq

theorem loopS0 : Does Try.prog (.loop (loopF Try.f162 0)) pt_s0.M pt_s0 FS0 := by
  refine Does.loop (n := 220) (id := 0) sem_s0 (inv := fun x => InvS0 x.1.1 x.1.2.2.1 x.1.2.2.2.1 x.1.2.1 x.2.1) (μ := fun x => (x.1.2.2.2.1 - x.1.2.2.1).toNat) ?_ (fun x Q h => h.1)
  rintro ⟨⟨c, g, i, j, _⟩, ⟨l, _⟩⟩ hinv Q hq
  exact lawS0 c i j g l hinv Q hq.2

abbrev pt_s2 : Pt := ⟨220, 4, ⟨[(2, .d i64), (4, cmpT), (14, .d i64), (15, .d i64)], [.al 10000 0, .o 0 3 i64]⟩, ⟨[(2, .d i64), (14, .d i64)], [.al 10000 0, .o 0 3 i64]⟩, ⟨[], []⟩⟩

def fr_s2 (x : pt_s2.M.X) : Fr pt_s2.Out :=
  let c := x.1.1; let g := x.1.2.1; let i := x.1.2.2.1; let j := x.1.2.2.2.1; let l := x.2.1
  Fr.br (decide (i < j))
    (Fr.need (¬(1 : Int) < 0)
      (Fr.need (0 ≤ c ∧ c < (l.length : Int))
        (Fr.need ((c).toNat < l.length)
          (Fr.need (0 ≤ midI i j ∧ midI i j < (l.length : Int))
            (Fr.need ((midI i j).toNat < l.length)
              (Fr.need (g.2 (l.getD c.toNat i64.dflt, l.getD (midI i j).toNat i64.dflt, ()))
                (Fr.br (!decide ((g.1 (l.getD c.toNat i64.dflt, l.getD (midI i j).toNat i64.dflt, ())).1 < 0))
                  (Fr.val (Rd.next ((c, (g.1, g.2), IntKind.i64.wrap (midI i j + 1), j, ()), (l, ()))))
                  (Fr.val (Rd.next ((c, (g.1, g.2), i, midI i j, ()), (l, ())))))))))))
    (Fr.val (Rd.out ((c, i, ()), (l, ()))))

theorem sem_s2 : Does Try.prog (loopF Try.f162 2) pt_s2.M pt_s2 fr_s2 :=
  Does.of_run CI0_ok (bs := 0) (Λ := lam0) rfl rfl rfl (fun E => lam0_ok _ 0) (fun x => by kernel_rfl)

structure InvS2 (c i j : Int) (g : cmpT.den) (l : List Int) : Prop where
  c0 : 0 ≤ c
  cl : c < l.length
  i0 : 0 ≤ i
  ij : i ≤ j
  jl : j ≤ l.length
  big : (l.length : Int) ≤ 4611686018427387903
  dom : DomOf g l

def FS2 (x : pt_s2.M.X) : Fr pt_s2.Out :=
  let c := x.1.1; let g := x.1.2.1; let i := x.1.2.2.1; let j := x.1.2.2.2.1; let l := x.2.1
  Fr.need (InvS2 c i j g l) (Fr.val (Rd.out ((c, (bsG (fun h => !ltOf g (l.getD c.toNat 0) (l.getD h 0)) (j.toNat - i.toNat) i.toNat j.toNat : Nat), ()), (l, ()))))

theorem lawS2 (c i j : Int) (g : cmpT.den) (l : List Int) (hinv : InvS2 c i j g l) (Q : pt_s2.Out → Prop)
    (hq : Q (Rd.out ((c, (bsG (fun h => !ltOf g (l.getD c.toNat 0) (l.getD h 0)) (j.toNat - i.toNat) i.toNat j.toNat : Nat), ()), (l, ())))) : (fr_s2 ((c, g, i, j, ()), (l, ()))).satP fun
      | .next x' => InvS2 x'.1.1 x'.1.2.2.1 x'.1.2.2.2.1 x'.1.2.1 x'.2.1 ∧ (x'.1.2.2.2.1 - x'.1.2.2.1).toNat < (j - i).toNat ∧ (FS2 x').satP Q
      | .out y => Q (.out y)
      | .back z => Q (.back z)
      | .pan p => Q (.pan p) := by
  obtain ⟨h0, h1, h2, h3, h4, hb, hd⟩ := hinv
  obtain ⟨i', rfl⟩ : ∃ n : Nat, i = n := ⟨i.toNat, by omega⟩
  obtain ⟨j', rfl⟩ : ∃ n : Nat, j = n := ⟨j.toNat, by omega⟩
  obtain ⟨c', rfl⟩ : ∃ n : Nat, c = n := ⟨c.toNat, by omega⟩
  have hm : midI (i' : Int) j' = ((i' + j') / 2 : Nat) := midI_nat (by omega)
  have hw : IntKind.i64.wrap ((((i' + j') / 2 : Nat) : Int) + 1) = ((i' + j') / 2 + 1 : Nat) := succ_nat (by omega)
  dsimp only [fr_s2, Fr.satP, Ty.den, PT.den]
  rw [hm, hw]

  simp only [Int.toNat_natCast] at hq ⊢
  refine ⟨fun hi => ?_, fun hi => ?_⟩
  · have hlt : i' < j' := by have : (i' : Int) < j' := of_decide_eq_true hi; omega
    rw [bsG_step hlt] at hq
    have hml : (i' + j') / 2 < l.length := by omega
    have hcl : c' < l.length := by omega
    refine ⟨by omega, ⟨by omega, by omega⟩, by omega, ⟨by omega, by omega⟩, by omega, hd _ (getD_mem hcl) _ (getD_mem hml), fun hc => ?_, fun hc => ?_⟩
    · have hc' : (!ltOf g (l.getD c' 0) (l.getD ((i' + j') / 2) 0)) = true := hc
      rw [hc'] at hq
      have hI : InvS2 (c' : Int) ((i' + j') / 2 + 1 : Nat) j' g l := ⟨h0, h1, by omega, by omega, by omega, hb, hd⟩
      exact ⟨hI, by omega, hI, hq⟩
    · have hc' : (!ltOf g (l.getD c' 0) (l.getD ((i' + j') / 2) 0)) = false := hc
      rw [hc'] at hq
      have hI : InvS2 (c' : Int) i' ((i' + j') / 2 : Nat) g l := ⟨h0, h1, by omega, by omega, by omega, hb, hd⟩
      exact ⟨hI, by omega, hI, hq⟩
  · have hge : ¬ i' < j' := by have : ¬ (i' : Int) < j' := of_decide_eq_false hi; omega
    rw [show j' - i' = 0 by omega] at hq
    exact hq

theorem loopS2 : Does Try.prog (.loop (loopF Try.f162 2)) pt_s2.M pt_s2 FS2 := by
  refine Does.loop (n := 220) (id := 4) sem_s2 (inv := fun x => InvS2 x.1.1 x.1.2.2.1 x.1.2.2.2.1 x.1.2.1 x.2.1) (μ := fun x => (x.1.2.2.2.1 - x.1.2.2.1).toNat) ?_ (fun x Q h => h.1)
  rintro ⟨⟨c, g, i, j, _⟩, ⟨l, _⟩⟩ hinv Q hq
  exact lawS2 c i j g l hinv Q hq.2

abbrev pt_s4 : Pt := ⟨220, 8, ⟨[(1, .d i64), (2, .d i64), (3, .d i64), (4, cmpT), (18, .d i64), (19, .d i64), (20, .d i64), (21, .d i64), (22, .d i64)], [.al 10000 0, .o 0 3 i64]⟩, ⟨[(1, .d i64), (2, .d i64), (3, .d i64), (4, cmpT), (18, .d i64), (19, .d i64), (20, .d i64)], [.al 10000 0, .o 0 3 i64]⟩, ⟨[], []⟩⟩

def fr_s4 (x : pt_s4.M.X) : Fr pt_s4.Out :=
  let a := x.1.1; let m := x.1.2.1; let b := x.1.2.2.1; let g := x.1.2.2.2.1; let mid := x.1.2.2.2.2.1; let n := x.1.2.2.2.2.2.1; let i := x.1.2.2.2.2.2.2.1; let j := x.1.2.2.2.2.2.2.2.1; let p := x.1.2.2.2.2.2.2.2.2.1; let l := x.2.1
  Fr.br (decide (i < j))
    (Fr.need (¬(1 : Int) < 0)
      (Fr.need (0 ≤ IntKind.i64.wrap (p - midI i j) ∧ IntKind.i64.wrap (p - midI i j) < (l.length : Int))
        (Fr.need ((IntKind.i64.wrap (p - midI i j)).toNat < l.length)
          (Fr.need (0 ≤ midI i j ∧ midI i j < (l.length : Int))
            (Fr.need ((midI i j).toNat < l.length)
              (Fr.need (g.2 (l.getD (IntKind.i64.wrap (p - midI i j)).toNat i64.dflt, l.getD (midI i j).toNat i64.dflt, ()))
                (Fr.br (!decide ((g.1 (l.getD (IntKind.i64.wrap (p - midI i j)).toNat i64.dflt, l.getD (midI i j).toNat i64.dflt, ())).1 < 0))
                  (Fr.val (Rd.next ((a, m, b, (g.1, g.2), mid, n, IntKind.i64.wrap (midI i j + 1), j, p, ()), (l, ()))))
                  (Fr.val (Rd.next ((a, m, b, (g.1, g.2), mid, n, i, midI i j, p, ()), (l, ())))))))))))
    (Fr.val (Rd.out ((a, m, b, (g.1, g.2), mid, n, i, ()), (l, ()))))

theorem sem_s4 : Does Try.prog (loopF Try.f162 4) pt_s4.M pt_s4 fr_s4 :=
  Does.of_run CI0_ok (bs := 0) (Λ := lam0) rfl rfl rfl (fun E => lam0_ok _ 0) (fun x => by kernel_rfl)

structure InvS4 (p i j : Int) (g : cmpT.den) (l : List Int) : Prop where
  p0 : 0 ≤ p
  pl : p < i + l.length
  pj : j ≤ p + 1
  i0 : 0 ≤ i
  ij : i ≤ j
  jl : j ≤ l.length
  big : (l.length : Int) ≤ 4611686018427387903
  dom : DomOf g l

def FS4 (x : pt_s4.M.X) : Fr pt_s4.Out :=
  let a := x.1.1; let m := x.1.2.1; let b := x.1.2.2.1; let g := x.1.2.2.2.1; let mid := x.1.2.2.2.2.1; let n := x.1.2.2.2.2.2.1; let i := x.1.2.2.2.2.2.2.1; let j := x.1.2.2.2.2.2.2.2.1; let p := x.1.2.2.2.2.2.2.2.2.1; let l := x.2.1
  Fr.need (InvS4 p i j g l) (Fr.val (Rd.out ((a, m, b, g, mid, n, (bsG (fun h => !ltOf g (l.getD (p.toNat - h) 0) (l.getD h 0)) (j.toNat - i.toNat) i.toNat j.toNat : Nat), ()), (l, ()))))

theorem lawS4 (a m b mid n p i j : Int) (g : cmpT.den) (l : List Int) (hinv : InvS4 p i j g l) (Q : pt_s4.Out → Prop)
    (hq : Q (Rd.out ((a, m, b, g, mid, n, (bsG (fun h => !ltOf g (l.getD (p.toNat - h) 0) (l.getD h 0)) (j.toNat - i.toNat) i.toNat j.toNat : Nat), ()), (l, ())))) : (fr_s4 ((a, m, b, g, mid, n, i, j, p, ()), (l, ()))).satP fun
      | .next x' => InvS4 x'.1.2.2.2.2.2.2.2.2.1 x'.1.2.2.2.2.2.2.1 x'.1.2.2.2.2.2.2.2.1 x'.1.2.2.2.1 x'.2.1 ∧ (x'.1.2.2.2.2.2.2.2.1 - x'.1.2.2.2.2.2.2.1).toNat < (j - i).toNat ∧ (FS4 x').satP Q
      | .out y => Q (.out y)
      | .back z => Q (.back z)
      | .pan p => Q (.pan p) := by
  obtain ⟨h00, h0, h1, h2, h3, h4, hb, hd⟩ := hinv
  obtain ⟨i', rfl⟩ : ∃ n : Nat, i = n := ⟨i.toNat, by omega⟩
  obtain ⟨j', rfl⟩ : ∃ n : Nat, j = n := ⟨j.toNat, by omega⟩
  obtain ⟨p', rfl⟩ : ∃ n : Nat, p = n := ⟨p.toNat, by omega⟩
  have hm : midI (i' : Int) j' = ((i' + j') / 2 : Nat) := midI_nat (by omega)
  have hw : IntKind.i64.wrap ((((i' + j') / 2 : Nat) : Int) + 1) = ((i' + j') / 2 + 1 : Nat) := succ_nat (by omega)
  dsimp only [fr_s4, Fr.satP, Ty.den, PT.den]
  rw [hm, hw]
  have hp : (i' < j') → IntKind.i64.wrap ((p' : Int) - (((i' + j') / 2 : Nat) : Int)) = (p' - (i' + j') / 2 : Nat) := fun h => sub_nat (by omega) (by omega)
  simp only [Int.toNat_natCast] at hq ⊢
  refine ⟨fun hi => ?_, fun hi => ?_⟩
  · have hlt : i' < j' := by have : (i' : Int) < j' := of_decide_eq_true hi; omega
    rw [bsG_step hlt] at hq
    rw [hp hlt]
    simp only [Int.toNat_natCast]
    have hml : p' - (i' + j') / 2 < l.length := by omega
    have hcl : (i' + j') / 2 < l.length := by omega
    refine ⟨by omega, ⟨by omega, by omega⟩, by omega, ⟨by omega, by omega⟩, by omega, hd _ (getD_mem hml) _ (getD_mem hcl), fun hc => ?_, fun hc => ?_⟩
    · have hc' : (!ltOf g (l.getD (p' - (i' + j') / 2) 0) (l.getD ((i' + j') / 2) 0)) = true := hc
      rw [hc'] at hq
      have hI : InvS4 (p' : Int) ((i' + j') / 2 + 1 : Nat) j' g l := ⟨h00, by omega, by omega, by omega, by omega, by omega, hb, hd⟩
      exact ⟨hI, by omega, hI, hq⟩
    · have hc' : (!ltOf g (l.getD (p' - (i' + j') / 2) 0) (l.getD ((i' + j') / 2) 0)) = false := hc
      rw [hc'] at hq
      have hI : InvS4 (p' : Int) i' ((i' + j') / 2 : Nat) g l := ⟨h00, by omega, by omega, by omega, by omega, by omega, hb, hd⟩
      exact ⟨hI, by omega, hI, hq⟩
  · have hge : ¬ i' < j' := by have : ¬ (i' : Int) < j' := of_decide_eq_false hi; omega
    rw [show j' - i' = 0 by omega] at hq
    exact hq

theorem loopS4 : Does Try.prog (.loop (loopF Try.f162 4)) pt_s4.M pt_s4 FS4 := by
  refine Does.loop (n := 220) (id := 8) sem_s4 (inv := fun x => InvS4 x.1.2.2.2.2.2.2.2.2.1 x.1.2.2.2.2.2.2.1 x.1.2.2.2.2.2.2.2.1 x.1.2.2.2.1 x.2.1) (μ := fun x => (x.1.2.2.2.2.2.2.2.1 - x.1.2.2.2.2.2.2.1).toNat) ?_ (fun x Q h => h.1)
  rintro ⟨⟨a, m, b, g, mid, n, i, j, p, _⟩, ⟨l, _⟩⟩ hinv Q hq
  exact lawS4 a m b mid n p i j g l hinv Q hq.2

abbrev pt_s1 : Pt := ⟨220, 2, ⟨[(10, .d i64), (13, .d i64)], [.al 10000 0, .o 0 3 i64]⟩, ⟨[], [.al 10000 0, .o 0 3 i64]⟩, ⟨[], []⟩⟩

def fr_s1 (x : pt_s1.M.X) : Fr pt_s1.Out :=
  let i := x.1.1; let k := x.1.2.1; let l := x.2.1
  Fr.br (decide (k < IntKind.i64.wrap (i - 1)))
    (Fr.need (0 ≤ IntKind.i64.wrap (k + 1) ∧ IntKind.i64.wrap (k + 1) < (l.length : Int))
      (Fr.need ((IntKind.i64.wrap (k + 1)).toNat < l.length)
        (Fr.need (0 ≤ k ∧ k < (l.length : Int))
          (Fr.need (k.toNat < l.length)
            (Fr.need (0 ≤ k ∧ k < (l.length : Int))
              (Fr.need (k.toNat < l.length)
                (Fr.need (0 ≤ IntKind.i64.wrap (k + 1) ∧ IntKind.i64.wrap (k + 1) < ((l.set k.toNat (l.getD (IntKind.i64.wrap (k + 1)).toNat i64.dflt)).length : Int))
                  (Fr.need ((IntKind.i64.wrap (k + 1)).toNat < (l.set k.toNat (l.getD (IntKind.i64.wrap (k + 1)).toNat i64.dflt)).length)
                    (Fr.val (Rd.next ((i, IntKind.i64.wrap (k + 1), ()), ((l.set k.toNat (l.getD (IntKind.i64.wrap (k + 1)).toNat i64.dflt)).set (IntKind.i64.wrap (k + 1)).toNat (l.getD k.toNat i64.dflt), ()))))))))))))
    (Fr.val (Rd.out ((), (l, ()))))

theorem sem_s1 : Does Try.prog (loopF Try.f162 1) pt_s1.M pt_s1 fr_s1 :=
  Does.of_run CI0_ok (bs := 0) (Λ := lam0) rfl rfl rfl (fun E => lam0_ok _ 0) (fun x => by kernel_rfl)

structure InvS1 (i k : Int) (l : List Int) : Prop where
  k0 : 0 ≤ k
  i0 : 0 ≤ i
  il : i ≤ l.length
  big : (l.length : Int) ≤ 4611686018427387903

def FS1 (x : pt_s1.M.X) : Fr pt_s1.Out :=
  let i := x.1.1; let k := x.1.2.1; let l := x.2.1
  Fr.need (InvS1 i k l) (Fr.val (Rd.out ((), (upS 0 (i - 1 - k).toNat k.toNat l, ()))))

theorem lawS1 (i k : Int) (l : List Int) (hinv : InvS1 i k l) (Q : pt_s1.Out → Prop) (hq : Q (Rd.out ((), (upS 0 (i - 1 - k).toNat k.toNat l, ())))) : (fr_s1 ((i, k, ()), (l, ()))).satP fun
      | .next x' => InvS1 x'.1.1 x'.1.2.1 x'.2.1 ∧ (x'.1.1 - 1 - x'.1.2.1).toNat < (i - 1 - k).toNat ∧ (FS1 x').satP Q
      | .out y => Q (.out y)
      | .back z => Q (.back z)
      | .pan p => Q (.pan p) := by
  obtain ⟨h0, h1, h2, h3⟩ := hinv
  have w1 : IntKind.i64.wrap (i - 1) = i - 1 := IntWalk.i64_in _ (by omega)
  dsimp only [fr_s1, Fr.satP, Ty.den, PT.den]
  rw [w1]
  simp only [List.length_set]
  refine ⟨fun hc => ?_, fun hc => ?_⟩
  · have hlt : k < i - 1 := of_decide_eq_true hc
    have w2 : IntKind.i64.wrap (k + 1) = k + 1 := IntWalk.i64_in _ (by omega)
    rw [w2]
    have hI : InvS1 i (k + 1) (swapL l 0 k.toNat (k + 1).toNat) := ⟨by omega, by omega, by rw [swapL_length]; omega, by rw [swapL_length]; omega⟩
    refine ⟨⟨by omega, by omega⟩, by omega, ⟨by omega, by omega⟩, by omega, ⟨by omega, by omega⟩, by omega, ⟨by omega, by omega⟩, by omega, hI, by omega, hI, ?_⟩
    rw [show (i - 1 - k).toNat = (i - 1 - (k + 1)).toNat + 1 by omega] at hq
    simp only [upS] at hq
    dsimp only [Ty.den, PT.den]
    rw [show k.toNat + 1 = (k + 1).toNat by omega] at hq
    exact hq
  · have hge : ¬ k < i - 1 := of_decide_eq_false hc
    rw [show (i - 1 - k).toNat = 0 by omega] at hq
    exact hq

theorem loopS1 : Does Try.prog (.loop (loopF Try.f162 1)) pt_s1.M pt_s1 FS1 := by
  refine Does.loop (n := 220) (id := 2) sem_s1 (inv := fun x => InvS1 x.1.1 x.1.2.1 x.2.1) (μ := fun x => (x.1.1 - 1 - x.1.2.1).toNat) ?_ (fun x Q h => h.1)
  rintro ⟨⟨i, k, _⟩, ⟨l, _⟩⟩ hinv Q hq
  exact lawS1 i k l hinv Q hq.2

abbrev pt_s3 : Pt := ⟨220, 6, ⟨[(14, .d i64), (17, .d i64)], [.al 10000 0, .o 0 3 i64]⟩, ⟨[], [.al 10000 0, .o 0 3 i64]⟩, ⟨[], []⟩⟩

def fr_s3 (x : pt_s3.M.X) : Fr pt_s3.Out :=
  let i := x.1.1; let k := x.1.2.1; let l := x.2.1
  Fr.br (decide (k > i))
    (Fr.need (0 ≤ IntKind.i64.wrap (k - 1) ∧ IntKind.i64.wrap (k - 1) < (l.length : Int))
      (Fr.need ((IntKind.i64.wrap (k - 1)).toNat < l.length)
        (Fr.need (0 ≤ k ∧ k < (l.length : Int))
          (Fr.need (k.toNat < l.length)
            (Fr.need (0 ≤ k ∧ k < (l.length : Int))
              (Fr.need (k.toNat < l.length)
                (Fr.need (0 ≤ IntKind.i64.wrap (k - 1) ∧ IntKind.i64.wrap (k - 1) < ((l.set k.toNat (l.getD (IntKind.i64.wrap (k - 1)).toNat i64.dflt)).length : Int))
                  (Fr.need ((IntKind.i64.wrap (k - 1)).toNat < (l.set k.toNat (l.getD (IntKind.i64.wrap (k - 1)).toNat i64.dflt)).length)
                    (Fr.val (Rd.next ((i, IntKind.i64.wrap (k - 1), ()), ((l.set k.toNat (l.getD (IntKind.i64.wrap (k - 1)).toNat i64.dflt)).set (IntKind.i64.wrap (k - 1)).toNat (l.getD k.toNat i64.dflt), ()))))))))))))
    (Fr.val (Rd.out ((), (l, ()))))

theorem sem_s3 : Does Try.prog (loopF Try.f162 3) pt_s3.M pt_s3 fr_s3 :=
  Does.of_run CI0_ok (bs := 0) (Λ := lam0) rfl rfl rfl (fun E => lam0_ok _ 0) (fun x => by kernel_rfl)

structure InvS3 (i k : Int) (l : List Int) : Prop where
  i0 : 0 ≤ i
  ik : i ≤ k
  kl : k < l.length
  big : (l.length : Int) ≤ 4611686018427387903

def FS3 (x : pt_s3.M.X) : Fr pt_s3.Out :=
  let i := x.1.1; let k := x.1.2.1; let l := x.2.1
  Fr.need (InvS3 i k l) (Fr.val (Rd.out ((), (downS 0 (k - i).toNat k.toNat l, ()))))

theorem lawS3 (i k : Int) (l : List Int) (hinv : InvS3 i k l) (Q : pt_s3.Out → Prop) (hq : Q (Rd.out ((), (downS 0 (k - i).toNat k.toNat l, ())))) : (fr_s3 ((i, k, ()), (l, ()))).satP fun
      | .next x' => InvS3 x'.1.1 x'.1.2.1 x'.2.1 ∧ (x'.1.2.1 - x'.1.1).toNat < (k - i).toNat ∧ (FS3 x').satP Q
      | .out y => Q (.out y)
      | .back z => Q (.back z)
      | .pan p => Q (.pan p) := by
  obtain ⟨h0, h1, h2, h3⟩ := hinv
  have w2 : IntKind.i64.wrap (k - 1) = k - 1 := IntWalk.i64_in _ (by omega)
  dsimp only [fr_s3, Fr.satP, Ty.den, PT.den]
  rw [w2]
  simp only [List.length_set]
  refine ⟨fun hc => ?_, fun hc => ?_⟩
  · have hlt : k > i := of_decide_eq_true hc
    have hI : InvS3 i (k - 1) (swapL l 0 k.toNat (k - 1).toNat) := ⟨by omega, by omega, by rw [swapL_length]; omega, by rw [swapL_length]; omega⟩
    refine ⟨⟨by omega, by omega⟩, by omega, ⟨by omega, by omega⟩, by omega, ⟨by omega, by omega⟩, by omega, ⟨by omega, by omega⟩, by omega, hI, by omega, hI, ?_⟩
    rw [show (k - i).toNat = (k - 1 - i).toNat + 1 by omega] at hq
    simp only [downS] at hq
    dsimp only [Ty.den, PT.den]
    rw [show k.toNat - 1 = (k - 1).toNat by omega] at hq
    exact hq
  · have hge : ¬ k > i := of_decide_eq_false hc
    rw [show (k - i).toNat = 0 by omega] at hq
    exact hq

theorem loopS3 : Does Try.prog (.loop (loopF Try.f162 3)) pt_s3.M pt_s3 FS3 := by
  refine Does.loop (n := 220) (id := 6) sem_s3 (inv := fun x => InvS3 x.1.1 x.1.2.1 x.2.1) (μ := fun x => (x.1.2.1 - x.1.1).toNat) ?_ (fun x Q h => h.1)
  rintro ⟨⟨i, k, _⟩, ⟨l, _⟩⟩ hinv Q hq
  exact lawS3 i k l hinv Q hq.2

end Go.Proofs.Ytbplccbjgfappaa

/-
  slices.symMergeCmpFunc over numbers.
-/
namespace Go.Proofs.Ytbplccbjgfappaa
open Go Go.Ab Go.RowKit Go.Proofs

/-- Two halves that are sorted. -/
structure SymOk (n : Nat) (a m b : Int) (g : cmpT.den) (l : List Int) : Prop where
  a0 : 0 ≤ a
  am : a < m
  mb : m < b
  bl : b ≤ l.length
  big : (l.length : Int) ≤ 4611686018427387903
  size : b - a ≤ n
  dom : DomOf g l
  key : ∃ key : Int → Int, LtK (ltOf g) key l ∧ SortK key (seg a.toNat m.toNat l) ∧ SortK key (seg m.toNat b.toNat l)

noncomputable def mSym (n : Nat) : Mt := ⟨3, i64, [.d i64, .d i64, .d i64, cmpT], [], fun l x => (partB (ltOf x.2.2.2.1) x.1.toNat x.2.2.1.toNat l, ()), fun l x => [SymOk n x.1 x.2.1 x.2.2.1 x.2.2.2.1 l]⟩

noncomputable def CI2 (n : Nat) : Cx := cxK [] [] (orK (mtK (cx [] []).Γ 167 mRot) (mtK (cx [] []).Γ 162 (mSym n)))
theorem CI2_ok {n : Nat} (h : SoundMt Try.prog 162 (mSym n)) : CxOK Try.prog (CI2 n) := cxK_ok mixed trivial trivial (orK_ok (mtK_ok CI0_ok.ct rotate_ok) (mtK_ok CI0_ok.ct h))

noncomputable def ΛSym : Nat → St → Option Tr
  | 0 => pt_s0.han CI0.Γ pt_s0.M FS0
  | 1 => pt_s1.han CI0.Γ pt_s1.M FS1
  | 2 => pt_s2.han CI0.Γ pt_s2.M FS2
  | 3 => pt_s3.han CI0.Γ pt_s3.M FS3
  | _ => pt_s4.han CI0.Γ pt_s4.M FS4

theorem lam_sym {E : Env} {c : Code} (hc : Try.f162.body = some c) : LamOK Try.prog E ΛSym c 0 := by
  have hn : (Try.f162.body.map loopsIn) = some 5 := by kernel_rfl
  have b0 : Try.f162.body.bind (Go.Ab.loopB · 0) = some (loopF Try.f162 0) := by kernel_rfl
  have b1 : Try.f162.body.bind (Go.Ab.loopB · 1) = some (loopF Try.f162 1) := by kernel_rfl
  have b2 : Try.f162.body.bind (Go.Ab.loopB · 2) = some (loopF Try.f162 2) := by kernel_rfl
  have b3 : Try.f162.body.bind (Go.Ab.loopB · 3) = some (loopF Try.f162 3) := by kernel_rfl
  have b4 : Try.f162.body.bind (Go.Ab.loopB · 4) = some (loopF Try.f162 4) := by kernel_rfl
  have hb : ∀ i, i < 5 → Try.f162.body.bind (Go.Ab.loopB · i) = some (loopF Try.f162 i) := fun i hi => match i, hi with
    | 0, _ => b0
    | 1, _ => b1
    | 2, _ => b2
    | 3, _ => b3
    | 4, _ => b4
  rw [hc] at hn hb
  simp only [Option.map_some, Option.some.injEq] at hn
  simp only [Option.bind_some] at hb
  refine lamAll c 0 fun i b' hb' => ?_
  have hlt := loopB_lt hb'
  rw [hn] at hlt
  have e := hb i hlt
  rw [e] at hb'
  cases hb'
  match i, hlt with
  | 0, _ => exact Does.han CI0_ok rfl loopS0
  | 1, _ => exact Does.han CI0_ok rfl loopS1
  | 2, _ => exact Does.han CI0_ok rfl loopS2
  | 3, _ => exact Does.han CI0_ok rfl loopS3
  | 4, _ => exact Does.han CI0_ok rfl loopS4

def bs0 (c i j : Int) (g : cmpT.den) (l : List Int) : Int := (bsG (fun h => ltOf g (l.getD h 0) (l.getD c.toNat 0)) (j.toNat - i.toNat) i.toNat j.toNat : Nat)
def bs2 (c i j : Int) (g : cmpT.den) (l : List Int) : Int := (bsG (fun h => !ltOf g (l.getD c.toNat 0) (l.getD h 0)) (j.toNat - i.toNat) i.toNat j.toNat : Nat)
def bs4 (p i j : Int) (g : cmpT.den) (l : List Int) : Int := (bsG (fun h => !ltOf g (l.getD (p.toNat - h) 0) (l.getD h 0)) (j.toNat - i.toNat) i.toNat j.toNat : Nat)

def needMt (ps : List Prop) (x : Fr (List Int × denL [])) : Fr (List Int × denL []) := Fr.needL ps x

noncomputable def symT3 (n : Nat) (mid en b : Int) (g : cmpT.den) (l : List Int) : Fr (List Int × denL []) :=
  Fr.br (bif decide (mid < en) then decide (en < b) else false) (Fr.need (SymOk n mid en b (g.1, g.2) l) (Fr.val (((mSym n).f l (mid, en, b, (g.1, g.2), ())).1, ()))) (Fr.val (l, ()))
noncomputable def symT2 (n : Nat) (a st mid en b : Int) (g : cmpT.den) (l : List Int) : Fr (List Int × denL []) :=
  Fr.br (bif decide (a < st) then decide (st < mid) else false) (Fr.need (SymOk n a st mid (g.1, g.2) l) (symT3 n mid en b g ((mSym n).f l (a, st, mid, (g.1, g.2), ())).1)) (symT3 n mid en b g l)
noncomputable def symT1 (n : Nat) (a m b st mid en : Int) (g : cmpT.den) (l : List Int) : Fr (List Int × denL []) :=
  Fr.br (bif decide (st < m) then decide (m < en) else false)
    (Fr.need (0 ≤ st) (Fr.need (st < m) (Fr.need (m < en) (Fr.need (en ≤ (l.length : Int)) (Fr.need ((l.length : Int) ≤ 4611686018427387903) (symT2 n a st mid en b g (mRot.f l (st, m, en, (g.1, g.2), ())).1))))))
    (symT2 n a st mid en b g l)
noncomputable def symT0 (n : Nat) (a m b mid i j : Int) (g : cmpT.den) (l : List Int) : Fr (List Int × denL []) :=
  let p := IntKind.i64.wrap (IntKind.i64.wrap (mid + m) - 1)
  Fr.need (InvS4 p i j (g.1, g.2) l) (symT1 n a m b (bs4 p i j (g.1, g.2) l) mid (IntKind.i64.wrap (IntKind.i64.wrap (mid + m) - bs4 p i j (g.1, g.2) l)) g l)

noncomputable def fr_sym (n : Nat) (l : List Int) (x : denP [.d i64, .d i64, .d i64, cmpT]) : Fr (List Int × denL []) :=
  let a := x.1; let m := x.2.1; let b := x.2.2.1; let g := x.2.2.2.1
  Fr.br (IntKind.i64.wrap (m - a) == 1)
    (Fr.need (InvS0 a m b (g.1, g.2) l) (Fr.need (InvS1 (bs0 a m b (g.1, g.2) l) a l) (Fr.val (upS 0 (bs0 a m b (g.1, g.2) l - 1 - a).toNat a.toNat l, ()))))
    (Fr.br (IntKind.i64.wrap (b - m) == 1)
      (Fr.need (InvS2 m a m (g.1, g.2) l) (Fr.need (InvS3 (bs2 m a m (g.1, g.2) l) m l) (Fr.val (downS 0 (m - bs2 m a m (g.1, g.2) l).toNat m.toNat l, ()))))
      (Fr.need (¬(1 : Int) < 0)
        (Fr.br (decide (m > midI a b))
          (symT0 n a m b (midI a b) (IntKind.i64.wrap (IntKind.i64.wrap (midI a b + m) - b)) (midI a b) g l)
          (symT0 n a m b (midI a b) a m g l))))

theorem run_sym (n : Nat) (l : List Int) (x : denP [.d i64, .d i64, .d i64, cmpT]) : runMt Try.prog (CI2 n) ΛSym Try.f162 3 i64 [.d i64, .d i64, .d i64, cmpT] [] l x = some (fr_sym n l x) := by kernel_rfl

theorem bsG_bd {Q : Nat → Bool} : (f i j : Nat) → i ≤ j → i ≤ bsG Q f i j ∧ bsG Q f i j ≤ j
  | 0, i, j, h => ⟨Nat.le_refl _, h⟩
  | f + 1, i, j, h => by
    simp only [bsG]
    split
    · cases Q ((i + j) / 2) with
      | true =>
        have := bsG_bd (Q := Q) f ((i + j) / 2 + 1) j (by omega)
        simp only [cond_true]
        omega
      | false =>
        have := bsG_bd (Q := Q) f i ((i + j) / 2) (by omega)
        simp only [cond_false]
        omega
    · exact ⟨Nat.le_refl _, h⟩

/-- How the halves fall, and what stands behind the rotation, and behind the left half's merge. -/
structure Sym3 (lt : Int → Int → Bool) (key : Int → Int) (a m b st : Nat) (l : List Int) : Prop where
  s1 : a ≤ st
  s2 : st ≤ m
  s3 : st ≤ (a + b) / 2
  s4 : (a + b) / 2 ≤ b
  e1 : m + st ≤ (a + b) / 2 + m
  e2 : (a + b) / 2 + m ≤ b + st
  len1 : (symR 0 m st ((a + b) / 2 + m - st) l).length = l.length
  same1 : SameK key l (symR 0 m st ((a + b) / 2 + m - st) l)
  sA1 : SortK key (seg a st (symR 0 m st ((a + b) / 2 + m - st) l))
  sB1 : SortK key (seg st ((a + b) / 2) (symR 0 m st ((a + b) / 2 + m - st) l))
  len2 : (if a < st ∧ st < (a + b) / 2 then partB lt a ((a + b) / 2) (symR 0 m st ((a + b) / 2 + m - st) l) else symR 0 m st ((a + b) / 2 + m - st) l).length = l.length
  same2 : SameK key l (if a < st ∧ st < (a + b) / 2 then partB lt a ((a + b) / 2) (symR 0 m st ((a + b) / 2 + m - st) l) else symR 0 m st ((a + b) / 2 + m - st) l)
  sA2 : SortK key (seg ((a + b) / 2) ((a + b) / 2 + m - st) (if a < st ∧ st < (a + b) / 2 then partB lt a ((a + b) / 2) (symR 0 m st ((a + b) / 2 + m - st) l) else symR 0 m st ((a + b) / 2 + m - st) l))
  sB2 : SortK key (seg ((a + b) / 2 + m - st) b (if a < st ∧ st < (a + b) / 2 then partB lt a ((a + b) / 2) (symR 0 m st ((a + b) / 2 + m - st) l) else symR 0 m st ((a + b) / 2 + m - st) l))

theorem sym3 {lt : Int → Int → Bool} {key : Int → Int} {a m b : Nat} {l : List Int} (h1 : a < m) (h2 : m < b) (h3 : b ≤ l.length) (hl : LtK lt key l) (sA : SortK key (seg a m l)) (sB : SortK key (seg m b l)) :
    Sym3 lt key a m b (symS lt 0 a m b l) l := by
  obtain ⟨p, q, hL, hp, hA, hB, hq⟩ := seg_split (Nat.le_of_lt h1) (Nat.le_of_lt h2) h3
  have hAB : LtK lt key (seg a m l ++ seg m b l) := hl.sub fun z hz => by
    rw [hL]
    rcases List.mem_append.1 hz with h | h
    · exact List.mem_append_right _ (List.mem_append_left _ h)
    · exact List.mem_append_right _ (List.mem_append_right _ (List.mem_append_left _ h))
  obtain ⟨A1, A2, B1, B2, eA, eB, e1, e2, f1, f2⟩ := sym_parts (d := (0 : Int)) (q := q) hp hA hB h1 h2 hAB sA sB
  rw [← hL] at e1 e2
  rw [eA] at sA hA
  rw [eB] at sB hB
  rw [eA, eB] at hL
  generalize symS lt 0 a m b l = st at e1 e2 ⊢
  subst hL
  simp only [List.length_append] at hA hB h3
  have pA := List.pairwise_append.1 sA
  have pB := List.pairwise_append.1 sB
  have hen : (a + b) / 2 + m - st = m + B1.length := by omega
  have hR : symR 0 m st ((a + b) / 2 + m - st) (p ++ (A1 ++ A2 ++ (B1 ++ B2 ++ q))) = p ++ (A1 ++ (B1 ++ (A2 ++ (B2 ++ q)))) := by
    rw [hen]
    unfold symR
    split
    · rename_i hc
      have := rotF_eq (d := (0 : Int)) (a := st) (m := m) (b := m + B1.length) (x := A2) (y := B1) (p := p ++ A1) (q := B2 ++ q) (by omega) (by omega) (by simp; omega) (by omega) rfl
      simpa using this
    · rename_i hc
      by_cases hb1 : B1 = []
      · subst hb1; simp
      · have := List.length_pos_iff.2 hb1
        have : A2 = [] := List.length_eq_zero_iff.1 (by omega)
        subst this; simp
  have same1 : SameK key (p ++ (A1 ++ A2 ++ (B1 ++ B2 ++ q))) (p ++ (A1 ++ (B1 ++ (A2 ++ (B2 ++ q))))) := by
    have h := (SameK.refl p).app (((SameK.refl A1).app (SameK.swap (key := key) fun x hx y hy => by have := f2 y hy x hx; omega : SameK key (A2 ++ B1) (B1 ++ A2))).app (SameK.refl (B2 ++ q)))
    simpa using h
  have hl1 : LtK lt key (p ++ (A1 ++ (B1 ++ (A2 ++ (B2 ++ q))))) := hl.sub fun z hz => same1.mem.1 hz
  have g1 : seg a st (p ++ (A1 ++ (B1 ++ (A2 ++ (B2 ++ q))))) = A1 := seg_eq hp (by omega)
  have g2 : seg st ((a + b) / 2) (p ++ (A1 ++ (B1 ++ (A2 ++ (B2 ++ q))))) = B1 := by
    have := seg_eq (p := p ++ A1) (s := B1) (q := A2 ++ (B2 ++ q)) (a := st) (b := (a + b) / 2) (by simp; omega) (by omega)
    simpa using this
  have hX : ∀ T : List Int, T.length = A1.length + B1.length → seg ((a + b) / 2) ((a + b) / 2 + m - st) (p ++ (T ++ (A2 ++ (B2 ++ q)))) = A2 ∧ seg ((a + b) / 2 + m - st) b (p ++ (T ++ (A2 ++ (B2 ++ q)))) = B2 := fun T hT => by
    have k1 := seg_eq (p := p ++ T) (s := A2) (q := B2 ++ q) (a := (a + b) / 2) (b := (a + b) / 2 + m - st) (by simp; omega) (by omega)
    have k2 := seg_eq (p := p ++ T ++ A2) (s := B2) (q := q) (a := (a + b) / 2 + m - st) (b := b) (by simp; omega) (by omega)
    exact ⟨by simpa using k1, by simpa using k2⟩
  have hlen : (p ++ (A1 ++ (B1 ++ (A2 ++ (B2 ++ q))))).length = (p ++ (A1 ++ A2 ++ (B1 ++ B2 ++ q))).length := by simp; omega
  have hpart : a < st ∧ st < (a + b) / 2 → partB lt a ((a + b) / 2) (p ++ (A1 ++ (B1 ++ (A2 ++ (B2 ++ q))))) = p ++ (sortB lt (A1 ++ B1) ++ (A2 ++ (B2 ++ q))) := fun hc => by
    have := partB_eq (lt := lt) (a := a) (b := (a + b) / 2) (p := p) (s := A1 ++ B1) (q := A2 ++ (B2 ++ q)) hp (by simp; omega)
    simpa using this
  refine ⟨by omega, by omega, by omega, by omega, by omega, by omega, by rw [hR]; exact hlen, by rw [hR]; exact same1, by rw [hR, g1]; exact pA.1, by rw [hR, g2]; exact pB.1, ?_, ?_, ?_, ?_⟩
  · rw [hR]
    split
    · rw [partB_length (by omega) (by simp; omega)]
      exact hlen
    · exact hlen
  · rw [hR]
    split
    · exact same1.trans (partB_same (by omega) (by simp; omega) hl1)
    · exact same1
  · rw [hR]
    split
    · rename_i hc
      rw [hpart hc, (hX _ (by rw [sortB_length]; simp)).1]
      exact pA.2.1
    · have := (hX (A1 ++ B1) (by simp)).1
      rw [show p ++ (A1 ++ (B1 ++ (A2 ++ (B2 ++ q)))) = p ++ ((A1 ++ B1) ++ (A2 ++ (B2 ++ q))) by simp, this]
      exact pA.2.1
  · rw [hR]
    split
    · rename_i hc
      rw [hpart hc, (hX _ (by rw [sortB_length]; simp)).2]
      exact pB.2.1
    · have := (hX (A1 ++ B1) (by simp)).2
      rw [show p ++ (A1 ++ (B1 ++ (A2 ++ (B2 ++ q)))) = p ++ ((A1 ++ B1) ++ (A2 ++ (B2 ++ q))) by simp, this]
      exact pB.2.1

end Go.Proofs.Ytbplccbjgfappaa

/-
  slices.symMergeCmpFunc over numbers sorts a part whose halves are sorted.
-/
namespace Go.Proofs.Ytbplccbjgfappaa
open Go Go.Ab Go.RowKit Go.Proofs

theorem symX_part {lt : Int → Int → Bool} {key : Int → Int} {a m b : Nat} {l : List Int} (h1 : a < m) (h2 : m < b) (h3 : b ≤ l.length) (hl : LtK lt key l) (sA : SortK key (seg a m l)) (sB : SortK key (seg m b l)) :
    symX lt 0 a m b l = partB lt a b l := by
  obtain ⟨p, q, hL, hp, hA, hB, hq⟩ := seg_split (Nat.le_of_lt h1) (Nat.le_of_lt h2) h3
  generalize seg a m l = A at hL hA sA
  generalize seg m b l = B at hL hB sB
  subst hL
  have hAB : LtK lt key (A ++ B) := hl.sub fun z hz => by
    rcases List.mem_append.1 hz with h | h
    · exact List.mem_append_right _ (List.mem_append_left _ h)
    · exact List.mem_append_right _ (List.mem_append_right _ (List.mem_append_left _ h))
  rw [symX_eq hp hA hB h1 h2 hAB sA sB]
  have := partB_eq (lt := lt) (a := a) (b := b) (p := p) (s := A ++ B) (q := q) hp (by simp; omega)
  rw [← this]
  simp

theorem bif_dec (p q : Prop) [Decidable p] [Decidable q] : (bif decide p then decide q else false) = decide (p ∧ q) := by
  by_cases p <;> by_cases q <;> simp_all

theorem symT3_ok {n : Nat} {mid en b : Nat} {g : cmpT.den} {l : List Int} (h : mid < en ∧ en < b → SymOk n mid en b g l) :
    (symT3 n mid en b g l).ok ∧ (symT3 n mid en b g l).get = ((if mid < en ∧ en < b then partB (ltOf g) mid b l else l), ()) := by
  unfold symT3
  have hd : (bif decide ((mid : Int) < en) then decide ((en : Int) < b) else false) = decide (mid < en ∧ en < b) := by
    rw [bif_dec, decide_eq_decide]
    omega
  rw [hd]
  by_cases hc : mid < en ∧ en < b
  · rw [decide_eq_true hc, if_pos hc]
    exact ⟨⟨fun _ => ⟨h hc, trivial⟩, fun hb => by cases hb⟩, rfl⟩
  · rw [decide_eq_false hc, if_neg hc]
    exact ⟨⟨fun hb => (by cases hb), fun _ => trivial⟩, rfl⟩

theorem symT2_ok {n : Nat} {a st mid en b : Nat} {g : cmpT.den} {l : List Int} (h : a < st ∧ st < mid → SymOk n a st mid g l)
    (k : mid < en ∧ en < b → SymOk n mid en b g (if a < st ∧ st < mid then partB (ltOf g) a mid l else l)) :
    (symT2 n a st mid en b g l).ok ∧ (symT2 n a st mid en b g l).get = ((if mid < en ∧ en < b then partB (ltOf g) mid b (if a < st ∧ st < mid then partB (ltOf g) a mid l else l) else (if a < st ∧ st < mid then partB (ltOf g) a mid l else l)), ()) := by
  unfold symT2
  have hd : (bif decide ((a : Int) < st) then decide ((st : Int) < mid) else false) = decide (a < st ∧ st < mid) := by
    rw [bif_dec, decide_eq_decide]
    omega
  rw [hd]
  by_cases hc : a < st ∧ st < mid
  · rw [if_pos hc] at k ⊢
    rw [decide_eq_true hc]
    obtain ⟨h1, h2⟩ := symT3_ok k
    exact ⟨⟨fun _ => ⟨h hc, h1⟩, fun hb => by cases hb⟩, h2⟩
  · rw [if_neg hc] at k ⊢
    rw [decide_eq_false hc]
    obtain ⟨h1, h2⟩ := symT3_ok k
    exact ⟨⟨fun hb => (by cases hb), fun _ => h1⟩, h2⟩

theorem symT1_ok {n : Nat} {a m b st mid en : Nat} {g : cmpT.den} {l : List Int} (hen : en ≤ l.length) (hbig : (l.length : Int) ≤ 4611686018427387903)
    (h : a < st ∧ st < mid → SymOk n a st mid g (symR 0 m st en l))
    (k : mid < en ∧ en < b → SymOk n mid en b g (if a < st ∧ st < mid then partB (ltOf g) a mid (symR 0 m st en l) else symR 0 m st en l)) :
    (symT1 n a m b st mid en g l).ok ∧ (symT1 n a m b st mid en g l).get = ((if mid < en ∧ en < b then partB (ltOf g) mid b (if a < st ∧ st < mid then partB (ltOf g) a mid (symR 0 m st en l) else symR 0 m st en l) else (if a < st ∧ st < mid then partB (ltOf g) a mid (symR 0 m st en l) else symR 0 m st en l)), ()) := by
  unfold symT1
  have hd : (bif decide ((st : Int) < m) then decide ((m : Int) < en) else false) = decide (st < m ∧ m < en) := by
    rw [bif_dec, decide_eq_decide]
    omega
  rw [hd]
  by_cases hc : st < m ∧ m < en
  · have e : symR 0 m st en l = rotF 0 st m en l := by unfold symR; rw [if_pos hc]
    rw [e] at h k ⊢
    rw [decide_eq_true hc]
    obtain ⟨h1, h2⟩ := symT2_ok h k
    exact ⟨⟨fun _ => ⟨by omega, by omega, by omega, by omega, hbig, h1⟩, fun hb => by cases hb⟩, h2⟩
  · have e : symR 0 m st en l = l := by unfold symR; rw [if_neg hc]
    rw [e] at h k ⊢
    rw [decide_eq_false hc]
    obtain ⟨h1, h2⟩ := symT2_ok h k
    exact ⟨⟨fun hb => (by cases hb), fun _ => h1⟩, h2⟩

theorem sym_plain (n a m b : Nat) (g : cmpT.den) (l : List Int) (h : SymOk (n + 1) a m b g l) : (fr_sym n l ((a : Int), (m : Int), (b : Int), g, ())).ok ∧ (fr_sym n l ((a : Int), (m : Int), (b : Int), g, ())).get = (partB (ltOf g) a b l, ()) := by
  obtain ⟨_, h1, h2, h3, hbig, hsize, hdom, key, hl, sA, sB⟩ := h
  simp only [Int.toNat_natCast] at sA sB
  have h1' : a < m := by omega
  have h2' : m < b := by omega
  have h3' : b ≤ l.length := by omega
  have hX := symX_part h1' h2' h3' hl sA sB
  rw [← hX]
  have w1 : IntKind.i64.wrap ((m : Int) - a) = (m - a : Nat) := sub_nat (by omega) (by omega)
  have w2 : IntKind.i64.wrap ((b : Int) - m) = (b - m : Nat) := sub_nat (by omega) (by omega)
  have hmid : midI (a : Int) b = ((a + b) / 2 : Nat) := midI_nat (by omega)
  dsimp only [fr_sym]
  rw [w1, w2, hmid]
  by_cases c1 : m - a = 1
  · have hc : (((m - a : Nat) : Int) == 1) = true := by rw [c1]; rfl
    rw [hc]
    unfold symX
    rw [if_pos c1]
    obtain ⟨r1, r2⟩ := bsG_bd (Q := fun h => ltOf g (l.getD h 0) (l.getD a 0)) (b - m) m b (by omega)
    have hb0 : bs0 (a : Int) m b g l = (bsG (fun h => ltOf g (l.getD h 0) (l.getD a 0)) (b - m) m b : Nat) := rfl
    have e : (g.1, g.2) = g := rfl
    simp only [e]
    rw [hb0]
    generalize bsG (fun h => ltOf g (l.getD h 0) (l.getD a 0)) (b - m) m b = r at r1 r2 ⊢
    refine ⟨⟨fun _ => ⟨⟨by omega, by omega, by omega, by omega, by omega, hbig, hdom⟩, ⟨by omega, by omega, by omega, hbig⟩, trivial⟩, fun hb => by cases hb⟩, ?_⟩
    show (upS 0 ((r : Int) - 1 - a).toNat (a : Int).toNat l, ()) = _
    rw [show ((r : Int) - 1 - a).toNat = r - 1 - a by omega]
    rfl
  · have hc : (((m - a : Nat) : Int) == 1) = false := by rw [beq_eq_false_iff_ne]; omega
    rw [hc]
    by_cases c2 : b - m = 1
    · have hc : (((b - m : Nat) : Int) == 1) = true := by rw [c2]; rfl
      rw [hc]
      unfold symX
      rw [if_neg c1, if_pos c2]
      obtain ⟨r1, r2⟩ := bsG_bd (Q := fun h => !ltOf g (l.getD m 0) (l.getD h 0)) (m - a) a m (by omega)
      have hb0 : bs2 (m : Int) a m g l = (bsG (fun h => !ltOf g (l.getD m 0) (l.getD h 0)) (m - a) a m : Nat) := rfl
      have e : (g.1, g.2) = g := rfl
      simp only [e]
      rw [hb0]
      generalize bsG (fun h => !ltOf g (l.getD m 0) (l.getD h 0)) (m - a) a m = r at r1 r2 ⊢
      refine ⟨⟨fun hb => (by cases hb), fun _ => ⟨fun _ => ⟨⟨by omega, by omega, by omega, by omega, by omega, hbig, hdom⟩, ⟨by omega, by omega, by omega, hbig⟩, trivial⟩, fun hb => by cases hb⟩⟩, ?_⟩
      show (downS 0 ((m : Int) - r).toNat (m : Int).toNat l, ()) = _
      rw [show ((m : Int) - r).toNat = m - r by omega]
      rfl
    · have hc : (((b - m : Nat) : Int) == 1) = false := by rw [beq_eq_false_iff_ne]; omega
      rw [hc]
      have s3 := sym3 h1' h2' h3' hl sA sB
      have key3 : ∀ i j : Nat, (i = if (a + b) / 2 < m then (a + b) / 2 + m - b else a) → (j = if (a + b) / 2 < m then (a + b) / 2 else m) →
          (symT0 n a m b ((a + b) / 2 : Nat) i j g l).ok ∧ (symT0 n a m b ((a + b) / 2 : Nat) i j g l).get = (symX (ltOf g) 0 a m b l, ()) := fun i j hi hj => by
        have wp : IntKind.i64.wrap (IntKind.i64.wrap ((((a + b) / 2 : Nat) : Int) + m) - 1) = ((a + b) / 2 + m - 1 : Nat) := by
          rw [add_nat (by omega), pred_nat (by omega) (by omega)]
        have hS : bs4 (((a + b) / 2 + m - 1 : Nat) : Int) i j g l = (symS (ltOf g) 0 a m b l : Nat) := by
          unfold bs4 symS
          simp only [Int.toNat_natCast]
          rw [← hi, ← hj]
        dsimp only [symT0]
        have e : (g.1, g.2) = g := rfl
        rw [wp, e, hS]
        have we : IntKind.i64.wrap (IntKind.i64.wrap ((((a + b) / 2 : Nat) : Int) + m) - (symS (ltOf g) 0 a m b l : Nat)) = ((a + b) / 2 + m - symS (ltOf g) 0 a m b l : Nat) := by
          have := s3.s3
          rw [add_nat (by omega), sub_nat (by omega) (by omega)]
        rw [we]
        have hSx : symX (ltOf g) 0 a m b l = (if (a + b) / 2 < (a + b) / 2 + m - symS (ltOf g) 0 a m b l ∧ (a + b) / 2 + m - symS (ltOf g) 0 a m b l < b then partB (ltOf g) ((a + b) / 2) b (if a < symS (ltOf g) 0 a m b l ∧ symS (ltOf g) 0 a m b l < (a + b) / 2 then partB (ltOf g) a ((a + b) / 2) (symR 0 m (symS (ltOf g) 0 a m b l) ((a + b) / 2 + m - symS (ltOf g) 0 a m b l) l) else symR 0 m (symS (ltOf g) 0 a m b l) ((a + b) / 2 + m - symS (ltOf g) 0 a m b l) l) else (if a < symS (ltOf g) 0 a m b l ∧ symS (ltOf g) 0 a m b l < (a + b) / 2 then partB (ltOf g) a ((a + b) / 2) (symR 0 m (symS (ltOf g) 0 a m b l) ((a + b) / 2 + m - symS (ltOf g) 0 a m b l) l) else symR 0 m (symS (ltOf g) 0 a m b l) ((a + b) / 2 + m - symS (ltOf g) 0 a m b l) l)) := by
          conv => lhs; unfold symX
          rw [if_neg c1, if_neg c2]
        rw [hSx]
        generalize symS (ltOf g) 0 a m b l = st at s3 ⊢
        obtain ⟨q1, q2, q3, q4, q5, q6, len1, same1, sA1, sB1, len2, same2, sA2, sB2⟩ := s3
        obtain ⟨o1, o2⟩ := symT1_ok (n := n) (a := a) (m := m) (b := b) (st := st) (mid := (a + b) / 2) (en := (a + b) / 2 + m - st) (g := g) (l := l) (by omega) hbig
          (fun hc => ⟨by omega, by omega, by omega, by omega, by omega, by omega, hdom.sub fun z hz => same1.mem.1 hz, key, hl.sub fun z hz => same1.mem.1 hz, sA1, sB1⟩)
          (fun hc => ⟨by omega, by omega, by omega, by omega, by omega, by omega, hdom.sub fun z hz => same2.mem.1 hz, key, hl.sub fun z hz => same2.mem.1 hz, sA2, sB2⟩)
        refine ⟨⟨?_, o1⟩, o2⟩
        refine ⟨by omega, ?_, ?_, by omega, ?_, ?_, hbig, hdom⟩ <;> (subst hi hj; split <;> omega)
      by_cases cm : m > (a + b) / 2
      · have hd : decide ((m : Int) > ((a + b) / 2 : Nat)) = true := decide_eq_true (by omega)
        rw [hd]
        have wi : IntKind.i64.wrap (IntKind.i64.wrap ((((a + b) / 2 : Nat) : Int) + m) - b) = ((a + b) / 2 + m - b : Nat) := by
          rw [add_nat (by omega), sub_nat (by omega) (by omega)]
        rw [wi]
        obtain ⟨k1, k2⟩ := key3 ((a + b) / 2 + m - b) ((a + b) / 2) (by rw [if_pos (by omega)]) (by rw [if_pos (by omega)])
        exact ⟨⟨fun hb => (by cases hb), fun _ => ⟨fun hb => (by cases hb), fun _ => ⟨by omega, fun _ => k1, fun hb => by cases hb⟩⟩⟩, k2⟩
      · have hd : decide ((m : Int) > ((a + b) / 2 : Nat)) = false := decide_eq_false (by omega)
        rw [hd]
        obtain ⟨k1, k2⟩ := key3 a m (by rw [if_neg (by omega)]) (by rw [if_neg (by omega)])
        exact ⟨⟨fun hb => (by cases hb), fun _ => ⟨fun hb => (by cases hb), fun _ => ⟨by omega, fun hb => (by cases hb), fun _ => k1⟩⟩⟩, k2⟩

theorem sym_ok : (n : Nat) → SoundMt Try.prog 162 (mSym n)
  | 0 => by
    have hf : Try.prog.funcs[162]? = some Try.f162 := by kernel_rfl
    obtain ⟨c, hb⟩ : ∃ c, Try.f162.body = some c := ⟨_, rfl⟩
    refine ⟨rfl, rfl, enters hf hb (by kernel_rfl), fun w F l xs v vs rows _ _ _ _ _ _ _ hok => ?_⟩
    have h : SymOk 0 xs.1 xs.2.1 xs.2.2.1 xs.2.2.2.1 l := hok
    have h1 := h.am
    have h2 := h.mb
    have h3 := h.size
    omega
  | n + 1 => by
    refine convMt (mt_sound (CI2_ok (sym_ok n)) (Λ := ΛSym) (fn := Try.f162) (fr := fr_sym n) (e := 3) (T := i64) (ps := [.d i64, .d i64, .d i64, cmpT]) (rs := []) (0, 0, 0, (fun _ => (0, ()), fun _ => True), ()) (by kernel_rfl) rfl rfl
      (fun c E hc => lam_sym hc) (run_sym n)) _ _ fun w F l xs vs _ _ _ hok => ?_
    obtain ⟨a, m, b, g, rfl⟩ : ∃ (a m b : Int) (g : cmpT.den), xs = (a, m, b, g, ()) := ⟨xs.1, xs.2.1, xs.2.2.1, xs.2.2.2.1, rfl⟩
    have h : SymOk (n + 1) a m b g l := hok
    have h0 := h.a0
    have h1 := h.am
    have h2 := h.mb
    obtain ⟨a', rfl⟩ : ∃ n : Nat, a = n := ⟨a.toNat, by omega⟩
    obtain ⟨m', rfl⟩ : ∃ n : Nat, m = n := ⟨m.toNat, by omega⟩
    obtain ⟨b', rfl⟩ : ∃ n : Nat, b = n := ⟨b.toNat, by omega⟩
    exact sym_plain n a' m' b' g l h

end Go.Proofs.Ytbplccbjgfappaa

/-
  slices.SortStableFunc over numbers sorts them.
-/
namespace Go.Proofs.Ytbplccbjgfappaa
open Go Go.Ab Go.RowKit Go.Proofs

theorem blkW_enough {lt : Int → Int → Bool} {w n : Nat} (hw : 0 < w) : (f f' a : Nat) → (l : List Int) → n < f + a → n < f' + a → blkW lt w n f a l = blkW lt w n f' a l
  | 0, 0, _, _, _, _ => rfl
  | 0, f' + 1, a, l, h, _ => by simp only [blkW]; rw [if_neg (by omega)]
  | f + 1, 0, a, l, _, h => by simp only [blkW]; rw [if_neg (by omega)]
  | f + 1, f' + 1, a, l, h, h' => by
    simp only [blkW]
    split
    · exact blkW_enough hw f f' _ _ (by omega) (by omega)
    · rfl

theorem passes_enough {lt : Int → Int → Bool} {n : Nat} : (f f' w : Nat) → (l : List Int) → 0 < w → n ≤ f + w → n ≤ f' + w → passes lt n f w l = passes lt n f' w l
  | 0, 0, _, _, _, _, _ => rfl
  | 0, f' + 1, w, l, hw, h, _ => by simp only [passes]; rw [if_neg (by omega)]
  | f + 1, 0, w, l, hw, _, h => by simp only [passes]; rw [if_neg (by omega)]
  | f + 1, f' + 1, w, l, hw, h, h' => by
    simp only [passes]
    split
    · exact passes_enough f f' _ _ (by omega) (by omega) (by omega)
    · rfl

abbrev big : Nat := 4611686018427387903
noncomputable def CI3 : Cx := cxK [] [] (orK (mtK (cx [] []).Γ 161 mInsert) (mtK (cx [] []).Γ 162 (mSym big)))
theorem CI3_ok : CxOK Try.prog CI3 := cxK_ok mixed trivial trivial (orK_ok (mtK_ok CI0_ok.ct insert_ok) (mtK_ok CI0_ok.ct (sym_ok big)))

/-! Blocks of twenty -/
abbrev pt_blk : Pt := ⟨63, 0, ⟨[(1, .d i64), (2, cmpT), (6, .d i64), (7, .d i64), (8, .d i64)], [.al 10000 0, .o 0 3 i64]⟩, ⟨[(1, .d i64), (2, cmpT), (6, .d i64), (7, .d i64)], [.al 10000 0, .o 0 3 i64]⟩, ⟨[], []⟩⟩
noncomputable def fr_blk (x : pt_blk.M.X) : Fr pt_blk.Out :=
  let n := x.1.1; let g := x.1.2.1; let bs := x.1.2.2.1; let a := x.1.2.2.2.1; let b := x.1.2.2.2.2.1; let l := x.2.1
  Fr.br (decide (b ≤ n))
    (Fr.need (0 ≤ a)
      (Fr.need (a ≤ b)
        (Fr.need (b ≤ (l.length : Int))
          (Fr.need ((l.length : Int) ≤ 4611686018427387903)
            (Fr.need (OrdOf (g.1, g.2) l)
              (Fr.val (Rd.next ((n, (g.1, g.2), bs, b, IntKind.i64.wrap (b + bs), ()), ((mInsert.f l (a, b, (g.1, g.2), ())).1, ())))))))))
    (Fr.val (Rd.out ((n, (g.1, g.2), bs, a, ()), (l, ()))))

theorem sem_blk : Does Try.prog (loopF Try.f147 0) pt_blk.M pt_blk fr_blk :=
  Does.of_run CI3_ok (bs := 0) (Λ := lam0) rfl rfl rfl (fun E => lam0_ok _ 0) (fun x => by kernel_rfl)

structure InvBlk (n bs a b : Int) (g : cmpT.den) (l : List Int) : Prop where
  nl : n = l.length
  big : n ≤ 4611686018427387903
  bs0 : bs = 20
  a0 : 0 ≤ a
  an : a ≤ n
  ab : b = a + 20
  ord : OrdOf g l

def blkI (n a : Int) (g : cmpT.den) (l : List Int) : Nat × List Int := blkW (ltOf g) 20 n.toNat (n.toNat + 1) a.toNat l

def FBlk (x : pt_blk.M.X) : Fr pt_blk.Out :=
  let n := x.1.1; let g := x.1.2.1; let bs := x.1.2.2.1; let a := x.1.2.2.2.1; let b := x.1.2.2.2.2.1; let l := x.2.1
  Fr.need (InvBlk n bs a b g l) (Fr.val (Rd.out ((n, g, bs, ((blkI n a g l).1 : Nat), ()), ((blkI n a g l).2, ()))))

theorem partB_mem {lt : Int → Int → Bool} {a b : Nat} {l : List Int} {x : Int} (h : x ∈ partB lt a b l) : x ∈ l := by
  unfold partB at h
  rcases List.mem_append.1 h with h | h
  · exact List.mem_of_mem_take h
  · rcases List.mem_append.1 h with h | h
    · exact List.mem_of_mem_take (List.mem_of_mem_drop (sortB_mem.1 h))
    · exact List.mem_of_mem_drop h

theorem lawBlk (n bs a b : Int) (g : cmpT.den) (l : List Int) (hinv : InvBlk n bs a b g l) (Q : pt_blk.Out → Prop)
    (hq : Q (Rd.out ((n, g, bs, ((blkI n a g l).1 : Nat), ()), ((blkI n a g l).2, ())))) : (fr_blk ((n, g, bs, a, b, ()), (l, ()))).satP fun
      | .next x' => InvBlk x'.1.1 x'.1.2.2.1 x'.1.2.2.2.1 x'.1.2.2.2.2.1 x'.1.2.1 x'.2.1 ∧ (x'.1.1 - x'.1.2.2.2.1).toNat < (n - a).toNat ∧ (FBlk x').satP Q
      | .out y => Q (.out y)
      | .back z => Q (.back z)
      | .pan p => Q (.pan p) := by
  obtain ⟨h0, h1, h2, h3, h4, h5, h6⟩ := hinv
  subst h2 h5
  dsimp only [fr_blk, Fr.satP, Ty.den, PT.den, mInsert]
  refine ⟨fun hi => ?_, fun hi => ?_⟩
  · have hle : a + 20 ≤ n := of_decide_eq_true hi
    have w : IntKind.i64.wrap (a + 20 + 20) = a + 20 + 20 := IntWalk.i64_in _ (by omega)
    rw [w]
    have hlen : (partB (ltOf g) a.toNat (a + 20).toNat l).length = l.length := partB_length (by omega) (by omega)
    have hI : InvBlk n 20 (a + 20) (a + 20 + 20) g (partB (ltOf g) a.toNat (a + 20).toNat l) := ⟨by rw [hlen]; exact h0, h1, rfl, by omega, hle, rfl, h6.sub fun x hx => partB_mem hx⟩
    refine ⟨h3, by omega, by omega, by omega, h6, hI, by omega, hI, ?_⟩
    have e : blkI n a g l = blkI n (a + 20) g (partB (ltOf g) a.toNat (a + 20).toNat l) := by
      unfold blkI
      rw [show n.toNat + 1 = n.toNat + 1 from rfl]
      conv => lhs; unfold blkW
      rw [if_pos (by omega), show a.toNat + 20 = (a + 20).toNat by omega]
      exact blkW_enough (by omega) _ _ _ _ (by omega) (by omega)
    rw [e] at hq
    exact hq
  · have hgt : ¬ a + 20 ≤ n := of_decide_eq_false hi
    have e : blkI n a g l = (a.toNat, l) := by
      unfold blkI blkW
      rw [if_neg (by omega)]
    rw [e] at hq
    have e2 : ((a.toNat : Nat) : Int) = a := by omega
    simp only [e2] at hq
    exact hq

theorem loopBlk : Does Try.prog (.loop (loopF Try.f147 0)) pt_blk.M pt_blk FBlk := by
  refine Does.loop (n := 63) (id := 0) sem_blk (inv := fun x => InvBlk x.1.1 x.1.2.2.1 x.1.2.2.2.1 x.1.2.2.2.2.1 x.1.2.1 x.2.1) (μ := fun x => (x.1.1 - x.1.2.2.2.1).toNat) ?_ (fun x Q h => h.1)
  rintro ⟨⟨n, g, bs, a, b, _⟩, ⟨l, _⟩⟩ hinv Q hq
  exact lawBlk n bs a b g l hinv Q hq.2

/-! A pass of merges -/
abbrev pt_pas : Pt := ⟨63, 4, ⟨[(1, .d i64), (2, cmpT), (6, .d i64), (7, .d i64), (8, .d i64)], [.al 10000 0, .o 0 3 i64]⟩, ⟨[(1, .d i64), (2, cmpT), (6, .d i64), (7, .d i64)], [.al 10000 0, .o 0 3 i64]⟩, ⟨[], []⟩⟩
noncomputable def pasCode : Code := ((Go.Ab.loopB (loopF Try.f147 1) 0).getD .skip)
noncomputable def fr_pas (x : pt_pas.M.X) : Fr pt_pas.Out :=
  let n := x.1.1; let g := x.1.2.1; let bs := x.1.2.2.1; let a := x.1.2.2.2.1; let b := x.1.2.2.2.2.1; let l := x.2.1
  Fr.br (decide (b ≤ n))
    (Fr.need (SymOk big a (IntKind.i64.wrap (a + bs)) b (g.1, g.2) l)
      (Fr.val (Rd.next ((n, (g.1, g.2), bs, b, IntKind.i64.wrap (b + IntKind.i64.wrap (2 * bs)), ()), (((mSym big).f l (a, IntKind.i64.wrap (a + bs), b, (g.1, g.2), ())).1, ())))))
    (Fr.val (Rd.out ((n, (g.1, g.2), bs, a, ()), (l, ()))))

theorem sem_pas : Does Try.prog pasCode pt_pas.M pt_pas fr_pas :=
  Does.of_run CI3_ok (bs := 0) (Λ := lam0) rfl rfl rfl (fun E => lam0_ok _ 0) (fun x => by kernel_rfl)

structure InvPas (n bs a b : Int) (g : cmpT.den) (l : List Int) : Prop where
  nl : n = l.length
  big : n ≤ 4611686018427387903
  bs0 : 0 < bs
  bsn : bs < n
  a0 : 0 ≤ a
  an : a ≤ n
  ab : b = a + 2 * bs
  mul : ∃ c : Nat, a.toNat = c * (2 * bs.toNat)
  dom : DomOf g l
  key : ∃ key : Int → Int, LtK (ltOf g) key l ∧ ∀ k : Nat, a.toNat ≤ k * bs.toNat → SortK key (seg (k * bs.toNat) (k * bs.toNat + bs.toNat) l)

def pasI (n bs a : Int) (g : cmpT.den) (l : List Int) : Nat × List Int := blkW (ltOf g) (2 * bs.toNat) n.toNat (n.toNat + 1) a.toNat l

def FPas (x : pt_pas.M.X) : Fr pt_pas.Out :=
  let n := x.1.1; let g := x.1.2.1; let bs := x.1.2.2.1; let a := x.1.2.2.2.1; let b := x.1.2.2.2.2.1; let l := x.2.1
  Fr.need (InvPas n bs a b g l) (Fr.val (Rd.out ((n, g, bs, ((pasI n bs a g l).1 : Nat), ()), ((pasI n bs a g l).2, ()))))

theorem lawPas (n bs a b : Int) (g : cmpT.den) (l : List Int) (hinv : InvPas n bs a b g l) (Q : pt_pas.Out → Prop)
    (hq : Q (Rd.out ((n, g, bs, ((pasI n bs a g l).1 : Nat), ()), ((pasI n bs a g l).2, ())))) : (fr_pas ((n, g, bs, a, b, ()), (l, ()))).satP fun
      | .next x' => InvPas x'.1.1 x'.1.2.2.1 x'.1.2.2.2.1 x'.1.2.2.2.2.1 x'.1.2.1 x'.2.1 ∧ (x'.1.1 - x'.1.2.2.2.1).toNat < (n - a).toNat ∧ (FPas x').satP Q
      | .out y => Q (.out y)
      | .back z => Q (.back z)
      | .pan p => Q (.pan p) := by
  obtain ⟨h0, h1, h2, h3, h4, h5, h6, ⟨c, h7⟩, h8, key, h9, h10⟩ := hinv
  subst h6
  dsimp only [fr_pas, Fr.satP, Ty.den, PT.den, mSym]
  have w1 : IntKind.i64.wrap (a + bs) = a + bs := IntWalk.i64_in _ (by omega)
  have w2 : IntKind.i64.wrap (2 * bs) = 2 * bs := IntWalk.i64_in _ (by omega)
  rw [w1, w2]
  refine ⟨fun hi => ?_, fun hi => ?_⟩
  · have hle : a + 2 * bs ≤ n := of_decide_eq_true hi
    have hle' : a.toNat + 2 * bs.toNat ≤ l.length := by omega
    have hseg1 : SortK key (seg a.toNat (a + bs).toNat l) := by
      have := h10 (2 * c) (by rw [h7, ← Nat.mul_assoc, Nat.mul_comm c 2]; exact Nat.le_refl _)
      rwa [show 2 * c * bs.toNat = a.toNat by rw [h7, ← Nat.mul_assoc, Nat.mul_comm c 2], show a.toNat + bs.toNat = (a + bs).toNat by omega] at this
    have hseg2 : SortK key (seg (a + bs).toNat (a + 2 * bs).toNat l) := by
      have e : (2 * c + 1) * bs.toNat = (a + bs).toNat := by
        rw [Nat.succ_mul, show 2 * c * bs.toNat = a.toNat by rw [h7, ← Nat.mul_assoc, Nat.mul_comm c 2]]
        omega
      have := h10 (2 * c + 1) (by omega)
      rwa [e, show (a + bs).toNat + bs.toNat = (a + 2 * bs).toNat by omega] at this
    have hlen : (partB (ltOf g) a.toNat (a + 2 * bs).toNat l).length = l.length := partB_length (by omega) (by omega)
    by_cases hbig : a + 2 * bs + 2 * bs ≤ 9223372036854775807
    · have w3 : IntKind.i64.wrap (a + 2 * bs + 2 * bs) = a + 2 * bs + 2 * bs := IntWalk.i64_in _ (by omega)
      rw [w3]
      have hI : InvPas n bs (a + 2 * bs) (a + 2 * bs + 2 * bs) g (partB (ltOf g) a.toNat (a + 2 * bs).toNat l) := ⟨by rw [hlen]; exact h0, h1, h2, h3, by omega, hle, rfl, ⟨c + 1, by rw [Nat.succ_mul, ← h7]; omega⟩, h8.sub fun x hx => partB_mem hx, key, h9.sub fun x hx => partB_mem hx, fun k hk => by
        rw [seg_of_drop (c := (a + 2 * bs).toNat) (drop_partB (by omega) (by omega) (Nat.le_refl _)) hk]
        exact h10 k (by omega)⟩
      refine ⟨⟨h4, by omega, by omega, by omega, by omega, by simp only [big]; omega, h8, key, h9, hseg1, hseg2⟩, hI, by omega, hI, ?_⟩
      have e : pasI n bs a g l = pasI n bs (a + 2 * bs) g (partB (ltOf g) a.toNat (a + 2 * bs).toNat l) := by
        unfold pasI
        conv => lhs; unfold blkW
        rw [if_pos (by omega), show a.toNat + 2 * bs.toNat = (a + 2 * bs).toNat by omega]
        exact blkW_enough (by omega) _ _ _ _ (by omega) (by omega)
      rw [e] at hq
      exact hq
    · exfalso
      omega
  · have hgt : ¬ a + 2 * bs ≤ n := of_decide_eq_false hi
    have e : pasI n bs a g l = (a.toNat, l) := by
      unfold pasI blkW
      rw [if_neg (by omega)]
    rw [e] at hq
    have e2 : ((a.toNat : Nat) : Int) = a := by omega
    simp only [e2] at hq
    exact hq

theorem loopPas : Does Try.prog (.loop pasCode) pt_pas.M pt_pas FPas := by
  refine Does.loop (n := 63) (id := 4) sem_pas (inv := fun x => InvPas x.1.1 x.1.2.2.1 x.1.2.2.2.1 x.1.2.2.2.2.1 x.1.2.1 x.2.1) (μ := fun x => (x.1.1 - x.1.2.2.2.1).toNat) ?_ (fun x Q h => h.1)
  rintro ⟨⟨n, g, bs, a, b, _⟩, ⟨l, _⟩⟩ hinv Q hq
  exact lawPas n bs a b g l hinv Q hq.2

noncomputable def ΛPas : Nat → St → Option Tr := fun _ => pt_pas.han CI3.Γ pt_pas.M FPas

/-! All passes -/
abbrev pt_all : Pt := ⟨63, 2, ⟨[(1, .d i64), (2, cmpT), (6, .d i64)], [.al 10000 0, .o 0 3 i64]⟩, ⟨[], [.al 10000 0, .o 0 3 i64]⟩, ⟨[], []⟩⟩
noncomputable def fr_all (x : pt_all.M.X) : Fr pt_all.Out :=
  let n := x.1.1; let g := x.1.2.1; let bs := x.1.2.2.1; let l := x.2.1
  let r := pasI n bs 0 (g.1, g.2) l
  Fr.br (decide (bs < n))
    (Fr.need (InvPas n bs 0 (IntKind.i64.wrap (2 * bs)) (g.1, g.2) l)
      (Fr.br (decide (IntKind.i64.wrap ((r.1 : Int) + bs) < n))
        (Fr.need (SymOk big r.1 (IntKind.i64.wrap ((r.1 : Int) + bs)) n (g.1, g.2) r.2)
          (Fr.val (Rd.next ((n, (g.1, g.2), IntKind.i64.wrap (bs * 2), ()), (((mSym big).f r.2 ((r.1 : Int), IntKind.i64.wrap ((r.1 : Int) + bs), n, (g.1, g.2), ())).1, ())))))
        (Fr.val (Rd.next ((n, (g.1, g.2), IntKind.i64.wrap (bs * 2), ()), (r.2, ()))))))
    (Fr.val (Rd.out ((), (l, ()))))

theorem lam_pas {E : Env} : LamOK Try.prog E ΛPas (loopF Try.f147 1) 0 :=
  lam1 (b := pasCode) (by kernel_rfl) (by kernel_rfl) (Does.han CI3_ok rfl loopPas)

theorem sem_all : Does Try.prog (loopF Try.f147 1) pt_all.M pt_all fr_all :=
  Does.of_run CI3_ok (bs := 0) (Λ := ΛPas) rfl rfl rfl (fun E => lam_pas) (fun x => by kernel_rfl)

structure InvAll (n bs : Int) (g : cmpT.den) (l : List Int) : Prop where
  nl : n = l.length
  big : n ≤ 4611686018427387903
  bs0 : 0 < bs
  dom : DomOf g l
  key : ∃ key : Int → Int, LtK (ltOf g) key l ∧ BlkS key bs.toNat l

def FAll (x : pt_all.M.X) : Fr pt_all.Out :=
  let n := x.1.1; let g := x.1.2.1; let bs := x.1.2.2.1; let l := x.2.1
  Fr.need (InvAll n bs g l) (Fr.val (Rd.out ((), (passes (ltOf g) n.toNat n.toNat bs.toNat l, ()))))

theorem lawAll (n bs : Int) (g : cmpT.den) (l : List Int) (hinv : InvAll n bs g l) (Q : pt_all.Out → Prop)
    (hq : Q (Rd.out ((), (passes (ltOf g) n.toNat n.toNat bs.toNat l, ())))) : (fr_all ((n, g, bs, ()), (l, ()))).satP fun
      | .next x' => InvAll x'.1.1 x'.1.2.2.1 x'.1.2.1 x'.2.1 ∧ (x'.1.1 - x'.1.2.2.1).toNat < (n - bs).toNat ∧ (FAll x').satP Q
      | .out y => Q (.out y)
      | .back z => Q (.back z)
      | .pan p => Q (.pan p) := by
  obtain ⟨h0, h1, h2, h3, key, h4, h5⟩ := hinv
  dsimp only [fr_all, Fr.satP, Ty.den, PT.den, mSym]
  refine ⟨fun hi => ?_, fun hi => ?_⟩
  · have hlt : bs < n := of_decide_eq_true hi
    have w1 : IntKind.i64.wrap (2 * bs) = 2 * bs := IntWalk.i64_in _ (by omega)
    have w2 : IntKind.i64.wrap (bs * 2) = bs * 2 := IntWalk.i64_in _ (by omega)
    have hr := blkW_spec (key := key) (lt := ltOf g) (w := 2 * bs.toNat) (n := n.toNat) (by omega) (n.toNat + 1) 0 l (by omega) (by omega) (by omega) ⟨0, by simp⟩ h4 (fun k hk => by omega)
    obtain ⟨p1, p2, p3⟩ := passB_spec (lt := ltOf g) (w := bs.toNat) (n := n.toNat) (l := l) (key := key) (by omega) (by omega) h4 h5
    have hpas : passB (ltOf g) bs.toNat n.toNat l = if (pasI n bs 0 g l).1 + bs.toNat < n.toNat then partB (ltOf g) (pasI n bs 0 g l).1 n.toNat (pasI n bs 0 g l).2 else (pasI n bs 0 g l).2 := rfl
    have hstep : passes (ltOf g) n.toNat n.toNat bs.toNat l = passes (ltOf g) n.toNat n.toNat (bs * 2).toNat (passB (ltOf g) bs.toNat n.toNat l) := by
      obtain ⟨f, hf⟩ : ∃ f, n.toNat = f + 1 := ⟨n.toNat - 1, by omega⟩
      conv => lhs; rw [show passes (ltOf g) n.toNat n.toNat bs.toNat l = passes (ltOf g) n.toNat (f + 1) bs.toNat l by rw [← hf]]
      simp only [passes]
      rw [if_pos (by omega), show (bs * 2).toNat = 2 * bs.toNat by omega]
      exact passes_enough _ _ _ _ (by omega) (by omega) (by omega)
    have hI : InvAll n (bs * 2) g (passB (ltOf g) bs.toNat n.toNat l) := ⟨by omega, h1, by omega, h3.sub fun x hx => p2.mem.1 hx, key, h4.sub fun x hx => p2.mem.1 hx, by rw [show (bs * 2).toNat = 2 * bs.toNat by omega]; exact p1⟩
    have hfin : InvAll n (bs * 2) g (passB (ltOf g) bs.toNat n.toNat l) ∧ (n - bs * 2).toNat < (n - bs).toNat ∧ InvAll n (bs * 2) g (passB (ltOf g) bs.toNat n.toNat l) ∧ Q (Rd.out ((), (passes (ltOf g) n.toNat n.toNat (bs * 2).toNat (passB (ltOf g) bs.toNat n.toNat l), ()))) := ⟨hI, by omega, hI, by rw [← hstep]; exact hq⟩
    rw [w1, w2]
    have hb : (blkW (ltOf g) (2 * bs.toNat) n.toNat (n.toNat + 1) 0 l) = pasI n bs 0 g l := rfl
    rw [hb] at hr
    refine ⟨⟨h0, h1, h2, hlt, Int.le_refl _, by omega, by omega, ⟨0, by simp⟩, h3, key, h4, fun k _ => h5 k⟩, ?_⟩
    have e : (g.1, g.2) = g := rfl
    simp only [e]
    generalize pasI n bs 0 g l = r at hr hpas ⊢
    obtain ⟨⟨c, hc⟩, q2, q3, q4, q5, q6, q7⟩ := hr
    have w3 : IntKind.i64.wrap ((r.1 : Int) + bs) = r.1 + bs := IntWalk.i64_in _ (by omega)
    rw [w3]
    refine ⟨fun hj => ?_, fun hj => ?_⟩
    · have hj' : (r.1 : Int) + bs < n := of_decide_eq_true hj
      rw [if_pos (by omega)] at hpas
      have hd : r.2.drop r.1 = l.drop r.1 := q6
      have hm1 : 2 * c * bs.toNat = r.1 := by rw [hc, ← Nat.mul_assoc, Nat.mul_comm c 2]
      have hm2 : (2 * c + 1) * bs.toNat = r.1 + bs.toNat := by rw [Nat.succ_mul, hm1]
      have s1 : SortK key (seg r.1 (r.1 + bs.toNat) r.2) := by
        rw [seg_of_drop hd (Nat.le_refl _), ← hm1]
        exact h5 (2 * c)
      have s2 : SortK key (seg (r.1 + bs.toNat) n.toNat r.2) := by
        have : seg (r.1 + bs.toNat) n.toNat r.2 = seg (r.1 + bs.toNat) (r.1 + bs.toNat + bs.toNat) r.2 := by
          unfold seg
          rw [List.take_of_length_le (by omega), List.take_of_length_le (by omega)]
        rw [this, seg_of_drop hd (by omega), ← hm2]
        exact h5 (2 * c + 1)
      refine ⟨⟨by omega, by omega, by omega, by omega, by omega, by simp only [big]; omega, h3.sub fun x hx => q5.mem.1 hx, key, h4.sub fun x hx => q5.mem.1 hx, ?_, ?_⟩, ?_⟩
      · rw [show ((r.1 : Int) + bs).toNat = r.1 + bs.toNat by omega]
        exact s1
      · rw [show ((r.1 : Int) + bs).toNat = r.1 + bs.toNat by omega]
        exact s2
      · rw [hpas] at hfin
        exact hfin
    · have hj' : ¬ (r.1 : Int) + bs < n := of_decide_eq_false hj
      rw [if_neg (by omega)] at hpas
      rw [hpas] at hfin
      exact hfin
  · have hge : ¬ bs < n := of_decide_eq_false hi
    have : passes (ltOf g) n.toNat n.toNat bs.toNat l = l := by
      rw [passes_enough _ 0 _ _ (by omega) (by omega) (by omega)]
      rfl
    rw [this] at hq
    exact hq

theorem loopAll : Does Try.prog (.loop (loopF Try.f147 1)) pt_all.M pt_all FAll := by
  refine Does.loop (n := 63) (id := 2) sem_all (inv := fun x => InvAll x.1.1 x.1.2.2.1 x.1.2.1 x.2.1) (μ := fun x => (x.1.1 - x.1.2.2.1).toNat) ?_ (fun x Q h => h.1)
  rintro ⟨⟨n, g, bs, _⟩, ⟨l, _⟩⟩ hinv Q hq
  exact lawAll n bs g l hinv Q hq.2

end Go.Proofs.Ytbplccbjgfappaa

/-
  slices.SortStableFunc over numbers; change.Order.
-/
namespace Go.Proofs.Ytbplccbjgfappaa
open Go Go.Ab Go.RowKit Go.Proofs

noncomputable def ΛStab : Nat → St → Option Tr
  | 0 => pt_blk.han CI3.Γ pt_blk.M FBlk
  | _ => pt_all.han CI3.Γ pt_all.M FAll

noncomputable def mStab : Mt := ⟨3, i64, [.d i64, cmpT], [], fun l x => (sortB (ltOf x.2.1) l, ()), fun l x => [x.1 = l.length, (l.length : Int) ≤ 4611686018427387903, OrdOf x.2.1 l]⟩

noncomputable def fr_stab (l : List Int) (x : denP [.d i64, cmpT]) : Fr (List Int × denL []) :=
  let n := x.1; let g := x.2.1
  let r := blkI n 0 (g.1, g.2) l
  Fr.need (InvBlk n 20 0 20 (g.1, g.2) l)
  (Fr.need ((0 : Int) ≤ r.1)
    (Fr.need ((r.1 : Int) ≤ n)
      (Fr.need (n ≤ (r.2.length : Int))
        (Fr.need ((r.2.length : Int) ≤ 4611686018427387903)
          (Fr.need (OrdOf (g.1, g.2) r.2)
            (Fr.need (InvAll n 20 (g.1, g.2) (mInsert.f r.2 ((r.1 : Int), n, (g.1, g.2), ())).1)
              (Fr.val (passes (ltOf (g.1, g.2)) n.toNat n.toNat (20 : Int).toNat (mInsert.f r.2 ((r.1 : Int), n, (g.1, g.2), ())).1, ()))))))))

theorem stab_ok : SoundMt Try.prog 147 mStab :=
  convMt (mt_sound CI3_ok (Λ := ΛStab) (fn := Try.f147) (fr := fr_stab) (e := 3) (T := i64) (ps := [.d i64, cmpT]) (rs := []) (0, (fun _ => (0, ()), fun _ => True), ()) (by kernel_rfl) rfl rfl
    (fun c E hc => lam2f hc (by kernel_rfl) (b0 := loopF Try.f147 0) (b1 := loopF Try.f147 1) (by kernel_rfl) (by kernel_rfl) (Does.han CI3_ok rfl loopBlk) (Does.han CI3_ok rfl loopAll)) (fun l x => by kernel_rfl)) _ _ fun w F l xs vs _ _ _ hok => by
    obtain ⟨n, g, rfl⟩ : ∃ (n : Int) (g : cmpT.den), xs = (n, g, ()) := ⟨xs.1, xs.2.1, rfl⟩
    have hok' : (n : Int) = (List.length (α := Int) l : Int) ∧ (List.length (α := Int) l : Int) ≤ 4611686018427387903 ∧ OrdOf g l := hok
    obtain ⟨h1, h2, h3, key, h4⟩ := hok'
    subst h1
    have hr := blkW_spec (key := key) (lt := ltOf g) (w := 20) (n := List.length (α := Int) l) (by omega) (List.length (α := Int) l + 1) 0 l (by omega) (by omega) rfl ⟨0, by simp⟩ h4 (fun k hk => by omega)
    have hS := stableB_eq h4
    unfold stableB at hS
    have hb : blkI (List.length (α := Int) l : Int) 0 g l = blkW (ltOf g) 20 (List.length (α := Int) l) (List.length (α := Int) l + 1) 0 l := rfl
    dsimp only [fr_stab, Fr.ok, Fr.get, Ty.den, PT.den, mInsert, mStab]
    have e : (g.1, g.2) = g := rfl
    simp only [e, hb]
    simp only at hS
    generalize blkW (ltOf g) 20 (List.length (α := Int) l) (List.length (α := Int) l + 1) 0 l = r at hr hS ⊢
    obtain ⟨p1, p2, p3⟩ := hr.last h4
    have q2 := hr.le
    have q4 := hr.len
    have hm : ∀ x ∈ r.2, x ∈ l := fun x hx => hr.same.mem.1 hx
    have hm2 : ∀ x ∈ partB (ltOf g) r.1 (List.length (α := Int) l) r.2, x ∈ l := fun x hx => p2.mem.1 hx
    refine ⟨⟨⟨rfl, h2, rfl, by omega, by omega, rfl, h3, key, h4⟩, by omega, by omega, by omega, by omega, ⟨h3.sub hm, key, h4.sub hm⟩, ⟨congrArg (fun n : Nat => (n : Int)) p3.symm, h2, by omega, h3.sub hm2, key, h4.sub hm2, p1⟩, trivial⟩, ?_⟩
    show (passes (ltOf g) (List.length (α := Int) l) (List.length (α := Int) l) 20 (partB (ltOf g) r.1 (List.length (α := Int) l) r.2), ()) = (sortB (ltOf g) l, ())
    rw [hS]

noncomputable def CI4 : Cx := cxK [] [] (mtK (cx [] []).Γ 147 mStab)
theorem CI4_ok : CxOK Try.prog CI4 := cxK_ok mixed trivial trivial (mtK_ok CI0_ok.ct stab_ok)

noncomputable def mSort : Mt := ⟨3, i64, [cmpT], [], fun l x => (sortB (ltOf x.1) l, ()), fun l x => [(l.length : Int) ≤ 4611686018427387903, OrdOf x.1 l]⟩
noncomputable def fr_sort (l : List Int) (x : denP [cmpT]) : Fr (List Int × denL []) :=
  Fr.need ((l.length : Int) = l.length) (Fr.need ((l.length : Int) ≤ 4611686018427387903) (Fr.need (OrdOf (x.1.1, x.1.2) l) (Fr.val ((mStab.f l ((l.length : Int), (x.1.1, x.1.2), ())).1, ()))))

theorem sort_ok : SoundMt Try.prog 123 mSort :=
  convMt (mt_sound CI4_ok (Λ := lam0) (fn := Try.f123) (fr := fr_sort) (e := 3) (T := i64) (ps := [cmpT]) (rs := []) ((fun _ => (0, ()), fun _ => True), ()) (by kernel_rfl) rfl rfl
    (fun c E _ => lam0_ok c 0) (fun l x => by kernel_rfl)) _ _ fun w F l xs vs _ _ _ hok => by
    obtain ⟨g, rfl⟩ : ∃ g : cmpT.den, xs = (g, ()) := ⟨xs.1, rfl⟩
    exact ⟨⟨rfl, hok.1, hok.2, trivial⟩, rfl⟩

end Go.Proofs.Ytbplccbjgfappaa

/-
  slices.IsSorted, cmp.Compare, cover.Right.
-/
namespace Go.Proofs.Ytbplccbjgfappaa
open Go Go.Ab Go.RowKit Go.Proofs

noncomputable def CH2 : Cx := cx [(158, cLess), (148, cNaN)] []
theorem CH2_ok : CxOK Try.prog CH2 := cx_ok mixed ⟨less_ok, nan2_ok, trivial⟩ trivial

/-- Each number is at least the one ahead of it. -/
def srt : List Int → Bool
  | a :: b :: r => decide (a ≤ b) && srt (b :: r)
  | _ => true

theorem srt_push : (l : List Int) → (a b : Int) → srt (l ++ [a, b]) = (srt (l ++ [a]) && decide (a ≤ b))
  | [], a, b => by simp [srt]
  | [x], a, b => by simp [srt]
  | x :: y :: l, a, b => by
    have := srt_push (y :: l) a b
    simp only [List.cons_append, srt] at this ⊢
    rw [this, Bool.and_assoc]

abbrev pt_srt : Pt := ⟨21, 0, ⟨[(0, .d ints), (3, .d i64)], []⟩, ⟨[], []⟩, ⟨[(2, .d .bool)], []⟩⟩
def fr_srt (x : pt_srt.M.X) : Fr pt_srt.Out :=
  Fr.br (decide (x.1.2.1 > 0))
    (Fr.need (0 ≤ x.1.2.1 ∧ x.1.2.1 < x.1.1.length)
      (Fr.need (0 ≤ IntKind.i64.wrap (x.1.2.1 - 1) ∧ IntKind.i64.wrap (x.1.2.1 - 1) < x.1.1.length)
        (Fr.br (cLess.f (x.1.1.getD x.1.2.1.toNat i64.dflt, x.1.1.getD (IntKind.i64.wrap (x.1.2.1 - 1)).toNat i64.dflt, ())).1
          (Fr.val (Rd.back ((false, ()), ())))
          (Fr.val (Rd.next ((x.1.1, IntKind.i64.wrap (x.1.2.1 - 1), ()), ()))))))
    (Fr.val (Rd.out ((), ())))

theorem sem_srt : Does Try.prog (loopF Try.f141 0) pt_srt.M pt_srt fr_srt :=
  Does.of_run CH2_ok (bs := 0) (Λ := lam0) rfl rfl rfl (fun E => lam0_ok _ 0) (fun x => by kernel_rfl)

def InS (l : List Int) (i : Int) : Prop := -1 ≤ i ∧ i < l.length ∧ (l.length : Int) ≤ 9223372036854775807

def FSrt (x : pt_srt.M.X) : Fr pt_srt.Out :=
  Fr.need (InS x.1.1 x.1.2.1) (Fr.br (srt (x.1.1.take (x.1.2.1 + 1).toNat)) (Fr.val (Rd.out ((), ()))) (Fr.val (Rd.back ((false, ()), ()))))

theorem srt_take (l : List Int) (k : Nat) (h : k + 1 < l.length) : srt (l.take (k + 2)) = (srt (l.take (k + 1)) && decide (l[k] ≤ l[k + 1])) := by
  have e1 : l.take (k + 1) = l.take k ++ [l[k]] := (List.take_append_getElem (show k < l.length by omega)).symm
  have e2 : l.take (k + 2) = l.take k ++ [l[k], l[k + 1]] := by
    have e3 : l.take (k + 2) = l.take (k + 1) ++ [l[k + 1]] := (List.take_append_getElem h).symm
    rw [e3, e1, List.append_assoc]
    rfl
  rw [e2, e1, srt_push]

theorem lawSrt (l : List Int) (i : Int) (hinv : InS l i) (Q : pt_srt.Out → Prop)
    (hq : (Fr.br (srt (l.take (i + 1).toNat)) (Fr.val (Rd.out ((), ()))) (Fr.val (Rd.back ((false, ()), ()))) : Fr pt_srt.Out).satP Q) :
    (fr_srt ((l, i, ()), ())).satP fun
      | .next x' => InS x'.1.1 x'.1.2.1 ∧ x'.1.2.1.toNat < i.toNat ∧ (FSrt x').satP Q
      | .out y => Q (.out y)
      | .back z => Q (.back z)
      | .pan p => Q (.pan p) := by
  obtain ⟨h1, h2, h3⟩ := hinv
  refine ⟨fun hi => ?_, fun hi => ?_⟩
  · have hi' : i > 0 := of_decide_eq_true hi
    obtain ⟨k, hk⟩ : ∃ k : Nat, i = k + 1 := ⟨(i - 1).toNat, by omega⟩
    subst hk
    have hw : IntKind.i64.wrap ((k : Int) + 1 - 1) = k := by rw [show (k : Int) + 1 - 1 = k by omega]; exact IntWalk.i64_in _ (by omega)
    have hl : k + 1 < l.length := by omega
    have g1 : l.getD ((k : Int) + 1).toNat i64.dflt = l[k + 1] := by
      rw [show ((k : Int) + 1).toNat = k + 1 by omega, List.getD_eq_getElem?_getD, List.getElem?_eq_getElem hl]; rfl
    have g2 : l.getD (k : Int).toNat i64.dflt = l[k] := by
      rw [show (k : Int).toNat = k by omega, List.getD_eq_getElem?_getD, List.getElem?_eq_getElem (show k < l.length by omega)]; rfl
    have e1 : ((k : Int) + 1 + 1).toNat = k + 2 := by omega
    rw [e1, srt_take l k hl] at hq
    dsimp only [fr_srt, Fr.satP, cLess]
    rw [hw, g1, g2]
    have hI : InS l k := ⟨by omega, by omega, h3⟩
    refine ⟨⟨(show (0 : Int) ≤ (k : Int) + 1 by omega), h2⟩, ⟨(show (0 : Int) ≤ (k : Int) by omega), (show (k : Int) < (l.length : Int) by omega)⟩, fun hc => ?_, fun hc => ?_⟩
    · have hc' : ¬ l[k] ≤ l[k + 1] := by have := of_decide_eq_true hc; exact Int.not_le.2 this
      rw [decide_eq_false hc', Bool.and_false] at hq
      exact hq.2 rfl
    · have hc' : l[k] ≤ l[k + 1] := by have := of_decide_eq_false hc; exact Int.not_lt.1 this
      rw [decide_eq_true hc', Bool.and_true] at hq
      exact ⟨hI, by omega, hI, by rw [show ((k : Int) + 1).toNat = k + 1 by omega]; exact hq⟩
  · have hi' : ¬ i > 0 := of_decide_eq_false hi
    have hle : (i + 1).toNat ≤ 1 := by omega
    have : srt (l.take (i + 1).toNat) = true := by
      rcases Nat.lt_or_ge (i + 1).toNat 1 with h | h
      · rw [show (i + 1).toNat = 0 by omega]; rfl
      · rw [show (i + 1).toNat = 1 by omega]
        cases l <;> rfl
    rw [this] at hq
    exact hq.1 rfl

theorem loopSrt : Does Try.prog (.loop (loopF Try.f141 0)) pt_srt.M pt_srt FSrt := by
  refine Does.loop (n := 21) (id := 0) sem_srt (inv := fun x => InS x.1.1 x.1.2.1) (μ := fun x => x.1.2.1.toNat) ?_ (fun x Q h => h.1)
  rintro ⟨⟨l, i, _⟩, _⟩ hinv Q hq
  exact lawSrt l i hinv Q hq.2

noncomputable def ΛSrt : Nat → St → Option Tr := fun _ => pt_srt.han CH2.Γ pt_srt.M FSrt
def cSorted : Ct := ⟨[.d ints], [.bool], fun x => (srt x.1, ()), fun _ => []⟩
def fr_sorted (x : denP [.d ints]) : Fr (denL [.bool]) :=
  Fr.need (InS x.1 (IntKind.i64.wrap (x.1.length - 1))) (Fr.br (srt (x.1.take (IntKind.i64.wrap (x.1.length - 1) + 1).toNat)) (Fr.val (true, ())) (Fr.val (false, ())))

theorem sorted_ok : SoundCt Try.prog 141 cSorted :=
  conv (fn_sound CH2_ok (Λ := ΛSrt) (fn := Try.f141) (fr := fr_sorted) (ps := [.d ints]) (rs := [.bool]) ([], ()) (by kernel_rfl)
    (fun c E hc => lam1f hc (by kernel_rfl) (b := loopF Try.f141 0) (by kernel_rfl) (Does.han CH2_ok rfl loopSrt)) (fun x => by kernel_rfl)) _ _ fun w F xs vs hr _ => by
    obtain ⟨l, _⟩ := xs
    obtain ⟨v, vs', rfl, hv, _⟩ := hr
    have hwf := RepT.wf hv.2.2
    have hlen : l.length ≤ maxLen := hwf.1
    have hw : IntKind.i64.wrap ((l.length : Int) - 1) = l.length - 1 := IntWalk.i64_in _ (by simp only [maxLen] at hlen; omega)
    have ht : l.take ((l.length : Int) - 1 + 1).toNat = l := List.take_of_length_le (by omega)
    refine ⟨⟨?_, fun _ => trivial, fun _ => trivial⟩, ?_⟩
    · show InS l (IntKind.i64.wrap ((l.length : Int) - 1))
      rw [hw]
      simp only [maxLen] at hlen
      exact ⟨by omega, by omega, by omega⟩
    · show (if srt (l.take (IntKind.i64.wrap ((l.length : Int) - 1) + 1).toNat) = true then (true, ()) else (false, ())) = (srt l, ())
      rw [hw, ht]
      cases srt l <;> rfl

noncomputable def CH3 : Cx := cx [(141, cSorted), (148, cNaN)] []
theorem CH3_ok : CxOK Try.prog CH3 := cx_ok mixed ⟨sorted_ok, nan2_ok, trivial⟩ trivial

end Go.Proofs.Ytbplccbjgfappaa

/-
  cover.Right, cmp.Compare, span.In, span.Many.
-/
namespace Go.Proofs.Ytbplccbjgfappaa
open Go Go.Ab Go.RowKit Go.Proofs

def fr_coverR (x : denP [.d coverT]) : Fr (denL [.bool]) :=
  Fr.br (bif decide (x.fst.fst ≥ 0) then decide (x.fst.fst < 8) else false) (Fr.br (bif decide (x.fst.snd.snd.snd.snd.fst ≥ 1) then decide (x.fst.snd.snd.snd.snd.fst ≤ 10000) else false) (Fr.br (cSorted.f ([0, x.fst.snd.snd.snd.fst, IntKind.i64.wrap (x.fst.snd.fst - 1), IntKind.i64.wrap (x.fst.snd.snd.fst - 1), 999999999999999], ())).fst (Fr.val (decide (x.fst.snd.snd.snd.fst < x.fst.snd.fst), ())) (Fr.val (false, ()))) (Fr.val (false, ()))) (Fr.val (false, ()))
theorem fr_coverR_ok : SoundCt Try.prog 108 ⟨[.d coverT], [.bool], fun xs => (fr_coverR xs).get, fun xs => [(fr_coverR xs).ok]⟩ :=
  fn_sound CH3_ok (Λ := lam0) (fn := Try.f108) (dfP [.d coverT]) (by kernel_rfl) (fun c E _ => lam0_ok c 0) (fun x => by kernel_rfl)

def fr_cmp (x : denP [.d i64, .d i64]) : Fr (denL [i64]) :=
  Fr.br (cNaN.f (x.fst, ())).fst (Fr.br (cNaN.f (x.snd.fst, ())).fst (Fr.val (0, ())) (Fr.val (-1, ()))) (Fr.br (cNaN.f (x.snd.fst, ())).fst (Fr.val (1, ())) (Fr.br (decide (x.fst < x.snd.fst)) (Fr.val (-1, ())) (Fr.br (decide (x.fst > x.snd.fst)) (Fr.val (1, ())) (Fr.val (0, ())))))
theorem fr_cmp_ok : SoundCt Try.prog 125 ⟨[.d i64, .d i64], [i64], fun xs => (fr_cmp xs).get, fun xs => [(fr_cmp xs).ok]⟩ :=
  fn_sound CH3_ok (Λ := lam0) (fn := Try.f125) (dfP [.d i64, .d i64]) (by kernel_rfl) (fun c E _ => lam0_ok c 0) (fun x => by kernel_rfl)

def fr_inS (x : denP [.d spanT, .d i64]) : Fr (denL [.bool]) :=
  Fr.val (bif decide (x.snd.fst ≥ (cKept.f ((x.fst.fst, x.fst.snd.fst, ()), ())).fst.fst) then decide (x.snd.fst < (cKept.f ((x.fst.fst, x.fst.snd.fst, ()), ())).fst.snd.fst) else false, ())
theorem fr_inS_ok : SoundCt Try.prog 48 ⟨[.d spanT, .d i64], [.bool], fun xs => (fr_inS xs).get, fun xs => [(fr_inS xs).ok]⟩ :=
  fn_sound CH1_ok (Λ := lam0) (fn := Try.f48) (dfP [.d spanT, .d i64]) (by kernel_rfl) (fun c E _ => lam0_ok c 0) (fun x => by kernel_rfl)

def fr_manyS (x : denP [.d spanT]) : Fr (denL [i64]) :=
  Fr.val (IntKind.i64.wrap ((cKept.f ((x.fst.fst, x.fst.snd.fst, ()), ())).fst.snd.fst - (cKept.f ((x.fst.fst, x.fst.snd.fst, ()), ())).fst.fst), ())
theorem fr_manyS_ok : SoundCt Try.prog 120 ⟨[.d spanT], [i64], fun xs => (fr_manyS xs).get, fun xs => [(fr_manyS xs).ok]⟩ :=
  fn_sound CH1_ok (Λ := lam0) (fn := Try.f120) (dfP [.d spanT]) (by kernel_rfl) (fun c E _ => lam0_ok c 0) (fun x => by kernel_rfl)

theorem i64wf {n : Int} (h : Wf i64 n) : -9223372036854775808 ≤ n ∧ n ≤ 9223372036854775807 := h

theorem wrap_less {n : Int} (h : -9223372036854775808 ≤ n ∧ n ≤ 9223372036854775807) : (n = -9223372036854775808 ∧ IntKind.i64.wrap (n - 1) = 9223372036854775807) ∨ (-9223372036854775808 < n ∧ IntKind.i64.wrap (n - 1) = n - 1) := by
  by_cases hn : n = -9223372036854775808
  · left
    subst hn
    exact ⟨rfl, by kernel_rfl⟩
  · right
    exact ⟨by omega, i64w (by omega)⟩

theorem coverR_b (_p l g d _s : Int) (hl : -9223372036854775808 ≤ l ∧ l ≤ 9223372036854775807) (hg : -9223372036854775808 ≤ g ∧ g ≤ 9223372036854775807) :
    (srt [0, d, IntKind.i64.wrap (l - 1), IntKind.i64.wrap (g - 1), 999999999999999] && decide (d < l)) = decide (0 ≤ d ∧ d < l ∧ l ≤ g ∧ g ≤ 1000000000000000) := by
  rw [Bool.eq_iff_iff]
  simp only [srt, Bool.and_eq_true, decide_eq_true_eq]
  rcases wrap_less hl with ⟨h1, h2⟩ | ⟨h1, h2⟩ <;> rcases wrap_less hg with ⟨h3, h4⟩ | ⟨h3, h4⟩ <;> rw [h2, h4]
  · omega
  · omega
  · omega
  · constructor
    · rintro ⟨⟨a1, a2, a3, a4, _⟩, a5⟩
      exact ⟨a1, a5, by omega, by omega⟩
    · rintro ⟨a1, a2, a3, a4⟩
      exact ⟨⟨a1, by omega, by omega, by omega, trivial⟩, a2⟩

theorem cover_ok : SoundCt Try.prog 108 cCover :=
  conv fr_coverR_ok _ _ (fun w F x vs hr _ => by
    obtain ⟨⟨p, l, g, d, s, _⟩, _⟩ := x
    obtain ⟨v, vs', rfl, hv, _⟩ := hr
    have hwf := RepT.wf hv.2.2
    refine ⟨by simp [conj, Fr.ok, fr_coverR], ?_⟩
    have hb := coverR_b p l g d s (i64wf hwf.2.1) (i64wf hwf.2.2.1)
    show (if (bif decide (p ≥ 0) then decide (p < 8) else false) = true then (if (bif decide (s ≥ 1) then decide (s ≤ 10000) else false) = true then (if srt [0, d, IntKind.i64.wrap (l - 1), IntKind.i64.wrap (g - 1), 999999999999999] = true then (decide (d < l), ()) else (false, ())) else (false, ())) else (false, ())) = (coverB p l g d s, ())
    have h1 : (if srt [0, d, IntKind.i64.wrap (l - 1), IntKind.i64.wrap (g - 1), 999999999999999] = true then ((decide (d < l), ()) : Bool × Unit) else (false, ())) = (decide (0 ≤ d ∧ d < l ∧ l ≤ g ∧ g ≤ 1000000000000000), ()) := by
      rw [← hb]
      cases srt [0, d, IntKind.i64.wrap (l - 1), IntKind.i64.wrap (g - 1), 999999999999999] <;> rfl
    rw [h1]
    have h2 : ∀ (a b c : Bool), (if a = true then (if b = true then ((c, ()) : Bool × Unit) else (false, ())) else (false, ())) = (a && (b && c), ()) := fun a b c => by cases a <;> cases b <;> rfl
    rw [h2]
    congr 1
    rw [Bool.eq_iff_iff]
    simp only [coverB, Bool.cond_false_right, Bool.and_eq_true, decide_eq_true_eq]
    exact ⟨fun ⟨⟨a1, a2⟩, ⟨a3, a4⟩, a5⟩ => ⟨a1, a2, a3, a4, a5⟩, fun ⟨a1, a2, a3, a4, a5⟩ => ⟨⟨a1, a2⟩, ⟨a3, a4⟩, a5⟩⟩)

/-- Which of two numbers is less. -/
def cmpZ (a b : Int) : Int := if a < b then -1 else if b < a then 1 else 0
def cCmp : Ct := ⟨[.d i64, .d i64], [i64], fun x => (cmpZ x.1 x.2.1, ()), fun _ => []⟩
theorem cmp_ok : SoundCt Try.prog 125 cCmp :=
  conv fr_cmp_ok _ _ (fun _ _ x _ _ _ => by
    obtain ⟨a, b, _⟩ := x
    refine ⟨by simp [conj, Fr.ok, fr_cmp], ?_⟩
    show (if decide (a < b) = true then ((-1 : Int), ()) else if decide (a > b) = true then (1, ()) else (0, ())) = (if a < b then -1 else if b < a then 1 else 0, ())
    by_cases h1 : a < b
    · rw [if_pos (decide_eq_true h1), if_pos h1]
    · rw [if_neg (by simp [h1]), if_neg h1]
      by_cases h2 : b < a
      · rw [if_pos (decide_eq_true h2), if_pos h2]
      · rw [if_neg (by simpa using h2), if_neg h2])

theorem inS_b (a b d : Int) : (bif decide (d ≥ (keptS (a, b, ())).1) then decide (d < (keptS (a, b, ())).2.1) else false) = inB a b d := by
  unfold keptS
  by_cases h : fullS (a, b, ()) = true
  · rw [if_pos h]
    obtain ⟨h1, h2, h3⟩ := fullS_iff.1 h
    simp only [Bool.cond_false_right, inB]
    rw [Bool.eq_iff_iff]
    simp only [Bool.and_eq_true, decide_eq_true_eq]
    constructor
    · rintro ⟨a1, a2⟩; exact ⟨h1, h3, a1, a2⟩
    · rintro ⟨_, _, a1, a2⟩; exact ⟨a1, a2⟩
  · rw [if_neg h]
    have h' : ¬ (1 ≤ a ∧ a < b ∧ b ≤ 292195) := fun hh => h (fullS_iff.2 hh)
    simp only [Bool.cond_false_right, inB]
    rw [Bool.eq_iff_iff]
    simp only [Bool.and_eq_true, decide_eq_true_eq]
    constructor
    · rintro ⟨a1, a2⟩
      have a1' : (0 : Int) ≤ d := a1
      have a2' : d < (0 : Int) := a2
      omega
    · rintro ⟨a1, a2, a3, a4⟩
      exact absurd ⟨a1, by omega, a2⟩ h'
theorem inS_ok : SoundCt Try.prog 48 cIn :=
  conv fr_inS_ok _ _ (fun _ _ x _ _ _ => by
    obtain ⟨⟨a, b, _⟩, d, _⟩ := x
    refine ⟨by simp [conj, Fr.ok, fr_inS], ?_⟩
    exact congrArg (·, ()) (inS_b a b d))

/-- How many days a span has. -/
def manyS (a b : Int) : Int := if fullS (a, b, ()) = true then b - a else 0
def cManyS : Ct := ⟨[.d spanT], [i64], fun x => (manyS x.1.1 x.1.2.1, ()), fun _ => []⟩
theorem manyS_ok : SoundCt Try.prog 120 cManyS :=
  conv fr_manyS_ok _ _ (fun _ _ x _ _ _ => by
    obtain ⟨⟨a, b, _⟩, _⟩ := x
    refine ⟨by simp [conj, Fr.ok, fr_manyS], ?_⟩
    show (IntKind.i64.wrap ((keptS (a, b, ())).2.1 - (keptS (a, b, ())).1), ()) = (manyS a b, ())
    unfold keptS manyS
    by_cases h : fullS (a, b, ()) = true
    · rw [if_pos h, if_pos h]
      obtain ⟨h1, h2, h3⟩ := fullS_iff.1 h
      have hw : IntKind.i64.wrap (b - a) = b - a := i64w (by omega)
      exact congrArg (·, ()) hw
    · rw [if_neg h, if_neg h]
      rfl)

end Go.Proofs.Ytbplccbjgfappaa

/-
  Lists of covers and of bands; factors: loops.
-/
namespace Go.Proofs.Ytbplccbjgfappaa
open Go Go.Ab Go.RowKit Go.Proofs

abbrev bandT : Ty := .pair i64 (.pair i64 .unit)
noncomputable def CH4 : Cx := cx [(108, cCover), (131, cCover)] []
theorem CH4_ok : CxOK Try.prog CH4 := cx_ok mixed ⟨cover_ok, cover8_ok, trivial⟩ trivial

abbrev pt_terms_Find : Pt := ⟨21, 0, ⟨[(10, .d i64), (9, .d i64), (8, .d (.sl coverT)), (1, .d i64)], [.x 4 62 coverT, .r 4 4 0]⟩, ⟨[], [.x 4 62 coverT, .r 4 4 0]⟩, ⟨[(5, .d .bool)], [.x 4 62 coverT, .r 4 4 0]⟩⟩
def fr_terms_Find (x : pt_terms_Find.M.X) : Fr pt_terms_Find.Out :=
  Fr.br (decide (x.fst.fst < x.fst.snd.fst)) (Fr.need (0 ≤ x.fst.fst ∧ x.fst.fst < ↑(List.length x.fst.snd.snd.fst)) (Fr.br ((List.getD x.fst.snd.snd.fst (Int.toNat x.fst.fst) coverT.dflt).fst == x.fst.snd.snd.snd.fst) (Fr.val (Rd.back ((true, ()), ((List.getD x.fst.snd.snd.fst (Int.toNat x.fst.fst) coverT.dflt).fst, (List.getD x.fst.snd.snd.fst (Int.toNat x.fst.fst) coverT.dflt).snd.fst, (List.getD x.fst.snd.snd.fst (Int.toNat x.fst.fst) coverT.dflt).snd.snd.fst, (List.getD x.fst.snd.snd.fst (Int.toNat x.fst.fst) coverT.dflt).snd.snd.snd.fst, (List.getD x.fst.snd.snd.fst (Int.toNat x.fst.fst) coverT.dflt).snd.snd.snd.snd.fst, ()), ()))) (Fr.val (Rd.next ((IntKind.i64.wrap (x.fst.fst + 1), x.fst.snd.fst, x.fst.snd.snd.fst, x.fst.snd.snd.snd.fst, ()), (x.snd.fst.fst, x.snd.fst.snd.fst, x.snd.fst.snd.snd.fst, x.snd.fst.snd.snd.snd.fst, x.snd.fst.snd.snd.snd.snd.fst, ()), ()))))) (Fr.val (Rd.out ((), (x.snd.fst.fst, x.snd.fst.snd.fst, x.snd.fst.snd.snd.fst, x.snd.fst.snd.snd.snd.fst, x.snd.fst.snd.snd.snd.snd.fst, ()), ())))
theorem sem_terms_Find : Does Try.prog (loopF Try.f61 0) pt_terms_Find.M pt_terms_Find fr_terms_Find :=
  Does.of_run CH4_ok (bs := 0) (Λ := lam0) rfl rfl rfl (fun E => lam0_ok _ 0) (fun x => by kernel_rfl)
abbrev st_terms_Find : Type := denP [.d i64] × denM [.x 4 62 coverT, .r 4 4 0]
def step_terms_Find (e : coverT.den) (s : st_terms_Find) : Fr (st_terms_Find ⊕ pt_terms_Find.R.X) :=
  Fr.br (e.fst == s.fst.fst) (Fr.val (.inr ((true, ()), (e.fst, e.snd.fst, e.snd.snd.fst, e.snd.snd.snd.fst, e.snd.snd.snd.snd.fst, ()), ()))) (Fr.val (.inl ((s.fst.fst, ()), (s.snd.fst.fst, s.snd.fst.snd.fst, s.snd.fst.snd.snd.fst, s.snd.fst.snd.snd.snd.fst, s.snd.fst.snd.snd.snd.snd.fst, ()), ())))
def un_terms_Find (x : pt_terms_Find.M.X) : Int × List coverT.den × st_terms_Find := (x.1.1, x.1.2.2.1, x.1.2.2.2, x.2)
def good_terms_Find (x : pt_terms_Find.M.X) : Prop := x.1.2.1 = (x.1.2.2.1.length : Int)
def out_terms_Find (s : st_terms_Find) : pt_terms_Find.E.X := ((), (s.snd.fst.fst, s.snd.fst.snd.fst, s.snd.fst.snd.snd.fst, s.snd.fst.snd.snd.snd.fst, s.snd.fst.snd.snd.snd.snd.fst, ()), ())
def dS_terms_Find : st_terms_Find := (dfP _, dfM _)
def dR_terms_Find : pt_terms_Find.R.X := (dfP _, dfM _)
theorem loop_terms_Find : Does Try.prog (.loop (loopF Try.f61 0)) pt_terms_Find.M pt_terms_Find (FL step_terms_Find un_terms_Find good_terms_Find out_terms_Find Rd.back dS_terms_Find dR_terms_Find) := by
  refine Does.list sem_terms_Find step_terms_Find un_terms_Find good_terms_Find out_terms_Find Rd.back dS_terms_Find dR_terms_Find ?_ ?_
  · rintro ⟨⟨i, n, l, s⟩, m⟩ hg h0 h1 hb e he Q h
    have hg : n = (l.length : Int) := hg
    subst hg
    have h0 : 0 ≤ i := h0
    have h1 : i < (l.length : Int) := h1
    have hb : (l.length : Int) ≤ 9223372036854775807 := hb
    have hd : l.getD i.toNat coverT.dflt = e := getD_of he
    have hw := wrap_next h0 h1 hb
    dsimp only [un_terms_Find, step_terms_Find, fr_terms_Find, Fr.satP] at h ⊢
    simp only [hd, hw] at h ⊢
    refine ⟨fun _ => ?_, fun hn => absurd h1 (of_decide_eq_false hn)⟩
    repeat' first
      | exact h
      | exact ⟨h0, h1⟩
      | exact fun _ => ⟨h0, h1⟩
      | exact h _ rfl rfl
      | refine ⟨?_, ?_⟩
      | (intro (hc : _ = true); replace h := h.1 hc)
      | (intro (hc : _ = false); replace h := h.2 hc)
  · rintro ⟨⟨i, n, l, s⟩, m⟩ hg h1 Q h
    have hg : n = (l.length : Int) := hg
    subst hg
    exact ⟨fun hn => absurd (of_decide_eq_true hn) h1, fun _ => h⟩
def Λ_terms_Find (Γ : FuncId → Option Ct) : St → Option Tr := pt_terms_Find.han Γ pt_terms_Find.M (FL step_terms_Find un_terms_Find good_terms_Find out_terms_Find Rd.back dS_terms_Find dR_terms_Find)
def res_terms_Find (y : pt_terms_Find.M.X) : st_terms_Find ⊕ pt_terms_Find.R.X := goL step_terms_Find ((un_terms_Find y).2.1.drop (un_terms_Find y).1.toNat) (un_terms_Find y).2.2
def okr_terms_Find (y : pt_terms_Find.M.X) : Prop := okL step_terms_Find ((un_terms_Find y).2.1.drop (un_terms_Find y).1.toNat) (un_terms_Find y).2.2

abbrev pt_r10_Same : Pt := ⟨26, 0, ⟨[(5, .d i64), (0, .d (.sl coverT)), (1, .d (.sl coverT))], []⟩, ⟨[], []⟩, ⟨[(4, .d .bool)], []⟩⟩
def fr_r10_Same (x : pt_r10_Same.M.X) : Fr pt_r10_Same.Out :=
  Fr.br (decide (x.fst.fst < ↑(List.length x.fst.snd.fst))) (Fr.need (0 ≤ x.fst.fst ∧ x.fst.fst < ↑(List.length x.fst.snd.fst)) (Fr.need (0 ≤ x.fst.fst ∧ x.fst.fst < ↑(List.length x.fst.snd.snd.fst)) (Fr.br (!((List.getD x.fst.snd.fst (Int.toNat x.fst.fst) coverT.dflt).fst == (List.getD x.fst.snd.snd.fst (Int.toNat x.fst.fst) coverT.dflt).fst && ((List.getD x.fst.snd.fst (Int.toNat x.fst.fst) coverT.dflt).snd.fst == (List.getD x.fst.snd.snd.fst (Int.toNat x.fst.fst) coverT.dflt).snd.fst && ((List.getD x.fst.snd.fst (Int.toNat x.fst.fst) coverT.dflt).snd.snd.fst == (List.getD x.fst.snd.snd.fst (Int.toNat x.fst.fst) coverT.dflt).snd.snd.fst && ((List.getD x.fst.snd.fst (Int.toNat x.fst.fst) coverT.dflt).snd.snd.snd.fst == (List.getD x.fst.snd.snd.fst (Int.toNat x.fst.fst) coverT.dflt).snd.snd.snd.fst && ((List.getD x.fst.snd.fst (Int.toNat x.fst.fst) coverT.dflt).snd.snd.snd.snd.fst == (List.getD x.fst.snd.snd.fst (Int.toNat x.fst.fst) coverT.dflt).snd.snd.snd.snd.fst && true)))))) (Fr.val (Rd.back ((false, ()), ()))) (Fr.val (Rd.next ((IntKind.i64.wrap (x.fst.fst + 1), x.fst.snd.fst, x.fst.snd.snd.fst, ()), ())))))) (Fr.val (Rd.out ((), ())))
theorem sem_r10_Same : Does Try.prog (loopF Try.f87 0) pt_r10_Same.M pt_r10_Same fr_r10_Same :=
  Does.of_run CH4_ok (bs := 0) (Λ := lam0) rfl rfl rfl (fun E => lam0_ok _ 0) (fun x => by kernel_rfl)
abbrev st_r10_Same : Type := denP [.d (.sl coverT)] × denM []
def step_r10_Same (e : (coverT.den × coverT.den)) (s : st_r10_Same) : Fr (st_r10_Same ⊕ pt_r10_Same.R.X) :=
  Fr.br (!(e.fst.fst == e.snd.fst && (e.fst.snd.fst == e.snd.snd.fst && (e.fst.snd.snd.fst == e.snd.snd.snd.fst && (e.fst.snd.snd.snd.fst == e.snd.snd.snd.snd.fst && (e.fst.snd.snd.snd.snd.fst == e.snd.snd.snd.snd.snd.fst && true)))))) (Fr.val (.inr ((false, ()), ()))) (Fr.val (.inl ((s.fst.fst, ()), ())))
def un_r10_Same (x : pt_r10_Same.M.X) : Int × List (coverT.den × coverT.den) × st_r10_Same := (x.1.1, x.1.2.1.zip x.1.2.2.1, x.1.2.2, x.2)
def good_r10_Same (x : pt_r10_Same.M.X) : Prop := x.1.2.1.length = x.1.2.2.1.length
def out_r10_Same (_s : st_r10_Same) : pt_r10_Same.E.X := ((), ())
def dS_r10_Same : st_r10_Same := (dfP _, dfM _)
def dR_r10_Same : pt_r10_Same.R.X := (dfP _, dfM _)
theorem loop_r10_Same : Does Try.prog (.loop (loopF Try.f87 0)) pt_r10_Same.M pt_r10_Same (FL step_r10_Same un_r10_Same good_r10_Same out_r10_Same Rd.back dS_r10_Same dR_r10_Same) := by
  refine Does.list sem_r10_Same step_r10_Same un_r10_Same good_r10_Same out_r10_Same Rd.back dS_r10_Same dR_r10_Same ?_ ?_
  · rintro ⟨⟨i, l, s⟩, m⟩ hg h0 h1 hb e he Q h
    have hz : l.length = s.1.length := hg
    have h0 : 0 ≤ i := h0
    have h1 : i < (l.length : Int) := zip_lt hz h1
    have hb : (l.length : Int) ≤ 9223372036854775807 := zip_le hz hb
    have h1z : i < (s.1.length : Int) := by rw [← hz]; exact h1
    have hd : l.getD i.toNat coverT.dflt = e.1 := getD_of (zip_fst he)
    have hdz : s.1.getD i.toNat coverT.dflt = e.2 := getD_of (zip_snd he)
    have hw := wrap_next h0 h1 hb
    dsimp only [un_r10_Same, step_r10_Same, fr_r10_Same, Fr.satP] at h ⊢
    simp only [hd, hw, hdz] at h ⊢
    refine ⟨fun _ => ?_, fun hn => absurd h1 (of_decide_eq_false hn)⟩
    repeat' first
      | exact h
      | exact ⟨h0, h1⟩
      | exact fun _ => ⟨h0, h1⟩
      | exact ⟨h0, h1z⟩
      | exact fun _ => ⟨h0, h1z⟩
      | exact h _ rfl hz
      | refine ⟨?_, ?_⟩
      | (intro (hc : _ = true); replace h := h.1 hc)
      | (intro (hc : _ = false); replace h := h.2 hc)
  · rintro ⟨⟨i, l, s⟩, m⟩ hg h1 Q h
    have hz : l.length = s.1.length := hg
    exact ⟨fun hn => absurd (of_decide_eq_true hn) (zip_nlt hz h1), fun _ => h⟩
def Λ_r10_Same (Γ : FuncId → Option Ct) : St → Option Tr := pt_r10_Same.han Γ pt_r10_Same.M (FL step_r10_Same un_r10_Same good_r10_Same out_r10_Same Rd.back dS_r10_Same dR_r10_Same)
def res_r10_Same (y : pt_r10_Same.M.X) : st_r10_Same ⊕ pt_r10_Same.R.X := goL step_r10_Same ((un_r10_Same y).2.1.drop (un_r10_Same y).1.toNat) (un_r10_Same y).2.2
def okr_r10_Same (y : pt_r10_Same.M.X) : Prop := okL step_r10_Same ((un_r10_Same y).2.1.drop (un_r10_Same y).1.toNat) (un_r10_Same y).2.2

abbrev pt_alike : Pt := ⟨26, 0, ⟨[(14, .d i64), (13, .d i64), (12, .d (.sl coverT)), (1, .d (.sl coverT))], []⟩, ⟨[], []⟩, ⟨[(4, .d .bool)], []⟩⟩
def fr_alike (x : pt_alike.M.X) : Fr pt_alike.Out :=
  Fr.br (decide (x.fst.fst < x.fst.snd.fst)) (Fr.need (0 ≤ x.fst.fst ∧ x.fst.fst < ↑(List.length x.fst.snd.snd.fst)) (Fr.need (0 ≤ x.fst.fst ∧ x.fst.fst < ↑(List.length x.fst.snd.snd.snd.fst)) (Fr.br (!((List.getD x.fst.snd.snd.fst (Int.toNat x.fst.fst) coverT.dflt).fst == (List.getD x.fst.snd.snd.snd.fst (Int.toNat x.fst.fst) coverT.dflt).fst && ((List.getD x.fst.snd.snd.fst (Int.toNat x.fst.fst) coverT.dflt).snd.fst == (List.getD x.fst.snd.snd.snd.fst (Int.toNat x.fst.fst) coverT.dflt).snd.fst && ((List.getD x.fst.snd.snd.fst (Int.toNat x.fst.fst) coverT.dflt).snd.snd.fst == (List.getD x.fst.snd.snd.snd.fst (Int.toNat x.fst.fst) coverT.dflt).snd.snd.fst && ((List.getD x.fst.snd.snd.fst (Int.toNat x.fst.fst) coverT.dflt).snd.snd.snd.fst == (List.getD x.fst.snd.snd.snd.fst (Int.toNat x.fst.fst) coverT.dflt).snd.snd.snd.fst && ((List.getD x.fst.snd.snd.fst (Int.toNat x.fst.fst) coverT.dflt).snd.snd.snd.snd.fst == (List.getD x.fst.snd.snd.snd.fst (Int.toNat x.fst.fst) coverT.dflt).snd.snd.snd.snd.fst && true)))))) (Fr.val (Rd.back ((false, ()), ()))) (Fr.val (Rd.next ((IntKind.i64.wrap (x.fst.fst + 1), x.fst.snd.fst, x.fst.snd.snd.fst, x.fst.snd.snd.snd.fst, ()), ())))))) (Fr.val (Rd.out ((), ())))
theorem sem_alike : Does Try.prog (loopF Try.f97 0) pt_alike.M pt_alike fr_alike :=
  Does.of_run CH4_ok (bs := 0) (Λ := lam0) rfl rfl rfl (fun E => lam0_ok _ 0) (fun x => by kernel_rfl)
abbrev st_alike : Type := denP [.d (.sl coverT)] × denM []
def step_alike (e : (coverT.den × coverT.den)) (s : st_alike) : Fr (st_alike ⊕ pt_alike.R.X) :=
  Fr.br (!(e.fst.fst == e.snd.fst && (e.fst.snd.fst == e.snd.snd.fst && (e.fst.snd.snd.fst == e.snd.snd.snd.fst && (e.fst.snd.snd.snd.fst == e.snd.snd.snd.snd.fst && (e.fst.snd.snd.snd.snd.fst == e.snd.snd.snd.snd.snd.fst && true)))))) (Fr.val (.inr ((false, ()), ()))) (Fr.val (.inl ((s.fst.fst, ()), ())))
def un_alike (x : pt_alike.M.X) : Int × List (coverT.den × coverT.den) × st_alike := (x.1.1, x.1.2.2.1.zip x.1.2.2.2.1, x.1.2.2.2, x.2)
def good_alike (x : pt_alike.M.X) : Prop := x.1.2.1 = (x.1.2.2.1.length : Int) ∧ x.1.2.2.1.length = x.1.2.2.2.1.length
def out_alike (_s : st_alike) : pt_alike.E.X := ((), ())
def dS_alike : st_alike := (dfP _, dfM _)
def dR_alike : pt_alike.R.X := (dfP _, dfM _)
theorem loop_alike : Does Try.prog (.loop (loopF Try.f97 0)) pt_alike.M pt_alike (FL step_alike un_alike good_alike out_alike Rd.back dS_alike dR_alike) := by
  refine Does.list sem_alike step_alike un_alike good_alike out_alike Rd.back dS_alike dR_alike ?_ ?_
  · rintro ⟨⟨i, n, l, s⟩, m⟩ hg h0 h1 hb e he Q h
    obtain ⟨hg, hz⟩ : n = (l.length : Int) ∧ l.length = s.1.length := hg
    subst hg
    have h0 : 0 ≤ i := h0
    have h1 : i < (l.length : Int) := zip_lt hz h1
    have hb : (l.length : Int) ≤ 9223372036854775807 := zip_le hz hb
    have h1z : i < (s.1.length : Int) := by rw [← hz]; exact h1
    have hd : l.getD i.toNat coverT.dflt = e.1 := getD_of (zip_fst he)
    have hdz : s.1.getD i.toNat coverT.dflt = e.2 := getD_of (zip_snd he)
    have hw := wrap_next h0 h1 hb
    dsimp only [un_alike, step_alike, fr_alike, Fr.satP] at h ⊢
    simp only [hd, hw, hdz] at h ⊢
    refine ⟨fun _ => ?_, fun hn => absurd h1 (of_decide_eq_false hn)⟩
    repeat' first
      | exact h
      | exact ⟨h0, h1⟩
      | exact fun _ => ⟨h0, h1⟩
      | exact ⟨h0, h1z⟩
      | exact fun _ => ⟨h0, h1z⟩
      | exact h _ rfl ⟨rfl, hz⟩
      | refine ⟨?_, ?_⟩
      | (intro (hc : _ = true); replace h := h.1 hc)
      | (intro (hc : _ = false); replace h := h.2 hc)
  · rintro ⟨⟨i, n, l, s⟩, m⟩ hg h1 Q h
    obtain ⟨hg, hz⟩ : n = (l.length : Int) ∧ l.length = s.1.length := hg
    subst hg
    exact ⟨fun hn => absurd (of_decide_eq_true hn) (zip_nlt hz h1), fun _ => h⟩
def Λ_alike (Γ : FuncId → Option Ct) : St → Option Tr := pt_alike.han Γ pt_alike.M (FL step_alike un_alike good_alike out_alike Rd.back dS_alike dR_alike)
def res_alike (y : pt_alike.M.X) : st_alike ⊕ pt_alike.R.X := goL step_alike ((un_alike y).2.1.drop (un_alike y).1.toNat) (un_alike y).2.2
def okr_alike (y : pt_alike.M.X) : Prop := okL step_alike ((un_alike y).2.1.drop (un_alike y).1.toNat) (un_alike y).2.2

abbrev pt_terms_Covers : Pt := ⟨32, 0, ⟨[(8, .d i64), (7, .d i64), (6, .d (.sl coverT)), (0, .d (.sl coverT)), (3, .d i64)], []⟩, ⟨[(0, .d (.sl coverT))], []⟩, ⟨[(2, .d .bool)], []⟩⟩
def fr_terms_Covers (x : pt_terms_Covers.M.X) : Fr pt_terms_Covers.Out :=
  Fr.br (decide (x.fst.fst < x.fst.snd.fst)) (Fr.need (0 ≤ x.fst.fst ∧ x.fst.fst < ↑(List.length x.fst.snd.snd.fst)) (Fr.br (bif decide ((List.getD x.fst.snd.snd.fst (Int.toNat x.fst.fst) coverT.dflt).fst ≤ x.fst.snd.snd.snd.snd.fst) then true else !(cCover.f (((List.getD x.fst.snd.snd.fst (Int.toNat x.fst.fst) coverT.dflt).fst, (List.getD x.fst.snd.snd.fst (Int.toNat x.fst.fst) coverT.dflt).snd.fst, (List.getD x.fst.snd.snd.fst (Int.toNat x.fst.fst) coverT.dflt).snd.snd.fst, (List.getD x.fst.snd.snd.fst (Int.toNat x.fst.fst) coverT.dflt).snd.snd.snd.fst, (List.getD x.fst.snd.snd.fst (Int.toNat x.fst.fst) coverT.dflt).snd.snd.snd.snd.fst, ()), ())).fst) (Fr.val (Rd.back ((false, ()), ()))) (Fr.val (Rd.next ((IntKind.i64.wrap (x.fst.fst + 1), x.fst.snd.fst, x.fst.snd.snd.fst, x.fst.snd.snd.snd.fst, (List.getD x.fst.snd.snd.fst (Int.toNat x.fst.fst) coverT.dflt).fst, ()), ()))))) (Fr.val (Rd.out ((x.fst.snd.snd.snd.fst, ()), ())))
theorem sem_terms_Covers : Does Try.prog (loopF Try.f94 0) pt_terms_Covers.M pt_terms_Covers fr_terms_Covers :=
  Does.of_run CH4_ok (bs := 0) (Λ := lam0) rfl rfl rfl (fun E => lam0_ok _ 0) (fun x => by kernel_rfl)
abbrev st_terms_Covers : Type := denP [.d (.sl coverT), .d i64] × denM []
def step_terms_Covers (e : coverT.den) (s : st_terms_Covers) : Fr (st_terms_Covers ⊕ pt_terms_Covers.R.X) :=
  Fr.br (bif decide (e.fst ≤ s.fst.snd.fst) then true else !(cCover.f ((e.fst, e.snd.fst, e.snd.snd.fst, e.snd.snd.snd.fst, e.snd.snd.snd.snd.fst, ()), ())).fst) (Fr.val (.inr ((false, ()), ()))) (Fr.val (.inl ((s.fst.fst, e.fst, ()), ())))
def un_terms_Covers (x : pt_terms_Covers.M.X) : Int × List coverT.den × st_terms_Covers := (x.1.1, x.1.2.2.1, x.1.2.2.2, x.2)
def good_terms_Covers (x : pt_terms_Covers.M.X) : Prop := x.1.2.1 = (x.1.2.2.1.length : Int)
def out_terms_Covers (s : st_terms_Covers) : pt_terms_Covers.E.X := ((s.fst.fst, ()), ())
def dS_terms_Covers : st_terms_Covers := (dfP _, dfM _)
def dR_terms_Covers : pt_terms_Covers.R.X := (dfP _, dfM _)
theorem loop_terms_Covers : Does Try.prog (.loop (loopF Try.f94 0)) pt_terms_Covers.M pt_terms_Covers (FL step_terms_Covers un_terms_Covers good_terms_Covers out_terms_Covers Rd.back dS_terms_Covers dR_terms_Covers) := by
  refine Does.list sem_terms_Covers step_terms_Covers un_terms_Covers good_terms_Covers out_terms_Covers Rd.back dS_terms_Covers dR_terms_Covers ?_ ?_
  · rintro ⟨⟨i, n, l, s⟩, m⟩ hg h0 h1 hb e he Q h
    have hg : n = (l.length : Int) := hg
    subst hg
    have h0 : 0 ≤ i := h0
    have h1 : i < (l.length : Int) := h1
    have hb : (l.length : Int) ≤ 9223372036854775807 := hb
    have hd : l.getD i.toNat coverT.dflt = e := getD_of he
    have hw := wrap_next h0 h1 hb
    dsimp only [un_terms_Covers, step_terms_Covers, fr_terms_Covers, Fr.satP] at h ⊢
    simp only [hd, hw] at h ⊢
    refine ⟨fun _ => ?_, fun hn => absurd h1 (of_decide_eq_false hn)⟩
    repeat' first
      | exact h
      | exact ⟨h0, h1⟩
      | exact fun _ => ⟨h0, h1⟩
      | exact h _ rfl rfl
      | refine ⟨?_, ?_⟩
      | (intro (hc : _ = true); replace h := h.1 hc)
      | (intro (hc : _ = false); replace h := h.2 hc)
  · rintro ⟨⟨i, n, l, s⟩, m⟩ hg h1 Q h
    have hg : n = (l.length : Int) := hg
    subst hg
    exact ⟨fun hn => absurd (of_decide_eq_true hn) h1, fun _ => h⟩
def Λ_terms_Covers (Γ : FuncId → Option Ct) : St → Option Tr := pt_terms_Covers.han Γ pt_terms_Covers.M (FL step_terms_Covers un_terms_Covers good_terms_Covers out_terms_Covers Rd.back dS_terms_Covers dR_terms_Covers)
def res_terms_Covers (y : pt_terms_Covers.M.X) : st_terms_Covers ⊕ pt_terms_Covers.R.X := goL step_terms_Covers ((un_terms_Covers y).2.1.drop (un_terms_Covers y).1.toNat) (un_terms_Covers y).2.2
def okr_terms_Covers (y : pt_terms_Covers.M.X) : Prop := okL step_terms_Covers ((un_terms_Covers y).2.1.drop (un_terms_Covers y).1.toNat) (un_terms_Covers y).2.2

abbrev pt_r10_Covers : Pt := ⟨40, 0, ⟨[(3, .d i64), (0, .d (.sl coverT))], []⟩, ⟨[], []⟩, ⟨[(2, .d .bool)], []⟩⟩
def fr_r10_Covers (x : pt_r10_Covers.M.X) : Fr pt_r10_Covers.Out :=
  Fr.br (decide (x.fst.fst < ↑(List.length x.fst.snd.fst))) (Fr.need (0 ≤ x.fst.fst ∧ x.fst.fst < ↑(List.length x.fst.snd.fst)) (Fr.br (!(cCover.f (((List.getD x.fst.snd.fst (Int.toNat x.fst.fst) coverT.dflt).fst, (List.getD x.fst.snd.fst (Int.toNat x.fst.fst) coverT.dflt).snd.fst, (List.getD x.fst.snd.fst (Int.toNat x.fst.fst) coverT.dflt).snd.snd.fst, (List.getD x.fst.snd.fst (Int.toNat x.fst.fst) coverT.dflt).snd.snd.snd.fst, (List.getD x.fst.snd.fst (Int.toNat x.fst.fst) coverT.dflt).snd.snd.snd.snd.fst, ()), ())).fst) (Fr.val (Rd.back ((false, ()), ()))) (Fr.br (decide (x.fst.fst > 0)) (Fr.need (0 ≤ x.fst.fst ∧ x.fst.fst < ↑(List.length x.fst.snd.fst)) (Fr.need (0 ≤ IntKind.i64.wrap (x.fst.fst - 1) ∧ IntKind.i64.wrap (x.fst.fst - 1) < ↑(List.length x.fst.snd.fst)) (Fr.br (decide ((List.getD x.fst.snd.fst (Int.toNat x.fst.fst) coverT.dflt).fst ≤ (List.getD x.fst.snd.fst (IntKind.i64.wrap (x.fst.fst - 1)).toNat coverT.dflt).fst)) (Fr.val (Rd.back ((false, ()), ()))) (Fr.val (Rd.next ((IntKind.i64.wrap (x.fst.fst + 1), x.fst.snd.fst, ()), ())))))) (Fr.val (Rd.next ((IntKind.i64.wrap (x.fst.fst + 1), x.fst.snd.fst, ()), ())))))) (Fr.val (Rd.out ((), ())))
theorem sem_r10_Covers : Does Try.prog (loopF Try.f128 0) pt_r10_Covers.M pt_r10_Covers fr_r10_Covers :=
  Does.of_run CH4_ok (bs := 0) (Λ := lam0) rfl rfl rfl (fun E => lam0_ok _ 0) (fun x => by kernel_rfl)
abbrev st_r10_Covers : Type := (denP [] × denM []) × Int × coverT.den
def step_r10_Covers (e : coverT.den) (s : st_r10_Covers) : Fr (st_r10_Covers ⊕ pt_r10_Covers.R.X) :=
  Fr.br (!(cCover.f ((e.fst, e.snd.fst, e.snd.snd.fst, e.snd.snd.snd.fst, e.snd.snd.snd.snd.fst, ()), ())).fst) (Fr.val (.inr ((false, ()), ()))) (Fr.br (decide (s.snd.fst > 0)) (Fr.br (decide (e.fst ≤ s.snd.snd.fst)) (Fr.val (.inr ((false, ()), ()))) (Fr.val (.inl (((), ()), s.snd.fst + 1, e)))) (Fr.val (.inl (((), ()), s.snd.fst + 1, e))))
def un_r10_Covers (x : pt_r10_Covers.M.X) : Int × List coverT.den × st_r10_Covers := (x.1.1, x.1.2.1, (x.1.2.2, x.2), x.1.1, x.1.2.1.getD (x.1.1 - 1).toNat coverT.dflt)
def good_r10_Covers (_x : pt_r10_Covers.M.X) : Prop := True
def out_r10_Covers (_s : st_r10_Covers) : pt_r10_Covers.E.X := ((), ())
def dS_r10_Covers : st_r10_Covers := ((dfP _, dfM _), 0, coverT.dflt)
def dR_r10_Covers : pt_r10_Covers.R.X := (dfP _, dfM _)
theorem loop_r10_Covers : Does Try.prog (.loop (loopF Try.f128 0)) pt_r10_Covers.M pt_r10_Covers (FL step_r10_Covers un_r10_Covers good_r10_Covers out_r10_Covers Rd.back dS_r10_Covers dR_r10_Covers) := by
  refine Does.list sem_r10_Covers step_r10_Covers un_r10_Covers good_r10_Covers out_r10_Covers Rd.back dS_r10_Covers dR_r10_Covers ?_ ?_
  · rintro ⟨⟨i, l, s⟩, m⟩ hg h0 h1 hb e he Q h
    have h0 : 0 ≤ i := h0
    have h1 : i < (l.length : Int) := h1
    have hb : (l.length : Int) ≤ 9223372036854775807 := hb
    have hd : l.getD i.toNat coverT.dflt = e := getD_of he
    have hq1 := prev_wrap h0 h1 hb
    have hq2 := prev_get hd
    have hq3 : ∀ {b : Bool}, b = decide (i > 0) → b = true → 0 ≤ i - 1 ∧ i - 1 < (l.length : Int) := fun hb1 hb2 => prev_in h1 hb1 hb2
    have hw := wrap_next h0 h1 hb
    dsimp only [un_r10_Covers, step_r10_Covers, fr_r10_Covers, Fr.satP] at h ⊢
    simp only [hd, hw, hq1] at h ⊢
    refine ⟨fun _ => ?_, fun hn => absurd h1 (of_decide_eq_false hn)⟩
    repeat' first
      | exact h
      | exact ⟨h0, h1⟩
      | exact fun _ => ⟨h0, h1⟩
      | exact hq3 rfl (by assumption)
      | (refine h _ ?_ trivial; simp only [hq2])
      | refine ⟨?_, ?_⟩
      | (intro (hc : _ = true); replace h := h.1 hc)
      | (intro (hc : _ = false); replace h := h.2 hc)
  · rintro ⟨⟨i, l, s⟩, m⟩ hg h1 Q h
    exact ⟨fun hn => absurd (of_decide_eq_true hn) h1, fun _ => h⟩
def Λ_r10_Covers (Γ : FuncId → Option Ct) : St → Option Tr := pt_r10_Covers.han Γ pt_r10_Covers.M (FL step_r10_Covers un_r10_Covers good_r10_Covers out_r10_Covers Rd.back dS_r10_Covers dR_r10_Covers)
def res_r10_Covers (y : pt_r10_Covers.M.X) : st_r10_Covers ⊕ pt_r10_Covers.R.X := goL step_r10_Covers ((un_r10_Covers y).2.1.drop (un_r10_Covers y).1.toNat) (un_r10_Covers y).2.2
def okr_r10_Covers (y : pt_r10_Covers.M.X) : Prop := okL step_r10_Covers ((un_r10_Covers y).2.1.drop (un_r10_Covers y).1.toNat) (un_r10_Covers y).2.2

abbrev pt_risk_Bands : Pt := ⟨37, 0, ⟨[(8, .d i64), (7, .d i64), (6, .d (.sl bandT)), (0, .d (.sl bandT)), (3, .d i64)], []⟩, ⟨[(0, .d (.sl bandT))], []⟩, ⟨[(2, .d .bool)], []⟩⟩
def fr_risk_Bands (x : pt_risk_Bands.M.X) : Fr pt_risk_Bands.Out :=
  Fr.br (decide (x.fst.fst < x.fst.snd.fst)) (Fr.need (0 ≤ x.fst.fst ∧ x.fst.fst < ↑(List.length x.fst.snd.snd.fst)) (Fr.br (bif bif bif decide ((List.getD x.fst.snd.snd.fst (Int.toNat x.fst.fst) bandT.dflt).fst ≤ x.fst.snd.snd.snd.snd.fst) then true else decide ((List.getD x.fst.snd.snd.fst (Int.toNat x.fst.fst) bandT.dflt).fst > 200) then true else decide ((List.getD x.fst.snd.snd.fst (Int.toNat x.fst.fst) bandT.dflt).snd.fst < 0) then true else decide ((List.getD x.fst.snd.snd.fst (Int.toNat x.fst.fst) bandT.dflt).snd.fst > 100000)) (Fr.val (Rd.back ((false, ()), ()))) (Fr.val (Rd.next ((IntKind.i64.wrap (x.fst.fst + 1), x.fst.snd.fst, x.fst.snd.snd.fst, x.fst.snd.snd.snd.fst, (List.getD x.fst.snd.snd.fst (Int.toNat x.fst.fst) bandT.dflt).fst, ()), ()))))) (Fr.val (Rd.out ((x.fst.snd.snd.snd.fst, ()), ())))
theorem sem_risk_Bands : Does Try.prog (loopF Try.f114 0) pt_risk_Bands.M pt_risk_Bands fr_risk_Bands :=
  Does.of_run CH4_ok (bs := 0) (Λ := lam0) rfl rfl rfl (fun E => lam0_ok _ 0) (fun x => by kernel_rfl)
abbrev st_risk_Bands : Type := denP [.d (.sl bandT), .d i64] × denM []
def step_risk_Bands (e : bandT.den) (s : st_risk_Bands) : Fr (st_risk_Bands ⊕ pt_risk_Bands.R.X) :=
  Fr.br (bif bif bif decide (e.fst ≤ s.fst.snd.fst) then true else decide (e.fst > 200) then true else decide (e.snd.fst < 0) then true else decide (e.snd.fst > 100000)) (Fr.val (.inr ((false, ()), ()))) (Fr.val (.inl ((s.fst.fst, e.fst, ()), ())))
def un_risk_Bands (x : pt_risk_Bands.M.X) : Int × List bandT.den × st_risk_Bands := (x.1.1, x.1.2.2.1, x.1.2.2.2, x.2)
def good_risk_Bands (x : pt_risk_Bands.M.X) : Prop := x.1.2.1 = (x.1.2.2.1.length : Int)
def out_risk_Bands (s : st_risk_Bands) : pt_risk_Bands.E.X := ((s.fst.fst, ()), ())
def dS_risk_Bands : st_risk_Bands := (dfP _, dfM _)
def dR_risk_Bands : pt_risk_Bands.R.X := (dfP _, dfM _)
theorem loop_risk_Bands : Does Try.prog (.loop (loopF Try.f114 0)) pt_risk_Bands.M pt_risk_Bands (FL step_risk_Bands un_risk_Bands good_risk_Bands out_risk_Bands Rd.back dS_risk_Bands dR_risk_Bands) := by
  refine Does.list sem_risk_Bands step_risk_Bands un_risk_Bands good_risk_Bands out_risk_Bands Rd.back dS_risk_Bands dR_risk_Bands ?_ ?_
  · rintro ⟨⟨i, n, l, s⟩, m⟩ hg h0 h1 hb e he Q h
    have hg : n = (l.length : Int) := hg
    subst hg
    have h0 : 0 ≤ i := h0
    have h1 : i < (l.length : Int) := h1
    have hb : (l.length : Int) ≤ 9223372036854775807 := hb
    have hd : l.getD i.toNat bandT.dflt = e := getD_of he
    have hw := wrap_next h0 h1 hb
    dsimp only [un_risk_Bands, step_risk_Bands, fr_risk_Bands, Fr.satP] at h ⊢
    simp only [hd, hw] at h ⊢
    refine ⟨fun _ => ?_, fun hn => absurd h1 (of_decide_eq_false hn)⟩
    repeat' first
      | exact h
      | exact ⟨h0, h1⟩
      | exact fun _ => ⟨h0, h1⟩
      | exact h _ rfl rfl
      | refine ⟨?_, ?_⟩
      | (intro (hc : _ = true); replace h := h.1 hc)
      | (intro (hc : _ = false); replace h := h.2 hc)
  · rintro ⟨⟨i, n, l, s⟩, m⟩ hg h1 Q h
    have hg : n = (l.length : Int) := hg
    subst hg
    exact ⟨fun hn => absurd (of_decide_eq_true hn) h1, fun _ => h⟩
def Λ_risk_Bands (Γ : FuncId → Option Ct) : St → Option Tr := pt_risk_Bands.han Γ pt_risk_Bands.M (FL step_risk_Bands un_risk_Bands good_risk_Bands out_risk_Bands Rd.back dS_risk_Bands dR_risk_Bands)
def res_risk_Bands (y : pt_risk_Bands.M.X) : st_risk_Bands ⊕ pt_risk_Bands.R.X := goL step_risk_Bands ((un_risk_Bands y).2.1.drop (un_risk_Bands y).1.toNat) (un_risk_Bands y).2.2
def okr_risk_Bands (y : pt_risk_Bands.M.X) : Prop := okL step_risk_Bands ((un_risk_Bands y).2.1.drop (un_risk_Bands y).1.toNat) (un_risk_Bands y).2.2

abbrev pt_r06_Bands : Pt := ⟨57, 0, ⟨[(3, .d i64), (0, .d (.sl bandT))], []⟩, ⟨[], []⟩, ⟨[(2, .d .bool)], []⟩⟩
def fr_r06_Bands (x : pt_r06_Bands.M.X) : Fr pt_r06_Bands.Out :=
  Fr.br (decide (x.fst.fst < ↑(List.length x.fst.snd.fst))) (Fr.need (0 ≤ x.fst.fst ∧ x.fst.fst < ↑(List.length x.fst.snd.fst)) (Fr.need (decide ((List.getD x.fst.snd.fst (Int.toNat x.fst.fst) bandT.dflt).fst < 0) = false → 0 ≤ x.fst.fst ∧ x.fst.fst < ↑(List.length x.fst.snd.fst)) (Fr.need ((bif decide ((List.getD x.fst.snd.fst (Int.toNat x.fst.fst) bandT.dflt).fst < 0) then true else decide ((List.getD x.fst.snd.fst (Int.toNat x.fst.fst) bandT.dflt).fst > 200)) = false → 0 ≤ x.fst.fst ∧ x.fst.fst < ↑(List.length x.fst.snd.fst)) (Fr.need ((bif bif decide ((List.getD x.fst.snd.fst (Int.toNat x.fst.fst) bandT.dflt).fst < 0) then true else decide ((List.getD x.fst.snd.fst (Int.toNat x.fst.fst) bandT.dflt).fst > 200) then true else decide ((List.getD x.fst.snd.fst (Int.toNat x.fst.fst) bandT.dflt).snd.fst < 0)) = false → 0 ≤ x.fst.fst ∧ x.fst.fst < ↑(List.length x.fst.snd.fst)) (Fr.br (bif bif bif decide ((List.getD x.fst.snd.fst (Int.toNat x.fst.fst) bandT.dflt).fst < 0) then true else decide ((List.getD x.fst.snd.fst (Int.toNat x.fst.fst) bandT.dflt).fst > 200) then true else decide ((List.getD x.fst.snd.fst (Int.toNat x.fst.fst) bandT.dflt).snd.fst < 0) then true else decide ((List.getD x.fst.snd.fst (Int.toNat x.fst.fst) bandT.dflt).snd.fst > 100000)) (Fr.val (Rd.back ((false, ()), ()))) (Fr.br (decide (x.fst.fst > 0)) (Fr.need (0 ≤ x.fst.fst ∧ x.fst.fst < ↑(List.length x.fst.snd.fst)) (Fr.need (0 ≤ IntKind.i64.wrap (x.fst.fst - 1) ∧ IntKind.i64.wrap (x.fst.fst - 1) < ↑(List.length x.fst.snd.fst)) (Fr.br (decide ((List.getD x.fst.snd.fst (Int.toNat x.fst.fst) bandT.dflt).fst ≤ (List.getD x.fst.snd.fst (IntKind.i64.wrap (x.fst.fst - 1)).toNat bandT.dflt).fst)) (Fr.val (Rd.back ((false, ()), ()))) (Fr.val (Rd.next ((IntKind.i64.wrap (x.fst.fst + 1), x.fst.snd.fst, ()), ())))))) (Fr.val (Rd.next ((IntKind.i64.wrap (x.fst.fst + 1), x.fst.snd.fst, ()), ()))))))))) (Fr.val (Rd.out ((), ())))
theorem sem_r06_Bands : Does Try.prog (loopF Try.f149 0) pt_r06_Bands.M pt_r06_Bands fr_r06_Bands :=
  Does.of_run CH4_ok (bs := 0) (Λ := lam0) rfl rfl rfl (fun E => lam0_ok _ 0) (fun x => by kernel_rfl)
abbrev st_r06_Bands : Type := (denP [] × denM []) × Int × bandT.den
def step_r06_Bands (e : bandT.den) (s : st_r06_Bands) : Fr (st_r06_Bands ⊕ pt_r06_Bands.R.X) :=
  Fr.br (bif bif bif decide (e.fst < 0) then true else decide (e.fst > 200) then true else decide (e.snd.fst < 0) then true else decide (e.snd.fst > 100000)) (Fr.val (.inr ((false, ()), ()))) (Fr.br (decide (s.snd.fst > 0)) (Fr.br (decide (e.fst ≤ s.snd.snd.fst)) (Fr.val (.inr ((false, ()), ()))) (Fr.val (.inl (((), ()), s.snd.fst + 1, e)))) (Fr.val (.inl (((), ()), s.snd.fst + 1, e))))
def un_r06_Bands (x : pt_r06_Bands.M.X) : Int × List bandT.den × st_r06_Bands := (x.1.1, x.1.2.1, (x.1.2.2, x.2), x.1.1, x.1.2.1.getD (x.1.1 - 1).toNat bandT.dflt)
def good_r06_Bands (_x : pt_r06_Bands.M.X) : Prop := True
def out_r06_Bands (_s : st_r06_Bands) : pt_r06_Bands.E.X := ((), ())
def dS_r06_Bands : st_r06_Bands := ((dfP _, dfM _), 0, bandT.dflt)
def dR_r06_Bands : pt_r06_Bands.R.X := (dfP _, dfM _)
theorem loop_r06_Bands : Does Try.prog (.loop (loopF Try.f149 0)) pt_r06_Bands.M pt_r06_Bands (FL step_r06_Bands un_r06_Bands good_r06_Bands out_r06_Bands Rd.back dS_r06_Bands dR_r06_Bands) := by
  refine Does.list sem_r06_Bands step_r06_Bands un_r06_Bands good_r06_Bands out_r06_Bands Rd.back dS_r06_Bands dR_r06_Bands ?_ ?_
  · rintro ⟨⟨i, l, s⟩, m⟩ hg h0 h1 hb e he Q h
    have h0 : 0 ≤ i := h0
    have h1 : i < (l.length : Int) := h1
    have hb : (l.length : Int) ≤ 9223372036854775807 := hb
    have hd : l.getD i.toNat bandT.dflt = e := getD_of he
    have hq1 := prev_wrap h0 h1 hb
    have hq2 := prev_get hd
    have hq3 : ∀ {b : Bool}, b = decide (i > 0) → b = true → 0 ≤ i - 1 ∧ i - 1 < (l.length : Int) := fun hb1 hb2 => prev_in h1 hb1 hb2
    have hw := wrap_next h0 h1 hb
    dsimp only [un_r06_Bands, step_r06_Bands, fr_r06_Bands, Fr.satP] at h ⊢
    simp only [hd, hw, hq1] at h ⊢
    refine ⟨fun _ => ?_, fun hn => absurd h1 (of_decide_eq_false hn)⟩
    repeat' first
      | exact h
      | exact ⟨h0, h1⟩
      | exact fun _ => ⟨h0, h1⟩
      | exact hq3 rfl (by assumption)
      | (refine h _ ?_ trivial; simp only [hq2])
      | refine ⟨?_, ?_⟩
      | (intro (hc : _ = true); replace h := h.1 hc)
      | (intro (hc : _ = false); replace h := h.2 hc)
  · rintro ⟨⟨i, l, s⟩, m⟩ hg h1 Q h
    exact ⟨fun hn => absurd (of_decide_eq_true hn) h1, fun _ => h⟩
def Λ_r06_Bands (Γ : FuncId → Option Ct) : St → Option Tr := pt_r06_Bands.han Γ pt_r06_Bands.M (FL step_r06_Bands un_r06_Bands good_r06_Bands out_r06_Bands Rd.back dS_r06_Bands dR_r06_Bands)
def res_r06_Bands (y : pt_r06_Bands.M.X) : st_r06_Bands ⊕ pt_r06_Bands.R.X := goL step_r06_Bands ((un_r06_Bands y).2.1.drop (un_r06_Bands y).1.toNat) (un_r06_Bands y).2.2
def okr_r06_Bands (y : pt_r06_Bands.M.X) : Prop := okL step_r06_Bands ((un_r06_Bands y).2.1.drop (un_r06_Bands y).1.toNat) (un_r06_Bands y).2.2

abbrev pt_r07_factors : Pt := ⟨22, 0, ⟨[(3, .d i64), (0, .d ints)], []⟩, ⟨[], []⟩, ⟨[(2, .d .bool)], []⟩⟩
def fr_r07_factors (x : pt_r07_factors.M.X) : Fr pt_r07_factors.Out :=
  Fr.br (decide (x.fst.fst < ↑(List.length x.fst.snd.fst))) (Fr.need (0 ≤ x.fst.fst ∧ x.fst.fst < ↑(List.length x.fst.snd.fst)) (Fr.need (decide (List.getD x.fst.snd.fst (Int.toNat x.fst.fst) i64.dflt < 0) = false → 0 ≤ x.fst.fst ∧ x.fst.fst < ↑(List.length x.fst.snd.fst)) (Fr.br (bif decide (List.getD x.fst.snd.fst (Int.toNat x.fst.fst) i64.dflt < 0) then true else decide (List.getD x.fst.snd.fst (Int.toNat x.fst.fst) i64.dflt > 100000)) (Fr.val (Rd.back ((false, ()), ()))) (Fr.val (Rd.next ((IntKind.i64.wrap (x.fst.fst + 1), x.fst.snd.fst, ()), ())))))) (Fr.val (Rd.out ((), ())))
theorem sem_r07_factors : Does Try.prog (loopF Try.f150 0) pt_r07_factors.M pt_r07_factors fr_r07_factors :=
  Does.of_run CH4_ok (bs := 0) (Λ := lam0) rfl rfl rfl (fun E => lam0_ok _ 0) (fun x => by kernel_rfl)
abbrev st_r07_factors : Type := denP [] × denM []
def step_r07_factors (e : i64.den) (_s : st_r07_factors) : Fr (st_r07_factors ⊕ pt_r07_factors.R.X) :=
  Fr.br (bif decide (e < 0) then true else decide (e > 100000)) (Fr.val (.inr ((false, ()), ()))) (Fr.val (.inl ((), ())))
def un_r07_factors (x : pt_r07_factors.M.X) : Int × List i64.den × st_r07_factors := (x.1.1, x.1.2.1, x.1.2.2, x.2)
def good_r07_factors (_x : pt_r07_factors.M.X) : Prop := True
def out_r07_factors (_s : st_r07_factors) : pt_r07_factors.E.X := ((), ())
def dS_r07_factors : st_r07_factors := (dfP _, dfM _)
def dR_r07_factors : pt_r07_factors.R.X := (dfP _, dfM _)
theorem loop_r07_factors : Does Try.prog (.loop (loopF Try.f150 0)) pt_r07_factors.M pt_r07_factors (FL step_r07_factors un_r07_factors good_r07_factors out_r07_factors Rd.back dS_r07_factors dR_r07_factors) := by
  refine Does.list sem_r07_factors step_r07_factors un_r07_factors good_r07_factors out_r07_factors Rd.back dS_r07_factors dR_r07_factors ?_ ?_
  · rintro ⟨⟨i, l, s⟩, m⟩ hg h0 h1 hb e he Q h
    have h0 : 0 ≤ i := h0
    have h1 : i < (l.length : Int) := h1
    have hb : (l.length : Int) ≤ 9223372036854775807 := hb
    have hd : l.getD i.toNat i64.dflt = e := getD_of he
    have hw := wrap_next h0 h1 hb
    dsimp only [un_r07_factors, step_r07_factors, fr_r07_factors, Fr.satP] at h ⊢
    simp only [hd, hw] at h ⊢
    refine ⟨fun _ => ?_, fun hn => absurd h1 (of_decide_eq_false hn)⟩
    repeat' first
      | exact h
      | exact ⟨h0, h1⟩
      | exact fun _ => ⟨h0, h1⟩
      | exact h _ rfl trivial
      | refine ⟨?_, ?_⟩
      | (intro (hc : _ = true); replace h := h.1 hc)
      | (intro (hc : _ = false); replace h := h.2 hc)
  · rintro ⟨⟨i, l, s⟩, m⟩ hg h1 Q h
    exact ⟨fun hn => absurd (of_decide_eq_true hn) h1, fun _ => h⟩
def Λ_r07_factors (Γ : FuncId → Option Ct) : St → Option Tr := pt_r07_factors.han Γ pt_r07_factors.M (FL step_r07_factors un_r07_factors good_r07_factors out_r07_factors Rd.back dS_r07_factors dR_r07_factors)
def res_r07_factors (y : pt_r07_factors.M.X) : st_r07_factors ⊕ pt_r07_factors.R.X := goL step_r07_factors ((un_r07_factors y).2.1.drop (un_r07_factors y).1.toNat) (un_r07_factors y).2.2
def okr_r07_factors (y : pt_r07_factors.M.X) : Prop := okL step_r07_factors ((un_r07_factors y).2.1.drop (un_r07_factors y).1.toNat) (un_r07_factors y).2.2

end Go.Proofs.Ytbplccbjgfappaa

/-
  Lists of covers and of bands; factors: what each function answers.
-/
namespace Go.Proofs.Ytbplccbjgfappaa
open Go Go.Ab Go.RowKit Go.Proofs

def ff_terms_Find (x : denP [.d (.sl coverT), .d i64]) : Fr (denL [coverT, .bool]) :=
  Fr.need (InL (good_terms_Find ((0, ((List.length x.fst) : Int), x.fst, x.snd.fst, ()), (0, 0, 0, 0, 0, ()), ())) (un_terms_Find ((0, ((List.length x.fst) : Int), x.fst, x.snd.fst, ()), (0, 0, 0, 0, 0, ()), ()))) (Fr.need (okr_terms_Find ((0, ((List.length x.fst) : Int), x.fst, x.snd.fst, ()), (0, 0, 0, 0, 0, ()), ())) (Fr.br (isL (res_terms_Find ((0, ((List.length x.fst) : Int), x.fst, x.snd.fst, ()), (0, 0, 0, 0, 0, ()), ()))) (Fr.val ((0, 0, 0, 0, 0, ()), false, ())) (Fr.val (((getR dR_terms_Find (res_terms_Find ((0, ((List.length x.fst) : Int), x.fst, x.snd.fst, ()), (0, 0, 0, 0, 0, ()), ()))).snd.fst.fst, (getR dR_terms_Find (res_terms_Find ((0, ((List.length x.fst) : Int), x.fst, x.snd.fst, ()), (0, 0, 0, 0, 0, ()), ()))).snd.fst.snd.fst, (getR dR_terms_Find (res_terms_Find ((0, ((List.length x.fst) : Int), x.fst, x.snd.fst, ()), (0, 0, 0, 0, 0, ()), ()))).snd.fst.snd.snd.fst, (getR dR_terms_Find (res_terms_Find ((0, ((List.length x.fst) : Int), x.fst, x.snd.fst, ()), (0, 0, 0, 0, 0, ()), ()))).snd.fst.snd.snd.snd.fst, (getR dR_terms_Find (res_terms_Find ((0, ((List.length x.fst) : Int), x.fst, x.snd.fst, ()), (0, 0, 0, 0, 0, ()), ()))).snd.fst.snd.snd.snd.snd.fst, ()), (getR dR_terms_Find (res_terms_Find ((0, ((List.length x.fst) : Int), x.fst, x.snd.fst, ()), (0, 0, 0, 0, 0, ()), ()))).fst.fst, ()))))
theorem ff_terms_Find_ok : SoundCt Try.prog 61 ⟨[.d (.sl coverT), .d i64], [coverT, .bool], fun xs => (ff_terms_Find xs).get, fun xs => [(ff_terms_Find xs).ok]⟩ :=
  fn_sound CH4_ok (Λ := (fun _ => Λ_terms_Find CH4.Γ)) (fn := Try.f61) (dfP [.d (.sl coverT), .d i64]) (by kernel_rfl) (fun c E hc => lam1f hc (by kernel_rfl) (b := loopF Try.f61 0) (by kernel_rfl) (Does.han CH4_ok rfl loop_terms_Find)) (fun x => by kernel_rfl)

def ff_r10_Same (x : denP [.d (.sl coverT), .d (.sl coverT)]) : Fr (denL [.bool]) :=
  Fr.br (((List.length x.fst) : Int) != ((List.length x.snd.fst) : Int)) (Fr.val (false, ())) (Fr.need (InL (good_r10_Same ((0, x.fst, x.snd.fst, ()), ())) (un_r10_Same ((0, x.fst, x.snd.fst, ()), ()))) (Fr.need (okr_r10_Same ((0, x.fst, x.snd.fst, ()), ())) (Fr.br (isL (res_r10_Same ((0, x.fst, x.snd.fst, ()), ()))) (Fr.val (true, ())) (Fr.val ((getR dR_r10_Same (res_r10_Same ((0, x.fst, x.snd.fst, ()), ()))).fst.fst, ())))))
theorem ff_r10_Same_ok : SoundCt Try.prog 87 ⟨[.d (.sl coverT), .d (.sl coverT)], [.bool], fun xs => (ff_r10_Same xs).get, fun xs => [(ff_r10_Same xs).ok]⟩ :=
  fn_sound CH4_ok (Λ := (fun _ => Λ_r10_Same CH4.Γ)) (fn := Try.f87) (dfP [.d (.sl coverT), .d (.sl coverT)]) (by kernel_rfl) (fun c E hc => lam1f hc (by kernel_rfl) (b := loopF Try.f87 0) (by kernel_rfl) (Does.han CH4_ok rfl loop_r10_Same)) (fun x => by kernel_rfl)

def ff_alike (x : denP [.d (.sl coverT), .d (.sl coverT)]) : Fr (denL [.bool]) :=
  Fr.br (((List.length x.fst) : Int) != ((List.length x.snd.fst) : Int)) (Fr.val (false, ())) (Fr.need (InL (good_alike ((0, ((List.length x.fst) : Int), x.fst, x.snd.fst, ()), ())) (un_alike ((0, ((List.length x.fst) : Int), x.fst, x.snd.fst, ()), ()))) (Fr.need (okr_alike ((0, ((List.length x.fst) : Int), x.fst, x.snd.fst, ()), ())) (Fr.br (isL (res_alike ((0, ((List.length x.fst) : Int), x.fst, x.snd.fst, ()), ()))) (Fr.val (true, ())) (Fr.val ((getR dR_alike (res_alike ((0, ((List.length x.fst) : Int), x.fst, x.snd.fst, ()), ()))).fst.fst, ())))))
theorem ff_alike_ok : SoundCt Try.prog 97 ⟨[.d (.sl coverT), .d (.sl coverT)], [.bool], fun xs => (ff_alike xs).get, fun xs => [(ff_alike xs).ok]⟩ :=
  fn_sound CH4_ok (Λ := (fun _ => Λ_alike CH4.Γ)) (fn := Try.f97) (dfP [.d (.sl coverT), .d (.sl coverT)]) (by kernel_rfl) (fun c E hc => lam1f hc (by kernel_rfl) (b := loopF Try.f97 0) (by kernel_rfl) (Does.han CH4_ok rfl loop_alike)) (fun x => by kernel_rfl)

def ff_terms_Covers (x : denP [.d (.sl coverT)]) : Fr (denL [.bool]) :=
  Fr.need (InL (good_terms_Covers ((0, ((List.length x.fst) : Int), x.fst, x.fst, -1, ()), ())) (un_terms_Covers ((0, ((List.length x.fst) : Int), x.fst, x.fst, -1, ()), ()))) (Fr.need (okr_terms_Covers ((0, ((List.length x.fst) : Int), x.fst, x.fst, -1, ()), ())) (Fr.br (isL (res_terms_Covers ((0, ((List.length x.fst) : Int), x.fst, x.fst, -1, ()), ()))) (Fr.val (bif decide (((List.length (out_terms_Covers (getL dS_terms_Covers (res_terms_Covers ((0, ((List.length x.fst) : Int), x.fst, x.fst, -1, ()), ())))).fst.fst) : Int) ≥ 1) then decide (((List.length (out_terms_Covers (getL dS_terms_Covers (res_terms_Covers ((0, ((List.length x.fst) : Int), x.fst, x.fst, -1, ()), ())))).fst.fst) : Int) ≤ 8) else false, ())) (Fr.val ((getR dR_terms_Covers (res_terms_Covers ((0, ((List.length x.fst) : Int), x.fst, x.fst, -1, ()), ()))).fst.fst, ()))))
theorem ff_terms_Covers_ok : SoundCt Try.prog 94 ⟨[.d (.sl coverT)], [.bool], fun xs => (ff_terms_Covers xs).get, fun xs => [(ff_terms_Covers xs).ok]⟩ :=
  fn_sound CH4_ok (Λ := (fun _ => Λ_terms_Covers CH4.Γ)) (fn := Try.f94) (dfP [.d (.sl coverT)]) (by kernel_rfl) (fun c E hc => lam1f hc (by kernel_rfl) (b := loopF Try.f94 0) (by kernel_rfl) (Does.han CH4_ok rfl loop_terms_Covers)) (fun x => by kernel_rfl)

def ff_r10_Covers (x : denP [.d (.sl coverT)]) : Fr (denL [.bool]) :=
  Fr.br (bif decide (((List.length x.fst) : Int) < 1) then true else decide (((List.length x.fst) : Int) > 8)) (Fr.val (false, ())) (Fr.need (InL (good_r10_Covers ((0, x.fst, ()), ())) (un_r10_Covers ((0, x.fst, ()), ()))) (Fr.need (okr_r10_Covers ((0, x.fst, ()), ())) (Fr.br (isL (res_r10_Covers ((0, x.fst, ()), ()))) (Fr.val (true, ())) (Fr.val ((getR dR_r10_Covers (res_r10_Covers ((0, x.fst, ()), ()))).fst.fst, ())))))
theorem ff_r10_Covers_ok : SoundCt Try.prog 128 ⟨[.d (.sl coverT)], [.bool], fun xs => (ff_r10_Covers xs).get, fun xs => [(ff_r10_Covers xs).ok]⟩ :=
  fn_sound CH4_ok (Λ := (fun _ => Λ_r10_Covers CH4.Γ)) (fn := Try.f128) (dfP [.d (.sl coverT)]) (by kernel_rfl) (fun c E hc => lam1f hc (by kernel_rfl) (b := loopF Try.f128 0) (by kernel_rfl) (Does.han CH4_ok rfl loop_r10_Covers)) (fun x => by kernel_rfl)

def ff_risk_Bands (x : denP [.d (.sl bandT)]) : Fr (denL [.bool]) :=
  Fr.need (InL (good_risk_Bands ((0, ((List.length x.fst) : Int), x.fst, x.fst, -1, ()), ())) (un_risk_Bands ((0, ((List.length x.fst) : Int), x.fst, x.fst, -1, ()), ()))) (Fr.need (okr_risk_Bands ((0, ((List.length x.fst) : Int), x.fst, x.fst, -1, ()), ())) (Fr.br (isL (res_risk_Bands ((0, ((List.length x.fst) : Int), x.fst, x.fst, -1, ()), ()))) (Fr.val (decide (((List.length (out_risk_Bands (getL dS_risk_Bands (res_risk_Bands ((0, ((List.length x.fst) : Int), x.fst, x.fst, -1, ()), ())))).fst.fst) : Int) ≤ 100), ())) (Fr.val ((getR dR_risk_Bands (res_risk_Bands ((0, ((List.length x.fst) : Int), x.fst, x.fst, -1, ()), ()))).fst.fst, ()))))
theorem ff_risk_Bands_ok : SoundCt Try.prog 114 ⟨[.d (.sl bandT)], [.bool], fun xs => (ff_risk_Bands xs).get, fun xs => [(ff_risk_Bands xs).ok]⟩ :=
  fn_sound CH4_ok (Λ := (fun _ => Λ_risk_Bands CH4.Γ)) (fn := Try.f114) (dfP [.d (.sl bandT)]) (by kernel_rfl) (fun c E hc => lam1f hc (by kernel_rfl) (b := loopF Try.f114 0) (by kernel_rfl) (Does.han CH4_ok rfl loop_risk_Bands)) (fun x => by kernel_rfl)

def ff_r06_Bands (x : denP [.d (.sl bandT)]) : Fr (denL [.bool]) :=
  Fr.br (decide (((List.length x.fst) : Int) > 100)) (Fr.val (false, ())) (Fr.need (InL (good_r06_Bands ((0, x.fst, ()), ())) (un_r06_Bands ((0, x.fst, ()), ()))) (Fr.need (okr_r06_Bands ((0, x.fst, ()), ())) (Fr.br (isL (res_r06_Bands ((0, x.fst, ()), ()))) (Fr.val (true, ())) (Fr.val ((getR dR_r06_Bands (res_r06_Bands ((0, x.fst, ()), ()))).fst.fst, ())))))
theorem ff_r06_Bands_ok : SoundCt Try.prog 149 ⟨[.d (.sl bandT)], [.bool], fun xs => (ff_r06_Bands xs).get, fun xs => [(ff_r06_Bands xs).ok]⟩ :=
  fn_sound CH4_ok (Λ := (fun _ => Λ_r06_Bands CH4.Γ)) (fn := Try.f149) (dfP [.d (.sl bandT)]) (by kernel_rfl) (fun c E hc => lam1f hc (by kernel_rfl) (b := loopF Try.f149 0) (by kernel_rfl) (Does.han CH4_ok rfl loop_r06_Bands)) (fun x => by kernel_rfl)

def ff_r07_factors (x : denP [.d ints]) : Fr (denL [.bool]) :=
  Fr.need (InL (good_r07_factors ((0, x.fst, ()), ())) (un_r07_factors ((0, x.fst, ()), ()))) (Fr.need (okr_r07_factors ((0, x.fst, ()), ())) (Fr.br (isL (res_r07_factors ((0, x.fst, ()), ()))) (Fr.val (true, ())) (Fr.val ((getR dR_r07_factors (res_r07_factors ((0, x.fst, ()), ()))).fst.fst, ()))))
theorem ff_r07_factors_ok : SoundCt Try.prog 150 ⟨[.d ints], [.bool], fun xs => (ff_r07_factors xs).get, fun xs => [(ff_r07_factors xs).ok]⟩ :=
  fn_sound CH4_ok (Λ := (fun _ => Λ_r07_factors CH4.Γ)) (fn := Try.f150) (dfP [.d ints]) (by kernel_rfl) (fun c E hc => lam1f hc (by kernel_rfl) (b := loopF Try.f150 0) (by kernel_rfl) (Does.han CH4_ok rfl loop_r07_factors)) (fun x => by kernel_rfl)

theorem goL_keep {T σ ρ α : Type} {step : T → σ → Fr (σ ⊕ ρ)} {f : σ → α} {d : σ} (h : ∀ e s s', (step e s).get = .inl s' → f s' = f s) : (l : List T) → (s : σ) → isL (goL step l s) = true → f (getL d (goL step l s)) = f s
  | [], s, _ => rfl
  | e :: r, s, hh => by
    simp only [goL] at hh ⊢
    cases hg : (step e s).get with
    | inl s' =>
      simp only [hg] at hh ⊢
      rw [goL_keep h r s' hh, h e s s' hg]
    | inr y => simp only [hg] at hh; cases hh

theorem len_big {T : Type} {l : List T} (h : l.length ≤ maxLen) : (l.length : Int) ≤ 9223372036854775807 := by
  simp only [maxLen] at h
  omega

theorem wf_len {w : World} {F : Nat → Prop} {t : Ty} {l : List t.den} {v : Value} (h : RepP Try.prog w F (.d (.sl t)) l v) : (l.length : Int) ≤ 9223372036854775807 := len_big (RepT.wf (t := .sl t) h.2.2).1

/-- Factors that may be. -/
def factorsB (l : List Int) : Bool := l.all fun n => decide (0 ≤ n ∧ n ≤ 100000)
def cFactors : Ct := ⟨[.d ints], [.bool], fun x => (factorsB x.1, ()), fun _ => []⟩
theorem factors_go (l : List Int) : isL (goL step_r07_factors l ((), ())) = factorsB l := by
  induction l with
  | nil => rfl
  | cons e r ih =>
    have e1 : factorsB (e :: r) = (decide (0 ≤ e ∧ e ≤ 100000) && factorsB r) := rfl
    rw [e1, ← ih]
    by_cases h : (bif decide (e < 0) then true else decide (e > 100000)) = true
    · have hg : (step_r07_factors e ((), ())).get = .inr ((false, ()), ()) := if_pos h
      simp only [goL, hg]
      have : decide (0 ≤ e ∧ e ≤ 100000) = false := by
        simp only [Bool.cond_true_left, Bool.or_eq_true, decide_eq_true_eq] at h
        exact decide_eq_false (by omega)
      rw [this]
      rfl
    · have hg : (step_r07_factors e ((), ())).get = .inl ((), ()) := if_neg h
      simp only [goL, hg]
      have : decide (0 ≤ e ∧ e ≤ 100000) = true := by
        simp only [Bool.cond_true_left, Bool.or_eq_true, decide_eq_true_eq, not_or] at h
        exact decide_eq_true (by omega)
      rw [this, Bool.true_and]
theorem factors_ok : SoundCt Try.prog 150 cFactors :=
  conv ff_r07_factors_ok _ _ (fun w F x vs hr _ => by
    obtain ⟨l, _⟩ := x
    obtain ⟨v, vs', rfl, hv, _⟩ := hr
    have hlen := wf_len hv
    refine ⟨⟨⟨trivial, Int.le_refl _, Int.natCast_nonneg _, hlen⟩, okL_of (step := step_r07_factors) (fun e s => ⟨fun _ => trivial, fun _ => trivial⟩) _ _, fun _ => trivial, fun _ => trivial⟩, ?_⟩
    show (if isL (goL step_r07_factors l ((), ())) = true then ((true, ()) : Bool × Unit) else ((getR dR_r07_factors (goL step_r07_factors l ((), ()))).1.1, ())) = (factorsB l, ())
    by_cases h : isL (goL step_r07_factors l ((), ())) = true
    · rw [if_pos h, ← factors_go, h]
    · have h' : isL (goL step_r07_factors l ((), ())) = false := by simpa using h
      have hc := goL_const (d := dR_r07_factors) (c := ((false, ()), ())) (step := step_r07_factors) (fun e s y hy => by
        by_cases hb : (bif decide (e < 0) then true else decide (e > 100000)) = true
        · have hg : (step_r07_factors e s).get = .inr ((false, ()), ()) := if_pos hb
          rw [hg] at hy
          exact (Sum.inr.inj hy).symm
        · have hg : (step_r07_factors e s).get = .inl ((), ()) := if_neg hb
          rw [hg] at hy
          cases hy) l ((), ()) h'
      rw [if_neg h, hc, ← factors_go, h'])

end Go.Proofs.Ytbplccbjgfappaa

/-
  Covers and bands that may be, on both sides.
-/
namespace Go.Proofs.Ytbplccbjgfappaa
open Go Go.Ab Go.RowKit Go.Proofs

def allF {T σ : Type} (p : T → σ → Bool) (f : T → σ → σ) : List T → σ → Bool
  | [], _ => true
  | e :: r, s => p e s && allF p f r (f e s)

def endF {T σ : Type} (f : T → σ → σ) : List T → σ → σ
  | [], s => s
  | e :: r, s => endF f r (f e s)

/-- A loop that goes on while something holds, and else ends with one answer. -/
theorem bool_loop {T σ ρ : Type} {step : T → σ → Fr (σ ⊕ ρ)} {p : T → σ → Bool} {f : T → σ → σ} {c : ρ} (h : ∀ e s, (step e s).get = if p e s = true then .inl (f e s) else .inr c) :
    (l : List T) → (s : σ) → goL step l s = if allF p f l s = true then .inl (endF f l s) else .inr c
  | [], s => rfl
  | e :: r, s => by
    simp only [goL, allF, endF]
    by_cases hp : p e s = true
    · have hg := h e s
      rw [if_pos hp] at hg
      simp only [hg, hp, Bool.true_and]
      exact bool_loop h r (f e s)
    · have hg := h e s
      rw [if_neg hp] at hg
      have hp' : p e s = false := by simpa using hp
      simp only [hg, hp', Bool.false_and]
      rfl

def coverOf (c : coverT.den) : Bool := coverB c.1 c.2.1 c.2.2.1 c.2.2.2.1 c.2.2.2.2.1
def allC : List coverT.den → Int → Bool
  | [], _ => true
  | c :: r, last => (decide (last < c.1) && coverOf c) && allC r c.1
/-- Covers that may be. -/
def coversL (l : List coverT.den) : Bool := decide (1 ≤ l.length ∧ l.length ≤ 8) && allC l (-1)
def cCovers : Ct := ⟨[.d (.sl coverT)], [.bool], fun x => (coversL x.1, ()), fun _ => []⟩

theorem tc_step (e : coverT.den) (s : st_terms_Covers) : (step_terms_Covers e s).get = if (decide (s.1.2.1 < e.1) && coverOf e) = true then .inl ((s.1.1, e.1, ()), ()) else .inr ((false, ()), ()) := by
  show (if (bif decide (e.1 ≤ s.1.2.1) then true else !(coverOf e)) = true then _ else _) = _
  have hb : (bif decide (e.1 ≤ s.1.2.1) then true else !(coverOf e)) = !(decide (s.1.2.1 < e.1) && coverOf e) := by
    have : decide (e.1 ≤ s.1.2.1) = !decide (s.1.2.1 < e.1) := by
      rw [Bool.eq_iff_iff]
      simp only [Bool.not_eq_true', decide_eq_true_eq, decide_eq_false_iff_not]
      exact Int.not_lt.symm
    rw [this]
    cases decide (s.1.2.1 < e.1) <;> cases coverOf e <;> rfl
  rw [hb]
  cases (decide (s.1.2.1 < e.1) && coverOf e) <;> rfl

theorem tc_all (l l0 : List coverT.den) (last : Int) : allF (fun (e : coverT.den) (s : st_terms_Covers) => decide (s.1.2.1 < e.1) && coverOf e) (fun e s => ((s.1.1, e.1, ()), ())) l ((l0, last, ()), ()) = allC l last := by
  induction l generalizing last with
  | nil => rfl
  | cons c r ih =>
    show ((decide (last < c.1) && coverOf c) && _) = ((decide (last < c.1) && coverOf c) && _)
    rw [ih]

theorem tc_end (l l0 : List coverT.den) (last : Int) : (endF (fun (e : coverT.den) (s : st_terms_Covers) => (((s.1.1, e.1, ()), ()) : st_terms_Covers)) l ((l0, last, ()), ())).1.1 = l0 := by
  induction l generalizing last with
  | nil => rfl
  | cons c r ih => exact ih c.1

theorem len_b (n : Nat) : (bif decide ((n : Int) ≥ 1) then decide ((n : Int) ≤ 8) else false) = decide (1 ≤ n ∧ n ≤ 8) := by
  rw [Bool.eq_iff_iff]
  simp only [Bool.cond_false_right, Bool.and_eq_true, decide_eq_true_eq]
  omega

theorem len_b2 (n : Nat) : (bif decide ((n : Int) < 1) then true else decide ((n : Int) > 8)) = !decide (1 ≤ n ∧ n ≤ 8) := by
  rw [Bool.eq_iff_iff]
  simp only [Bool.cond_true_left, Bool.or_eq_true, Bool.not_eq_true', decide_eq_true_eq, decide_eq_false_iff_not]
  omega

theorem terms_Covers_ok : SoundCt Try.prog 94 cCovers :=
  conv ff_terms_Covers_ok _ _ (fun w F x vs hr _ => by
    obtain ⟨l, _⟩ := x
    obtain ⟨v, vs', rfl, hv, _⟩ := hr
    have hlen := wf_len hv
    refine ⟨⟨⟨rfl, Int.le_refl _, Int.natCast_nonneg _, hlen⟩, okL_of (step := step_terms_Covers) (fun e s => ⟨fun _ => trivial, fun _ => trivial⟩) _ _, fun _ => trivial, fun _ => trivial⟩, ?_⟩
    have hres := bool_loop tc_step l ((l, -1, ()), ())
    rw [tc_all] at hres
    have hres' : res_terms_Covers ((0, (l.length : Int), l, l, -1, ()), ()) = if allC l (-1) = true then .inl _ else .inr _ := hres
    show (if isL (res_terms_Covers ((0, (l.length : Int), l, l, -1, ()), ())) = true then ((bif decide (((out_terms_Covers (getL dS_terms_Covers (res_terms_Covers ((0, (l.length : Int), l, l, -1, ()), ())))).1.1.length : Int) ≥ 1) then decide (((out_terms_Covers (getL dS_terms_Covers (res_terms_Covers ((0, (l.length : Int), l, l, -1, ()), ())))).1.1.length : Int) ≤ 8) else false, ()) : Bool × Unit) else ((getR dR_terms_Covers (res_terms_Covers ((0, (l.length : Int), l, l, -1, ()), ()))).1.1, ())) = (coversL l, ())
    rw [hres']
    unfold coversL
    cases allC l (-1) with
    | true =>
      have he : (out_terms_Covers (getL dS_terms_Covers (Sum.inl (endF (fun (e : coverT.den) (s : st_terms_Covers) => (((s.1.1, e.1, ()), ()) : st_terms_Covers)) l ((l, -1, ()), ())) : st_terms_Covers ⊕ pt_terms_Covers.R.X))).1.1 = l := tc_end l l (-1)
      show ((bif decide (((out_terms_Covers (getL dS_terms_Covers (Sum.inl (endF (fun (e : coverT.den) (s : st_terms_Covers) => (((s.1.1, e.1, ()), ()) : st_terms_Covers)) l ((l, -1, ()), ())) : st_terms_Covers ⊕ pt_terms_Covers.R.X))).1.1.length : Int) ≥ 1) then decide (((out_terms_Covers (getL dS_terms_Covers (Sum.inl (endF (fun (e : coverT.den) (s : st_terms_Covers) => (((s.1.1, e.1, ()), ()) : st_terms_Covers)) l ((l, -1, ()), ())) : st_terms_Covers ⊕ pt_terms_Covers.R.X))).1.1.length : Int) ≤ 8) else false, ()) : Bool × Unit) = _
      rw [he]
      exact congrArg (·, ()) ((len_b l.length).trans (Bool.and_true _).symm)
    | false =>
      rw [Bool.and_false]
      rfl)

/-- The same, each held against the one ahead of it. -/
def allC2 : List coverT.den → Int → coverT.den → Bool
  | [], _, _ => true
  | c :: r, i, p => (coverOf c && (!decide (i > 0) || decide (p.1 < c.1))) && allC2 r (i + 1) c

theorem coverOf_low {c : coverT.den} (h : coverOf c = true) : -1 < c.1 := by
  unfold coverOf coverB at h
  have h' := (of_decide_eq_true h).1
  exact Int.lt_of_lt_of_le (by decide) h'

theorem allC2_eq (l : List coverT.den) (i : Int) (p : coverT.den) (hi : 0 ≤ i) : allC2 l i p = allC l (if i > 0 then p.1 else -1) := by
  induction l generalizing i p with
  | nil => rfl
  | cons c r ih =>
    simp only [allC2, allC]
    rw [ih (i + 1) c (by omega), if_pos (by omega)]
    congr 1
    by_cases h : i > 0
    · rw [if_pos h, decide_eq_true h, Bool.and_comm]
      rfl
    · rw [if_neg h, decide_eq_false h]
      cases hc : coverOf c with
      | true =>
        rw [decide_eq_true (coverOf_low hc)]
        rfl
      | false => rw [Bool.and_false]; rfl

theorem rc_step (e : coverT.den) (s : st_r10_Covers) : (step_r10_Covers e s).get = if (coverOf e && (!decide (s.2.1 > 0) || decide (s.2.2.1 < e.1))) = true then .inl (((), ()), s.2.1 + 1, e) else .inr ((false, ()), ()) := by
  show (if (!(coverOf e)) = true then _ else if decide (s.2.1 > 0) = true then (if decide (e.1 ≤ s.2.2.1) = true then _ else _) else _) = _
  have : decide (e.1 ≤ s.2.2.1) = !decide (s.2.2.1 < e.1) := by
    rw [Bool.eq_iff_iff]
    simp only [Bool.not_eq_true', decide_eq_true_eq, decide_eq_false_iff_not]
    exact Int.not_lt.symm
  rw [this]
  cases coverOf e <;> cases decide (s.2.1 > 0) <;> cases decide (s.2.2.1 < e.1) <;> rfl

theorem rc_all (l : List coverT.den) (u : Unit × Unit) (i : Int) (p : coverT.den) : allF (fun (e : coverT.den) (s : st_r10_Covers) => coverOf e && (!decide (s.2.1 > 0) || decide (s.2.2.1 < e.1))) (fun e s => (((), ()), s.2.1 + 1, e)) l (u, i, p) = allC2 l i p := by
  induction l generalizing u i p with
  | nil => rfl
  | cons c r ih =>
    show ((coverOf c && (!decide (i > 0) || decide (p.1 < c.1))) && _) = ((coverOf c && (!decide (i > 0) || decide (p.1 < c.1))) && _)
    rw [ih]

theorem r10_Covers_ok : SoundCt Try.prog 128 cCovers :=
  conv ff_r10_Covers_ok _ _ (fun w F x vs hr _ => by
    obtain ⟨l, _⟩ := x
    obtain ⟨v, vs', rfl, hv, _⟩ := hr
    have hlen := wf_len hv
    refine ⟨⟨fun _ => trivial, fun _ => ⟨⟨trivial, Int.le_refl _, Int.natCast_nonneg _, hlen⟩, okL_of (step := step_r10_Covers) (fun e s => ⟨fun _ => trivial, fun _ => ⟨fun _ => ⟨fun _ => trivial, fun _ => trivial⟩, fun _ => trivial⟩⟩) _ _, fun _ => trivial, fun _ => trivial⟩⟩, ?_⟩
    have hres := bool_loop rc_step l (((), ()), 0, l.getD (0 - 1 : Int).toNat coverT.dflt)
    have hz : (if (0 : Int) > 0 then (l.getD (0 - 1 : Int).toNat coverT.dflt).1 else -1) = -1 := if_neg (by decide)
    rw [rc_all, allC2_eq _ _ _ (Int.le_refl _), hz] at hres
    have hres' : res_r10_Covers ((0, l, ()), ()) = if allC l (-1) = true then .inl _ else .inr _ := hres
    show (if (bif decide ((l.length : Int) < 1) then true else decide ((l.length : Int) > 8)) = true then ((false, ()) : Bool × Unit) else if isL (res_r10_Covers ((0, l, ()), ())) = true then (true, ()) else ((getR dR_r10_Covers (res_r10_Covers ((0, l, ()), ()))).1.1, ())) = (coversL l, ())
    rw [hres']
    unfold coversL
    rw [len_b2]
    cases decide (1 ≤ l.length ∧ l.length ≤ 8) <;> cases allC l (-1) <;> rfl)

end Go.Proofs.Ytbplccbjgfappaa

/-
  Bands that may be; lists of covers that are one; a peril's cover.
-/
namespace Go.Proofs.Ytbplccbjgfappaa
open Go Go.Ab Go.RowKit Go.Proofs

def bandB (u b : Int) : Bool := decide (u ≤ 200 ∧ 0 ≤ b ∧ b ≤ 100000)
def allB : List bandT.den → Int → Bool
  | [], _ => true
  | c :: r, last => (decide (last < c.1) && bandB c.1 c.2.1) && allB r c.1
/-- Bands that may be. -/
def bandsL (l : List bandT.den) : Bool := decide (l.length ≤ 100) && allB l (-1)
def cBands : Ct := ⟨[.d (.sl bandT)], [.bool], fun x => (bandsL x.1, ()), fun _ => []⟩

theorem bandA_b (u b last : Int) : (bif bif bif decide (u ≤ last) then true else decide (u > 200) then true else decide (b < 0) then true else decide (b > 100000)) = !(decide (last < u) && bandB u b) := by
  rw [Bool.eq_iff_iff]
  simp only [bandB, Bool.cond_true_left, Bool.or_eq_true, Bool.not_eq_true', Bool.and_eq_false_iff, decide_eq_true_eq, decide_eq_false_iff_not]
  omega

theorem bandR_b (u b : Int) : (bif bif bif decide (u < 0) then true else decide (u > 200) then true else decide (b < 0) then true else decide (b > 100000)) = !(decide (-1 < u) && bandB u b) := by
  rw [Bool.eq_iff_iff]
  simp only [bandB, Bool.cond_true_left, Bool.or_eq_true, Bool.not_eq_true', Bool.and_eq_false_iff, decide_eq_true_eq, decide_eq_false_iff_not]
  omega

theorem rb_step (e : bandT.den) (s : st_risk_Bands) : (step_risk_Bands e s).get = if (decide (s.1.2.1 < e.1) && bandB e.1 e.2.1) = true then .inl ((s.1.1, e.1, ()), ()) else .inr ((false, ()), ()) := by
  show (if (bif bif bif decide (e.1 ≤ s.1.2.1) then true else decide (e.1 > 200) then true else decide (e.2.1 < 0) then true else decide (e.2.1 > 100000)) = true then _ else _) = _
  have hb := bandA_b e.1 e.2.1 s.1.2.1
  rw [hb]
  cases (decide (s.1.2.1 < e.1) && bandB e.1 e.2.1) <;> rfl

theorem rb_all (l l0 : List bandT.den) (last : Int) : allF (fun (e : bandT.den) (s : st_risk_Bands) => decide (s.1.2.1 < e.1) && bandB e.1 e.2.1) (fun e s => ((s.1.1, e.1, ()), ())) l ((l0, last, ()), ()) = allB l last := by
  induction l generalizing last with
  | nil => rfl
  | cons c r ih =>
    show ((decide (last < c.1) && bandB c.1 c.2.1) && _) = ((decide (last < c.1) && bandB c.1 c.2.1) && _)
    rw [ih]

theorem rb_end (l l0 : List bandT.den) (last : Int) : (endF (fun (e : bandT.den) (s : st_risk_Bands) => (((s.1.1, e.1, ()), ()) : st_risk_Bands)) l ((l0, last, ()), ())).1.1 = l0 := by
  induction l generalizing last with
  | nil => rfl
  | cons c r ih => exact ih c.1

theorem len_c (n : Nat) : decide ((n : Int) ≤ 100) = decide (n ≤ 100) := by
  rw [Bool.eq_iff_iff]
  simp only [decide_eq_true_eq]
  omega
theorem len_c2 (n : Nat) : decide ((n : Int) > 100) = !decide (n ≤ 100) := by
  rw [Bool.eq_iff_iff]
  simp only [Bool.not_eq_true', decide_eq_true_eq, decide_eq_false_iff_not]
  omega

theorem bands_ok : SoundCt Try.prog 114 cBands :=
  conv ff_risk_Bands_ok _ _ (fun w F x vs hr _ => by
    obtain ⟨l, _⟩ := x
    obtain ⟨v, vs', rfl, hv, _⟩ := hr
    have hlen := wf_len hv
    refine ⟨⟨⟨rfl, Int.le_refl _, Int.natCast_nonneg _, hlen⟩, okL_of (step := step_risk_Bands) (fun e s => ⟨fun _ => trivial, fun _ => trivial⟩) _ _, fun _ => trivial, fun _ => trivial⟩, ?_⟩
    have hres := bool_loop rb_step l ((l, -1, ()), ())
    rw [rb_all] at hres
    have hres' : res_risk_Bands ((0, (l.length : Int), l, l, -1, ()), ()) = if allB l (-1) = true then .inl _ else .inr _ := hres
    show (if isL (res_risk_Bands ((0, (l.length : Int), l, l, -1, ()), ())) = true then ((decide (((out_risk_Bands (getL dS_risk_Bands (res_risk_Bands ((0, (l.length : Int), l, l, -1, ()), ())))).1.1.length : Int) ≤ 100), ()) : Bool × Unit) else ((getR dR_risk_Bands (res_risk_Bands ((0, (l.length : Int), l, l, -1, ()), ()))).1.1, ())) = (bandsL l, ())
    rw [hres']
    unfold bandsL
    cases allB l (-1) with
    | true =>
      have he : (out_risk_Bands (getL dS_risk_Bands (Sum.inl (endF (fun (e : bandT.den) (s : st_risk_Bands) => (((s.1.1, e.1, ()), ()) : st_risk_Bands)) l ((l, -1, ()), ())) : st_risk_Bands ⊕ pt_risk_Bands.R.X))).1.1 = l := rb_end l l (-1)
      show ((decide (((out_risk_Bands (getL dS_risk_Bands (Sum.inl (endF (fun (e : bandT.den) (s : st_risk_Bands) => (((s.1.1, e.1, ()), ()) : st_risk_Bands)) l ((l, -1, ()), ())) : st_risk_Bands ⊕ pt_risk_Bands.R.X))).1.1.length : Int) ≤ 100), ()) : Bool × Unit) = _
      rw [he]
      exact congrArg (·, ()) ((len_c l.length).trans (Bool.and_true _).symm)
    | false =>
      rw [Bool.and_false]
      rfl)

def allB2 : List bandT.den → Int → bandT.den → Bool
  | [], _, _ => true
  | c :: r, i, p => ((decide (-1 < c.1) && bandB c.1 c.2.1) && (!decide (i > 0) || decide (p.1 < c.1))) && allB2 r (i + 1) c

theorem allB2_eq (l : List bandT.den) (i : Int) (p : bandT.den) (hi : 0 ≤ i) (hp : i > 0 → -1 < p.1) : allB2 l i p = allB l (if i > 0 then p.1 else -1) := by
  induction l generalizing i p with
  | nil => rfl
  | cons c r ih =>
    simp only [allB2, allB]
    by_cases hc : -1 < c.1
    · rw [ih (i + 1) c (by omega) (fun _ => hc), if_pos (by omega)]
      congr 1
      rw [decide_eq_true hc, Bool.true_and]
      by_cases h : i > 0
      · rw [if_pos h, decide_eq_true h, Bool.and_comm]
        rfl
      · rw [if_neg h, decide_eq_false h, decide_eq_true hc]
        cases bandB c.1 c.2.1 <;> rfl
    · have h1 : decide (-1 < c.1) = false := decide_eq_false hc
      have h2 : decide ((if i > 0 then p.1 else -1) < c.1) = false := by
        refine decide_eq_false fun h => hc ?_
        by_cases h' : i > 0
        · rw [if_pos h'] at h
          exact Int.lt_trans (hp h') h
        · rw [if_neg h'] at h
          exact h
      rw [h1, h2]
      rfl

theorem r6b_step (e : bandT.den) (s : st_r06_Bands) : (step_r06_Bands e s).get = if ((decide (-1 < e.1) && bandB e.1 e.2.1) && (!decide (s.2.1 > 0) || decide (s.2.2.1 < e.1))) = true then .inl (((), ()), s.2.1 + 1, e) else .inr ((false, ()), ()) := by
  show (if (bif bif bif decide (e.1 < 0) then true else decide (e.1 > 200) then true else decide (e.2.1 < 0) then true else decide (e.2.1 > 100000)) = true then _ else if decide (s.2.1 > 0) = true then (if decide (e.1 ≤ s.2.2.1) = true then _ else _) else _) = _
  have : decide (e.1 ≤ s.2.2.1) = !decide (s.2.2.1 < e.1) := by
    rw [Bool.eq_iff_iff]
    simp only [Bool.not_eq_true', decide_eq_true_eq, decide_eq_false_iff_not]
    exact Int.not_lt.symm
  have hb := bandR_b e.1 e.2.1
  rw [this, hb]
  cases (decide (-1 < e.1) && bandB e.1 e.2.1) <;> cases decide (s.2.1 > 0) <;> cases decide (s.2.2.1 < e.1) <;> rfl

theorem r6b_all (l : List bandT.den) (u : Unit × Unit) (i : Int) (p : bandT.den) : allF (fun (e : bandT.den) (s : st_r06_Bands) => (decide (-1 < e.1) && bandB e.1 e.2.1) && (!decide (s.2.1 > 0) || decide (s.2.2.1 < e.1))) (fun e s => (((), ()), s.2.1 + 1, e)) l (u, i, p) = allB2 l i p := by
  induction l generalizing u i p with
  | nil => rfl
  | cons c r ih =>
    show (((decide (-1 < c.1) && bandB c.1 c.2.1) && (!decide (i > 0) || decide (p.1 < c.1))) && _) = (((decide (-1 < c.1) && bandB c.1 c.2.1) && (!decide (i > 0) || decide (p.1 < c.1))) && _)
    rw [ih]

theorem r06_Bands_ok : SoundCt Try.prog 149 cBands :=
  conv ff_r06_Bands_ok _ _ (fun w F x vs hr _ => by
    obtain ⟨l, _⟩ := x
    obtain ⟨v, vs', rfl, hv, _⟩ := hr
    have hlen := wf_len hv
    refine ⟨⟨fun _ => trivial, fun _ => ⟨⟨trivial, Int.le_refl _, Int.natCast_nonneg _, hlen⟩, okL_of (step := step_r06_Bands) (fun e s => ⟨fun _ => trivial, fun _ => ⟨fun _ => ⟨fun _ => trivial, fun _ => trivial⟩, fun _ => trivial⟩⟩) _ _, fun _ => trivial, fun _ => trivial⟩⟩, ?_⟩
    have hres := bool_loop r6b_step l (((), ()), 0, l.getD (0 - 1 : Int).toNat bandT.dflt)
    have hz : (if (0 : Int) > 0 then (l.getD (0 - 1 : Int).toNat bandT.dflt).1 else -1) = -1 := if_neg (by decide)
    rw [r6b_all, allB2_eq _ _ _ (Int.le_refl _) (fun h => absurd h (by decide)), hz] at hres
    have hres' : res_r06_Bands ((0, l, ()), ()) = if allB l (-1) = true then .inl _ else .inr _ := hres
    show (if decide ((l.length : Int) > 100) = true then ((false, ()) : Bool × Unit) else if isL (res_r06_Bands ((0, l, ()), ())) = true then (true, ()) else ((getR dR_r06_Bands (res_r06_Bands ((0, l, ()), ()))).1.1, ())) = (bandsL l, ())
    rw [hres']
    unfold bandsL
    rw [len_c2]
    cases decide (l.length ≤ 100) <;> cases allB l (-1) <;> rfl)

end Go.Proofs.Ytbplccbjgfappaa

/-
  Lists of covers that are one; a peril's cover.
-/
namespace Go.Proofs.Ytbplccbjgfappaa
open Go Go.Ab Go.RowKit Go.Proofs

/-- Two covers are one. -/
def coverEq (a b : coverT.den) : Bool := (a.1 == b.1 && (a.2.1 == b.2.1 && (a.2.2.1 == b.2.2.1 && (a.2.2.2.1 == b.2.2.2.1 && (a.2.2.2.2.1 == b.2.2.2.2.1 && true)))))
theorem coverEq_iff {a b : coverT.den} : coverEq a b = true ↔ a = b := by
  obtain ⟨a1, a2, a3, a4, a5, _⟩ := a
  obtain ⟨b1, b2, b3, b4, b5, _⟩ := b
  simp only [coverEq, Bool.and_eq_true, beq_iff_eq, Prod.mk.injEq, and_true]

/-- Two lists of covers are one. -/
def sameC : List coverT.den → List coverT.den → Bool
  | [], [] => true
  | a :: l, b :: m => coverEq a b && sameC l m
  | _, _ => false
theorem sameC_iff : {l m : List coverT.den} → (sameC l m = true ↔ l = m)
  | [], [] => by simp [sameC]
  | [], b :: m => by simp [sameC]
  | a :: l, [] => by simp [sameC]
  | a :: l, b :: m => by
    simp only [sameC, Bool.and_eq_true, List.cons.injEq]
    rw [coverEq_iff, sameC_iff]
def cSameC : Ct := ⟨[.d (.sl coverT), .d (.sl coverT)], [.bool], fun x => (sameC x.1 x.2.1, ()), fun _ => []⟩

theorem sameC_zip : {l m : List coverT.den} → l.length = m.length → sameC l m = (l.zip m).all fun e => coverEq e.1 e.2
  | [], [], _ => rfl
  | [], b :: m, h => by cases h
  | a :: l, [], h => by cases h
  | a :: l, b :: m, h => by
    simp only [sameC, List.zip_cons_cons, List.all_cons]
    rw [sameC_zip (by simpa using h)]
theorem sameC_len : {l m : List coverT.den} → l.length ≠ m.length → sameC l m = false := fun h => by
  cases hs : sameC _ _ with
  | true => exact absurd (congrArg List.length (sameC_iff.1 hs)) h
  | false => rfl

theorem allF_keep {T σ : Type} (p : T → Bool) (l : List T) (s : σ) : allF (fun e _ => p e) (fun _ s => s) l s = l.all p := by
  induction l with
  | nil => rfl
  | cons e r ih => simp only [allF, List.all_cons]; rw [ih]

theorem s10_step (e : coverT.den × coverT.den) (s : st_r10_Same) : (step_r10_Same e s).get = if coverEq e.1 e.2 = true then .inl s else .inr ((false, ()), ()) := by
  show (if (!(coverEq e.1 e.2)) = true then _ else _) = _
  cases coverEq e.1 e.2 <;> rfl
theorem al_step (e : coverT.den × coverT.den) (s : st_alike) : (step_alike e s).get = if coverEq e.1 e.2 = true then .inl s else .inr ((false, ()), ()) := by
  show (if (!(coverEq e.1 e.2)) = true then _ else _) = _
  cases coverEq e.1 e.2 <;> rfl

theorem len_ne (a b : Nat) : ((a : Int) != (b : Int)) = !decide (a = b) := by
  rw [Bool.eq_iff_iff]
  simp only [bne_iff_ne, ne_eq, Bool.not_eq_true', decide_eq_false_iff_not]
  omega

theorem sameC10_ok : SoundCt Try.prog 87 cSameC :=
  conv ff_r10_Same_ok _ _ (fun w F x vs hr _ => by
    obtain ⟨l, m, _⟩ := x
    obtain ⟨v, vs', rfl, hv, _⟩ := hr
    have hlen : (l.length : Int) ≤ 9223372036854775807 := wf_len hv
    have hne := len_ne l.length m.length
    by_cases hlm : l.length = m.length
    · have hne' : ((l.length : Int) != (m.length : Int)) = false := by rw [hne, decide_eq_true hlm]; rfl
      have hz : ((l.zip m).length : Int) ≤ 9223372036854775807 := by
        rw [List.length_zip]
        omega
      refine ⟨⟨fun _ => trivial, fun _ => ⟨⟨hlm, Int.le_refl _, Int.natCast_nonneg _, hz⟩, okL_of (step := step_r10_Same) (fun e s => ⟨fun _ => trivial, fun _ => trivial⟩) _ _, fun _ => trivial, fun _ => trivial⟩⟩, ?_⟩
      have hres := bool_loop (p := fun e _ => coverEq e.1 e.2) (f := fun _ s => s) s10_step (l.zip m) ((m, ()), ())
      rw [allF_keep, ← sameC_zip hlm] at hres
      have hres' : res_r10_Same ((0, l, m, ()), ()) = if sameC l m = true then .inl _ else .inr _ := hres
      show (if ((l.length : Int) != (m.length : Int)) = true then ((false, ()) : Bool × Unit) else if isL (res_r10_Same ((0, l, m, ()), ())) = true then (true, ()) else ((getR dR_r10_Same (res_r10_Same ((0, l, m, ()), ()))).1.1, ())) = (sameC l m, ())
      rw [hres', hne']
      cases sameC l m <;> rfl
    · have hne' : ((l.length : Int) != (m.length : Int)) = true := by rw [hne, decide_eq_false hlm]; rfl
      refine ⟨⟨fun _ => trivial, fun hc => (by have hc' : ((l.length : Int) != (m.length : Int)) = false := hc; rw [hne'] at hc'; cases hc')⟩, ?_⟩
      show (if ((l.length : Int) != (m.length : Int)) = true then ((false, ()) : Bool × Unit) else _) = (sameC l m, ())
      rw [hne', sameC_len hlm]
      rfl)

theorem alike_ok : SoundCt Try.prog 97 cSameC :=
  conv ff_alike_ok _ _ (fun w F x vs hr _ => by
    obtain ⟨l, m, _⟩ := x
    obtain ⟨v, vs', rfl, hv, _⟩ := hr
    have hlen : (l.length : Int) ≤ 9223372036854775807 := wf_len hv
    have hne := len_ne l.length m.length
    by_cases hlm : l.length = m.length
    · have hne' : ((l.length : Int) != (m.length : Int)) = false := by rw [hne, decide_eq_true hlm]; rfl
      have hz : ((l.zip m).length : Int) ≤ 9223372036854775807 := by
        rw [List.length_zip]
        omega
      refine ⟨⟨fun _ => trivial, fun _ => ⟨⟨⟨rfl, hlm⟩, Int.le_refl _, Int.natCast_nonneg _, hz⟩, okL_of (step := step_alike) (fun e s => ⟨fun _ => trivial, fun _ => trivial⟩) _ _, fun _ => trivial, fun _ => trivial⟩⟩, ?_⟩
      have hres := bool_loop (p := fun e _ => coverEq e.1 e.2) (f := fun _ s => s) al_step (l.zip m) ((m, ()), ())
      rw [allF_keep, ← sameC_zip hlm] at hres
      have hres' : res_alike ((0, (l.length : Int), l, m, ()), ()) = if sameC l m = true then .inl _ else .inr _ := hres
      show (if ((l.length : Int) != (m.length : Int)) = true then ((false, ()) : Bool × Unit) else if isL (res_alike ((0, (l.length : Int), l, m, ()), ())) = true then (true, ()) else ((getR dR_alike (res_alike ((0, (l.length : Int), l, m, ()), ()))).1.1, ())) = (sameC l m, ())
      rw [hres', hne']
      cases sameC l m <;> rfl
    · have hne' : ((l.length : Int) != (m.length : Int)) = true := by rw [hne, decide_eq_false hlm]; rfl
      refine ⟨⟨fun _ => trivial, fun hc => (by have hc' : ((l.length : Int) != (m.length : Int)) = false := hc; rw [hne'] at hc'; cases hc')⟩, ?_⟩
      show (if ((l.length : Int) != (m.length : Int)) = true then ((false, ()) : Bool × Unit) else _) = (sameC l m, ())
      rw [hne', sameC_len hlm]
      rfl)

end Go.Proofs.Ytbplccbjgfappaa

/-
  Changes, terms and slices: what may be, and what is one.
-/
namespace Go.Proofs.Ytbplccbjgfappaa
open Go Go.Ab Go.RowKit Go.Proofs

abbrev termsT : Ty := .pair spanT (.pair riskT (.pair (.sl coverT) .unit))
abbrev changeT : Ty := .pair i64 (.pair i64 (.pair i64 (.pair riskT (.pair (.sl coverT) (.pair i64 .unit)))))
abbrev histT : Ty := .pair i64 (.pair i64 (.pair termsT (.pair (.sl changeT) .unit)))
abbrev four : Ty := .pair i64 (.pair i64 (.pair i64 (.pair i64 .unit)))
abbrev verT : Ty := .pair i64 (.pair four (.pair (.sl bandT) (.pair ints (.pair ints (.pair i64 .unit)))))
abbrev tarT : Ty := .pair (.sl verT) .unit
noncomputable def CH9 : Cx := cx [(92, cRisk), (127, cRisk), (114, cBands), (149, cBands), (150, cFactors), (94, cCovers), (128, cCovers), (126, cFullS), (97, cSameC), (87, cSameC), (48, cIn), (23, cIn)] []
theorem CH9_ok : CxOK Try.prog CH9 := cx_ok mixed ⟨risk_ok, risk6_ok, bands_ok, r06_Bands_ok, factors_ok, terms_Covers_ok, r10_Covers_ok, full04_ok, alike_ok, sameC10_ok, inS_ok, in3_ok, trivial⟩ trivial

def ff_change_1 (x : denP [.d changeT]) : Fr (denL [.bool]) :=
  Fr.val (bif bif (cRisk.f ((x.fst.snd.snd.snd.fst.fst, x.fst.snd.snd.snd.fst.snd.fst, x.fst.snd.snd.snd.fst.snd.snd.fst, x.fst.snd.snd.snd.fst.snd.snd.snd.fst, ()), ())).fst then ((List.length x.fst.snd.snd.snd.snd.fst) : Int) == 0 else false then x.fst.snd.snd.snd.snd.snd.fst == 0 else false, ())
theorem ff_change_1_ok : SoundCt Try.prog 91 ⟨[.d changeT], [.bool], fun xs => (ff_change_1 xs).get, fun xs => [(ff_change_1 xs).ok]⟩ :=
  fn_sound CH9_ok (Λ := lam0) (fn := Try.f91) (dfP [.d changeT]) (by kernel_rfl) (fun c E _ => lam0_ok c 0) (fun x => by kernel_rfl)

def ff_change_2 (x : denP [.d changeT]) : Fr (denL [.bool]) :=
  Fr.val (bif bif (cCovers.f (x.fst.snd.snd.snd.snd.fst, ())).fst then x.fst.snd.snd.snd.fst.fst == 0 && (x.fst.snd.snd.snd.fst.snd.fst == 0 && (x.fst.snd.snd.snd.fst.snd.snd.fst == 0 && (x.fst.snd.snd.snd.fst.snd.snd.snd.fst == 0 && true))) else false then x.fst.snd.snd.snd.snd.snd.fst == 0 else false, ())
theorem ff_change_2_ok : SoundCt Try.prog 93 ⟨[.d changeT], [.bool], fun xs => (ff_change_2 xs).get, fun xs => [(ff_change_2 xs).ok]⟩ :=
  fn_sound CH9_ok (Λ := lam0) (fn := Try.f93) (dfP [.d changeT]) (by kernel_rfl) (fun c E _ => lam0_ok c 0) (fun x => by kernel_rfl)

def ff_change_3 (x : denP [.d changeT]) : Fr (denL [.bool]) :=
  Fr.val (bif bif bif x.fst.snd.snd.snd.snd.snd.fst == 0 then true else x.fst.snd.snd.snd.snd.snd.fst == 1 then ((List.length x.fst.snd.snd.snd.snd.fst) : Int) == 0 else false then x.fst.snd.snd.snd.fst.fst == 0 && (x.fst.snd.snd.snd.fst.snd.fst == 0 && (x.fst.snd.snd.snd.fst.snd.snd.fst == 0 && (x.fst.snd.snd.snd.fst.snd.snd.snd.fst == 0 && true))) else false, ())
theorem ff_change_3_ok : SoundCt Try.prog 95 ⟨[.d changeT], [.bool], fun xs => (ff_change_3 xs).get, fun xs => [(ff_change_3 xs).ok]⟩ :=
  fn_sound CH9_ok (Λ := lam0) (fn := Try.f95) (dfP [.d changeT]) (by kernel_rfl) (fun c E _ => lam0_ok c 0) (fun x => by kernel_rfl)

def ff_change_4 (x : denP [.d changeT]) : Fr (denL [.bool]) :=
  Fr.val (bif bif x.fst.snd.snd.snd.snd.snd.fst == 0 then ((List.length x.fst.snd.snd.snd.snd.fst) : Int) == 0 else false then x.fst.snd.snd.snd.fst.fst == 0 && (x.fst.snd.snd.snd.fst.snd.fst == 0 && (x.fst.snd.snd.snd.fst.snd.snd.fst == 0 && (x.fst.snd.snd.snd.fst.snd.snd.snd.fst == 0 && true))) else false, ())
theorem ff_change_4_ok : SoundCt Try.prog 96 ⟨[.d changeT], [.bool], fun xs => (ff_change_4 xs).get, fun xs => [(ff_change_4 xs).ok]⟩ :=
  fn_sound CH9_ok (Λ := lam0) (fn := Try.f96) (dfP [.d changeT]) (by kernel_rfl) (fun c E _ => lam0_ok c 0) (fun x => by kernel_rfl)

def ff_r11_Right (x : denP [.d changeT]) : Fr (denL [.bool]) :=
  Fr.br (bif bif bif decide (x.fst.fst < 1) then true else decide (x.fst.fst > 292194) then true else decide (x.fst.snd.fst < 1) then true else decide (x.fst.snd.fst > 292194)) (Fr.val (false, ())) (Fr.br (x.fst.snd.snd.fst == 1) (Fr.val (bif bif (cRisk.f ((x.fst.snd.snd.snd.fst.fst, x.fst.snd.snd.snd.fst.snd.fst, x.fst.snd.snd.snd.fst.snd.snd.fst, x.fst.snd.snd.snd.fst.snd.snd.snd.fst, ()), ())).fst then ((List.length x.fst.snd.snd.snd.snd.fst) : Int) == 0 else false then x.fst.snd.snd.snd.snd.snd.fst == 0 else false, ())) (Fr.br (x.fst.snd.snd.fst == 2) (Fr.val (bif bif (cCovers.f (x.fst.snd.snd.snd.snd.fst, ())).fst then x.fst.snd.snd.snd.fst.fst == 0 && (x.fst.snd.snd.snd.fst.snd.fst == 0 && (x.fst.snd.snd.snd.fst.snd.snd.fst == 0 && (x.fst.snd.snd.snd.fst.snd.snd.snd.fst == 0 && true))) else false then x.fst.snd.snd.snd.snd.snd.fst == 0 else false, ())) (Fr.br (x.fst.snd.snd.fst == 3) (Fr.val (bif bif x.fst.snd.snd.snd.fst.fst == 0 && (x.fst.snd.snd.snd.fst.snd.fst == 0 && (x.fst.snd.snd.snd.fst.snd.snd.fst == 0 && (x.fst.snd.snd.snd.fst.snd.snd.snd.fst == 0 && true))) then ((List.length x.fst.snd.snd.snd.snd.fst) : Int) == 0 else false then bif x.fst.snd.snd.snd.snd.snd.fst == 0 then true else x.fst.snd.snd.snd.snd.snd.fst == 1 else false, ())) (Fr.br (x.fst.snd.snd.fst == 4) (Fr.val (bif bif x.fst.snd.snd.snd.fst.fst == 0 && (x.fst.snd.snd.snd.fst.snd.fst == 0 && (x.fst.snd.snd.snd.fst.snd.snd.fst == 0 && (x.fst.snd.snd.snd.fst.snd.snd.snd.fst == 0 && true))) then ((List.length x.fst.snd.snd.snd.snd.fst) : Int) == 0 else false then x.fst.snd.snd.snd.snd.snd.fst == 0 else false, ())) (Fr.val (false, ()))))))
theorem ff_r11_Right_ok : SoundCt Try.prog 85 ⟨[.d changeT], [.bool], fun xs => (ff_r11_Right xs).get, fun xs => [(ff_r11_Right xs).ok]⟩ :=
  fn_sound CH9_ok (Λ := lam0) (fn := Try.f85) (dfP [.d changeT]) (by kernel_rfl) (fun c E _ => lam0_ok c 0) (fun x => by kernel_rfl)

def ff_r10_Right (x : denP [.d termsT]) : Fr (denL [.bool]) :=
  Fr.br (!(cFullS.f ((x.fst.fst.fst, x.fst.fst.snd.fst, ()), ())).fst) (Fr.val (false, ())) (Fr.val (bif bif decide (IntKind.i64.wrap (x.fst.fst.snd.fst - x.fst.fst.fst) ≤ 1100) then (cRisk.f ((x.fst.snd.fst.fst, x.fst.snd.fst.snd.fst, x.fst.snd.fst.snd.snd.fst, x.fst.snd.fst.snd.snd.snd.fst, ()), ())).fst else false then (cCovers.f (x.fst.snd.snd.fst, ())).fst else false, ()))
theorem ff_r10_Right_ok : SoundCt Try.prog 84 ⟨[.d termsT], [.bool], fun xs => (ff_r10_Right xs).get, fun xs => [(ff_r10_Right xs).ok]⟩ :=
  fn_sound CH9_ok (Λ := lam0) (fn := Try.f84) (dfP [.d termsT]) (by kernel_rfl) (fun c E _ => lam0_ok c 0) (fun x => by kernel_rfl)

def ff_holds (x : denP [.d sliceT, .d sliceT]) : Fr (denL [.bool]) :=
  Fr.val (bif bif x.fst.snd.fst == x.snd.fst.snd.fst then x.fst.snd.snd.fst.fst == x.snd.fst.snd.snd.fst.fst && (x.fst.snd.snd.fst.snd.fst == x.snd.fst.snd.snd.fst.snd.fst && (x.fst.snd.snd.fst.snd.snd.fst == x.snd.fst.snd.snd.fst.snd.snd.fst && (x.fst.snd.snd.fst.snd.snd.snd.fst == x.snd.fst.snd.snd.fst.snd.snd.snd.fst && true))) else false then (cSameC.f (x.fst.snd.snd.snd.fst, x.snd.fst.snd.snd.snd.fst, ())).fst else false, ())
theorem ff_holds_ok : SoundCt Try.prog 52 ⟨[.d sliceT, .d sliceT], [.bool], fun xs => (ff_holds xs).get, fun xs => [(ff_holds xs).ok]⟩ :=
  fn_sound CH9_ok (Λ := lam0) (fn := Try.f52) (dfP [.d sliceT, .d sliceT]) (by kernel_rfl) (fun c E _ => lam0_ok c 0) (fun x => by kernel_rfl)

def ff_r12_like (x : denP [.d sliceT, .d sliceT]) : Fr (denL [.bool]) :=
  Fr.val (bif bif x.fst.snd.fst == x.snd.fst.snd.fst then x.fst.snd.snd.fst.fst == x.snd.fst.snd.snd.fst.fst && (x.fst.snd.snd.fst.snd.fst == x.snd.fst.snd.snd.fst.snd.fst && (x.fst.snd.snd.fst.snd.snd.fst == x.snd.fst.snd.snd.fst.snd.snd.fst && (x.fst.snd.snd.fst.snd.snd.snd.fst == x.snd.fst.snd.snd.fst.snd.snd.snd.fst && true))) else false then (cSameC.f (x.fst.snd.snd.snd.fst, x.snd.fst.snd.snd.snd.fst, ())).fst else false, ())
theorem ff_r12_like_ok : SoundCt Try.prog 46 ⟨[.d sliceT, .d sliceT], [.bool], fun xs => (ff_r12_like xs).get, fun xs => [(ff_r12_like xs).ok]⟩ :=
  fn_sound CH9_ok (Λ := lam0) (fn := Try.f46) (dfP [.d sliceT, .d sliceT]) (by kernel_rfl) (fun c E _ => lam0_ok c 0) (fun x => by kernel_rfl)

/-- What each kind of change has. -/
def ck1 (c : changeT.den) : Bool := (ff_change_1 (c, ())).get.1
def ck2 (c : changeT.den) : Bool := (ff_change_2 (c, ())).get.1
def ck3 (c : changeT.den) : Bool := (ff_change_3 (c, ())).get.1
def ck4 (c : changeT.den) : Bool := (ff_change_4 (c, ())).get.1
def cCk1 : Ct := ⟨[.d changeT], [.bool], fun x => (ck1 x.1, ()), fun _ => []⟩
def cCk2 : Ct := ⟨[.d changeT], [.bool], fun x => (ck2 x.1, ()), fun _ => []⟩
def cCk3 : Ct := ⟨[.d changeT], [.bool], fun x => (ck3 x.1, ()), fun _ => []⟩
def cCk4 : Ct := ⟨[.d changeT], [.bool], fun x => (ck4 x.1, ()), fun _ => []⟩
theorem ck1_ok : SoundCt Try.prog 91 cCk1 := conv ff_change_1_ok _ _ (fun _ _ _ _ _ _ => ⟨trivial, rfl⟩)
theorem ck2_ok : SoundCt Try.prog 93 cCk2 := conv ff_change_2_ok _ _ (fun _ _ _ _ _ _ => ⟨trivial, rfl⟩)
theorem ck3_ok : SoundCt Try.prog 95 cCk3 := conv ff_change_3_ok _ _ (fun _ _ _ _ _ _ => ⟨trivial, rfl⟩)
theorem ck4_ok : SoundCt Try.prog 96 cCk4 := conv ff_change_4_ok _ _ (fun _ _ _ _ _ _ => ⟨trivial, rfl⟩)

def kindB (c : changeT.den) : Bool := if c.2.2.1 = 1 then ck1 c else if c.2.2.1 = 2 then ck2 c else if c.2.2.1 = 3 then ck3 c else if c.2.2.1 = 4 then ck4 c else false
/-- A change that may be. -/
def changeB (c : changeT.den) : Bool := dayB c.1 && (dayB c.2.1 && kindB c)
def cChange : Ct := ⟨[.d changeT], [.bool], fun x => (changeB x.1, ()), fun _ => []⟩

/-- Terms that may be. -/
def termsB (t : termsT.den) : Bool := fullS t.1 && (decide (t.1.2.1 - t.1.1 ≤ 1100) && (riskB t.2.1.1 t.2.1.2.1 t.2.1.2.2.1 t.2.1.2.2.2.1 && coversL t.2.2.1))
def cTerms : Ct := ⟨[.d termsT], [.bool], fun x => (termsB x.1, ()), fun _ => []⟩
theorem r10_Right_ok : SoundCt Try.prog 84 cTerms :=
  conv ff_r10_Right_ok _ _ (fun _ _ x _ _ _ => by
    obtain ⟨⟨⟨a, b, _⟩, r, cs, _⟩, _⟩ := x
    refine ⟨⟨fun _ => trivial, fun _ => trivial⟩, ?_⟩
    show (if (!(fullS (a, b, ()))) = true then ((false, ()) : Bool × Unit) else (bif bif decide (IntKind.i64.wrap (b - a) ≤ 1100) then riskB r.1 r.2.1 r.2.2.1 r.2.2.2.1 else false then coversL cs else false, ())) =
      (fullS (a, b, ()) && (decide (b - a ≤ 1100) && (riskB r.1 r.2.1 r.2.2.1 r.2.2.2.1 && coversL cs)), ())
    cases hf : fullS (a, b, ()) with
    | false => rfl
    | true =>
      obtain ⟨h1, h2, h3⟩ := fullS_iff.1 hf
      have hw : IntKind.i64.wrap (b - a) = b - a := i64w (by omega)
      rw [hw, three]
      rfl)

/-- The same holds in two slices. -/
def riskEq (a b : riskT.den) : Bool := (a.1 == b.1 && (a.2.1 == b.2.1 && (a.2.2.1 == b.2.2.1 && (a.2.2.2.1 == b.2.2.2.1 && true))))
def holdsB (a b : sliceT.den) : Bool := (a.2.1 == b.2.1) && (riskEq a.2.2.1 b.2.2.1 && sameC a.2.2.2.1 b.2.2.2.1)
def cHolds : Ct := ⟨[.d sliceT, .d sliceT], [.bool], fun x => (holdsB x.1 x.2.1, ()), fun _ => []⟩
theorem holds_ok : SoundCt Try.prog 52 cHolds := conv ff_holds_ok _ _ (fun _ _ x _ _ _ => by
  obtain ⟨a, b, _⟩ := x
  exact ⟨trivial, congrArg (·, ()) (three (a.2.1 == b.2.1) (riskEq a.2.2.1 b.2.2.1) (sameC a.2.2.2.1 b.2.2.2.1))⟩)
theorem like_ok : SoundCt Try.prog 46 cHolds := conv ff_r12_like_ok _ _ (fun _ _ x _ _ _ => by
  obtain ⟨a, b, _⟩ := x
  exact ⟨trivial, congrArg (·, ()) (three (a.2.1 == b.2.1) (riskEq a.2.2.1 b.2.2.1) (sameC a.2.2.2.1 b.2.2.2.1))⟩)

theorem day2_b (a b : Int) : (bif bif bif decide (a < 1) then true else decide (a > 292194) then true else decide (b < 1) then true else decide (b > 292194)) = !(dayB a && dayB b) := by
  rw [Bool.eq_iff_iff]
  simp only [dayB, Bool.cond_true_left, Bool.or_eq_true, Bool.not_eq_true', Bool.and_eq_false_iff, decide_eq_true_eq, decide_eq_false_iff_not]
  omega

def bareB (r : riskT.den) : Bool := r.1 == 0 && (r.2.1 == 0 && (r.2.2.1 == 0 && (r.2.2.2.1 == 0 && true)))

theorem r11_Right_ok : SoundCt Try.prog 85 cChange :=
  conv ff_r11_Right_ok _ _ (fun _ _ x _ _ _ => by
    obtain ⟨⟨b, d, k, r, cs, w, _⟩, _⟩ := x
    refine ⟨⟨fun _ => trivial, fun _ => ⟨fun _ => trivial, fun _ => ⟨fun _ => trivial, fun _ => ⟨fun _ => trivial, fun _ => ⟨fun _ => trivial, fun _ => trivial⟩⟩⟩⟩⟩, ?_⟩
    show (if (bif bif bif decide (b < 1) then true else decide (b > 292194) then true else decide (d < 1) then true else decide (d > 292194)) = true then ((false, ()) : Bool × Unit) else
      if (k == 1) = true then (ck1 (b, d, k, r, cs, w, ()), ()) else if (k == 2) = true then (ck2 (b, d, k, r, cs, w, ()), ()) else
      if (k == 3) = true then (bif bif bareB r then ((cs.length : Int) == 0) else false then bif w == 0 then true else w == 1 else false, ()) else
      if (k == 4) = true then (bif bif bareB r then ((cs.length : Int) == 0) else false then w == 0 else false, ()) else (false, ())) = (dayB b && (dayB d && kindB (b, d, k, r, cs, w, ())), ())
    have hb := day2_b b d
    rw [hb]
    have h3 : (bif bif bareB r then ((cs.length : Int) == 0) else false then bif w == 0 then true else w == 1 else false) = ck3 (b, d, k, r, cs, w, ()) := by
      show _ = (bif bif bif w == 0 then true else w == 1 then ((cs.length : Int) == 0) else false then bareB r else false)
      cases bareB r <;> cases ((cs.length : Int) == 0) <;> cases (w == 0) <;> cases (w == 1) <;> rfl
    have h4 : (bif bif bareB r then ((cs.length : Int) == 0) else false then w == 0 else false) = ck4 (b, d, k, r, cs, w, ()) := by
      show _ = (bif bif w == 0 then ((cs.length : Int) == 0) else false then bareB r else false)
      cases bareB r <;> cases ((cs.length : Int) == 0) <;> cases (w == 0) <;> rfl
    rw [h3, h4]
    have hk : kindB (b, d, k, r, cs, w, ()) = if (k == 1) = true then ck1 (b, d, k, r, cs, w, ()) else if (k == 2) = true then ck2 (b, d, k, r, cs, w, ()) else if (k == 3) = true then ck3 (b, d, k, r, cs, w, ()) else if (k == 4) = true then ck4 (b, d, k, r, cs, w, ()) else false := by
      simp only [beq_iff_eq]
      rfl
    rw [hk]
    cases dayB b <;> cases dayB d <;> cases (k == 1) <;> cases (k == 2) <;> cases (k == 3) <;> cases (k == 4) <;> rfl)

end Go.Proofs.Ytbplccbjgfappaa

/-
  change.Order: the places of changes, by their days.
-/
namespace Go.Proofs.Ytbplccbjgfappaa
open Go Go.Ab Go.RowKit Go.Proofs

/-- The day of a history's change. -/
def dayOf (h : histT.den) (i : Int) : Int := (h.2.2.2.1.getD i.toNat changeT.dflt).2.1
abbrev chL (h : histT.den) : List changeT.den := h.2.2.2.1

noncomputable def CO1 : Cx := cx [(125, cCmp)] []
theorem CO1_ok : CxOK Try.prog CO1 := cx_ok mixed ⟨cmp_ok, trivial⟩ trivial

def fr_ord1 (x : denP [.d i64, .d i64, .ptr histT]) : Fr (denL [i64]) :=
  Fr.need (0 ≤ x.1 ∧ x.1 < ((chL x.2.2.1).length : Int)) (Fr.need (0 ≤ x.2.1 ∧ x.2.1 < ((chL x.2.2.1).length : Int)) (Fr.val ((cCmp.f (dayOf x.2.2.1 x.1, dayOf x.2.2.1 x.2.1, ())).1, ())))

def cOrd1 : Ct := ⟨[.d i64, .d i64, .ptr histT], [i64], fun x => (cmpZ (dayOf x.2.2.1 x.1) (dayOf x.2.2.1 x.2.1), ()), fun x => [0 ≤ x.1 ∧ x.1 < ((chL x.2.2.1).length : Int), 0 ≤ x.2.1 ∧ x.2.1 < ((chL x.2.2.1).length : Int)]⟩
theorem ord1_ok : SoundCt Try.prog 124 cOrd1 :=
  conv (fn_sound CO1_ok (Λ := lam0) (fn := Try.f124) (fr := fr_ord1) (dfP [.d i64, .d i64, .ptr histT]) (by kernel_rfl) (fun c E _ => lam0_ok c 0) (fun x => by kernel_rfl)) _ _ fun _ _ x _ _ hok =>
    ⟨⟨hok.1, hok.2, trivial⟩, rfl⟩

/-! The places -/
def rangeI (n : Nat) : List Int := (List.range n).map fun i : Nat => (i : Int)
theorem rangeI_succ (n : Nat) : rangeI (n + 1) = rangeI n ++ [(n : Int)] := by simp [rangeI, List.range_succ]
theorem rangeI_length (n : Nat) : (rangeI n).length = n := by simp [rangeI]
theorem rangeI_mem {n : Nat} {x : Int} (h : x ∈ rangeI n) : 0 ≤ x ∧ x < n := by
  simp only [rangeI, List.mem_map, List.mem_range] at h
  obtain ⟨i, hi, rfl⟩ := h
  omega

noncomputable def CO2 : Cx := cxK [(124, cOrd1)] [] (mtK (cx [(124, cOrd1)] []).Γ 123 mSort)
theorem CO2_ct : CxOK Try.prog (cx [(124, cOrd1)] []) := cx_ok mixed ⟨ord1_ok, trivial⟩ trivial
theorem CO2_ok : CxOK Try.prog CO2 := cxK_ok mixed ⟨ord1_ok, trivial⟩ trivial (mtK_ok CO2_ct.ct sort_ok)

abbrev pt_ord : Pt := ⟨20, 0, ⟨[(7, .d i64), (8, .d i64)], [.x 1 31 histT, .r 1 1 0, .o 3 3 i64]⟩, ⟨[], [.x 1 31 histT, .r 1 1 0, .o 3 3 i64]⟩, ⟨[], []⟩⟩

set_option maxRecDepth 100000 in
def fr_ordL (x : pt_ord.M.X) : Fr pt_ord.Out :=
  let n := x.1.1; let k := x.1.2.1; let h := x.2.1; let l := x.2.2.1
  Fr.br (decide (k < n))
    (Fr.need (l.length + [k].length ≤ maxLen ∧ (l.length + [k].length) * Try.prog.types[3].bytes ≤ 140737488355328) (Fr.val (Rd.next ((n, IntKind.i64.wrap (k + 1), ()), (h, l ++ [k], ())))))
    (Fr.val (Rd.out ((), (h, l, ()))))

theorem sem_ord : Does Try.prog (loopF Try.f82 0) pt_ord.M pt_ord fr_ordL :=
  Does.of_run CO2_ok (bs := 0) (Λ := lam0) rfl rfl rfl (fun E => lam0_ok _ 0) (fun x => by kernel_rfl)

set_option maxRecDepth 100000 in
theorem intBytes : Try.prog.types[3].bytes = 8 := by kernel_rfl

structure InvOrd (n k : Int) (l : List Int) : Prop where
  k0 : 0 ≤ k
  kn : k ≤ n
  big : n ≤ 1000000
  ll : l = rangeI k.toNat

def FOrd (x : pt_ord.M.X) : Fr pt_ord.Out :=
  Fr.need (InvOrd x.1.1 x.1.2.1 x.2.2.1) (Fr.val (Rd.out ((), (x.2.1, rangeI x.1.1.toNat, ()))))

theorem lawOrd (n k : Int) (h : histT.den) (l : List Int) (hinv : InvOrd n k l) (Q : pt_ord.Out → Prop) (hq : Q (Rd.out ((), (h, rangeI n.toNat, ())))) : (fr_ordL ((n, k, ()), (h, l, ()))).satP fun
      | .next x' => InvOrd x'.1.1 x'.1.2.1 x'.2.2.1 ∧ (x'.1.1 - x'.1.2.1).toNat < (n - k).toNat ∧ (FOrd x').satP Q
      | .out y => Q (.out y)
      | .back z => Q (.back z)
      | .pan p => Q (.pan p) := by
  obtain ⟨h0, h1, h2, h3⟩ := hinv
  subst h3
  dsimp only [fr_ordL, Fr.satP, Ty.den, PT.den]
  rw [intBytes]
  refine ⟨fun hi => ?_, fun hi => ?_⟩
  · have hlt : k < n := of_decide_eq_true hi
    have w : IntKind.i64.wrap (k + 1) = k + 1 := IntWalk.i64_in _ (by omega)
    rw [w]
    have hI : InvOrd n (k + 1) (rangeI k.toNat ++ [k]) := ⟨by omega, by omega, h2, by rw [show (k + 1).toNat = k.toNat + 1 by omega, rangeI_succ, show ((k.toNat : Nat) : Int) = k by omega]⟩
    refine ⟨?_, hI, by omega, hI, hq⟩
    simp only [rangeI_length, List.length_cons, List.length_nil, maxLen]
    omega
  · have hge : ¬ k < n := of_decide_eq_false hi
    rw [show n = k by omega] at hq
    exact hq

theorem loopOrd : Does Try.prog (.loop (loopF Try.f82 0)) pt_ord.M pt_ord FOrd := by
  refine Does.loop (n := 20) (id := 0) sem_ord (inv := fun x => InvOrd x.1.1 x.1.2.1 x.2.2.1) (μ := fun x => (x.1.1 - x.1.2.1).toNat) ?_ (fun x Q h => h.1)
  rintro ⟨⟨n, k, _⟩, ⟨h, l, _⟩⟩ hinv Q hq
  exact lawOrd n k h l hinv Q hq.2

noncomputable def ΛOrd : Nat → St → Option Tr := fun _ => pt_ord.han CO2.Γ pt_ord.M FOrd

def ordG (h : histT.den) : cmpT.den := (fun x => cOrd1.f (x.1, x.2.1, h, ()), fun x => conj (cOrd1.ok (x.1, x.2.1, h, ())))

noncomputable def fr_order (x : denP [.d histT]) : Fr (denL [.sl i64]) :=
  let n : Int := ((chL x.1).length : Int)
  Fr.need (InvOrd n 0 [])
  (Fr.need (((rangeI n.toNat).length : Int) ≤ 4611686018427387903)
    (Fr.need (OrdOf (ordG x.1) (rangeI n.toNat)) (Fr.val ((mSort.f (rangeI n.toNat) (ordG x.1, ())).1, ()))))

/-- Of two places, whose change's day is ahead. -/
def ltDay (h : histT.den) (x y : Int) : Bool := decide (dayOf h x < dayOf h y)
/-- The places of a history's changes, by their days. -/
def orderL (h : histT.den) : List Int := sortB (ltDay h) (rangeI (chL h).length)

theorem ltOf_ord (h : histT.den) : ltOf (ordG h) = ltDay h := by
  funext x y
  show decide (cmpZ (dayOf h x) (dayOf h y) < 0) = decide (dayOf h x < dayOf h y)
  rw [decide_eq_decide]
  unfold cmpZ
  split
  · simp [*]
  · split <;> simp <;> omega

def cOrder : Ct := ⟨[.d histT], [.sl i64], fun x => (orderL x.1, ()), fun x => [((chL x.1).length : Int) ≤ 1000000]⟩

theorem order_ok : SoundCt Try.prog 82 cOrder :=
  conv (fn_sound CO2_ok (Λ := ΛOrd) (fn := Try.f82) (fr := fr_order) (ps := [.d histT]) (rs := [.sl i64]) (dfP [.d histT]) (by kernel_rfl)
    (fun c E hc => lam1f hc (by kernel_rfl) (b := loopF Try.f82 0) (by kernel_rfl) (Does.han CO2_ok rfl loopOrd)) (fun x => by kernel_rfl)) _ _ fun _ _ x _ _ hok => by
    obtain ⟨h, rfl⟩ : ∃ h : histT.den, x = (h, ()) := ⟨x.1, rfl⟩
    have hok' : ((chL h).length : Int) ≤ 1000000 := hok
    have e : ((chL h).length : Int).toNat = (chL h).length := rfl
    dsimp only [fr_order, Fr.ok, Fr.get, mSort]
    rw [e, ltOf_ord, rangeI_length]
    refine ⟨⟨⟨Int.le_refl _, by omega, hok', rfl⟩, by omega, ⟨fun x hx y hy => ⟨rangeI_mem hx, rangeI_mem hy⟩, dayOf h, fun x _ y _ => by rw [ltOf_ord]; rfl⟩, trivial⟩, rfl⟩

end Go.Proofs.Ytbplccbjgfappaa

/-
  bordereauref11.Order: the places of changes, by their days, by halves.
-/
namespace Go.Proofs.Ytbplccbjgfappaa
open Go Go.Ab Go.RowKit Go.Proofs

section
variable {key : Int → Int} {lt : Int → Int → Bool}

theorem sortB_left {x : Int} {a b : List Int} (hl : LtK lt key ((x :: a) ++ b)) (sa : SortK key (x :: a)) (sb : ∀ y ∈ b, key x ≤ key y) : sortB lt ((x :: a) ++ b) = x :: sortB lt (a ++ b) := by
  have hl2 : LtK lt key (a ++ b) := hl.sub fun z hz => by simp at hz ⊢; exact .inr hz
  obtain ⟨h1, h2⟩ := sortB_sort hl2
  symm
  refine eq_sortB hl (List.pairwise_cons.2 ⟨fun y hy => ?_, h1⟩) ?_
  · rcases List.mem_append.1 (sortB_mem.1 hy) with h | h
    · exact (List.pairwise_cons.1 sa).1 y h
    · exact sb y h
  · have := (SameK.refl (key := key) [x]).app h2
    simpa using this

theorem sortB_right {y : Int} {a b : List Int} (hl : LtK lt key (a ++ (y :: b))) (sb : SortK key (y :: b)) (sa : ∀ x ∈ a, key y < key x) : sortB lt (a ++ (y :: b)) = y :: sortB lt (a ++ b) := by
  have hl2 : LtK lt key (a ++ b) := hl.sub fun z hz => by simp at hz ⊢; rcases hz with h | h <;> simp [h]
  obtain ⟨h1, h2⟩ := sortB_sort hl2
  symm
  refine eq_sortB hl (List.pairwise_cons.2 ⟨fun z hz => ?_, h1⟩) ?_
  · rcases List.mem_append.1 (sortB_mem.1 hz) with h | h
    · exact Int.le_of_lt (sa z h)
    · exact (List.pairwise_cons.1 sb).1 z h
  · have e1 : SameK key ((a ++ [y]) ++ b) (([y] ++ a) ++ b) := (SameK.swap fun u hu v hv => by simp at hv; subst hv; have := sa u hu; omega).app (SameK.refl b)
    have e2 := (SameK.refl (key := key) [y]).app h2
    have e3 : SameK key (a ++ (y :: b)) ([y] ++ (a ++ b)) := by simpa using e1
    have := e3.trans e2
    simpa using this

theorem sortB_two {a b : List Int} (hl : LtK lt key (a ++ b)) : sortB lt (sortB lt a ++ sortB lt b) = sortB lt (a ++ b) := by
  have ha : LtK lt key a := hl.sub fun z hz => List.mem_append_left _ hz
  have hb : LtK lt key b := hl.sub fun z hz => List.mem_append_right _ hz
  have hs : LtK lt key (sortB lt a ++ sortB lt b) := hl.sub fun z hz => by
    rcases List.mem_append.1 hz with h | h
    · exact List.mem_append_left _ (sortB_mem.1 h)
    · exact List.mem_append_right _ (sortB_mem.1 h)
  obtain ⟨h1, h2⟩ := sortB_sort hs
  exact eq_sortB hl h1 (((sortB_sort ha).2.app (sortB_sort hb).2).trans h2)
end

theorem ltDay_ltK (h : histT.den) (l : List Int) : LtK (ltDay h) (dayOf h) l := fun _ _ _ _ => rfl

/-! Two rows become one -/
noncomputable def CM0 : Cx := cx [] []
theorem CM0_ok : CxOK Try.prog CM0 := cx_ok mixed trivial trivial

abbrev pt_mrg : Pt := ⟨70, 0, ⟨[(1, .d ints), (2, .d ints), (8, .d i64), (9, .d i64)], [.x 3 31 histT, .r 3 3 0, .o 7 3 i64]⟩, ⟨[], [.o 7 3 i64]⟩, ⟨[], []⟩⟩

set_option maxRecDepth 100000 in
def fr_mrg (x : pt_mrg.M.X) : Fr pt_mrg.Out :=
  let a : List Int := x.1.1; let b : List Int := x.1.2.1; let i : Int := x.1.2.2.1; let j : Int := x.1.2.2.2.1; let h : histT.den := x.2.1; let l : List Int := x.2.2.1
  Fr.br (bif decide (i < (a.length : Int)) then true else decide (j < (b.length : Int)))
    (Fr.need (decide (i < (a.length : Int)) = true → (j == (b.length : Int)) = false → 0 ≤ i ∧ i < (a.length : Int))
      (Fr.need (decide (i < (a.length : Int)) = true → (j == (b.length : Int)) = false → 0 ≤ a.getD i.toNat i64.dflt ∧ a.getD i.toNat i64.dflt < ((chL h).length : Int))
        (Fr.need (decide (i < (a.length : Int)) = true → (j == (b.length : Int)) = false → 0 ≤ j ∧ j < (b.length : Int))
          (Fr.need (decide (i < (a.length : Int)) = true → (j == (b.length : Int)) = false → 0 ≤ b.getD j.toNat i64.dflt ∧ b.getD j.toNat i64.dflt < ((chL h).length : Int))
            (Fr.br (bif j == (b.length : Int) then true else bif decide (i < (a.length : Int)) then decide (dayOf h (a.getD i.toNat i64.dflt) ≤ dayOf h (b.getD j.toNat i64.dflt)) else false)
              (Fr.need (0 ≤ i ∧ i < (a.length : Int))
                (Fr.need (l.length + [a.getD i.toNat i64.dflt].length ≤ maxLen ∧ (l.length + [a.getD i.toNat i64.dflt].length) * Try.prog.types[3].bytes ≤ 140737488355328)
                  (Fr.val (Rd.next ((a, b, IntKind.i64.wrap (i + 1), j, ()), (h, l ++ [a.getD i.toNat i64.dflt], ()))))))
              (Fr.need (0 ≤ j ∧ j < (b.length : Int))
                (Fr.need (l.length + [b.getD j.toNat i64.dflt].length ≤ maxLen ∧ (l.length + [b.getD j.toNat i64.dflt].length) * Try.prog.types[3].bytes ≤ 140737488355328)
                  (Fr.val (Rd.next ((a, b, i, IntKind.i64.wrap (j + 1), ()), (h, l ++ [b.getD j.toNat i64.dflt], ())))))))))))
    (Fr.val (Rd.out ((), (l, ()))))

theorem sem_mrg : Does Try.prog (loopF Try.f129 0) pt_mrg.M pt_mrg fr_mrg :=
  Does.of_run CM0_ok (bs := 0) (Λ := lam0) rfl rfl rfl (fun E => lam0_ok _ 0) (fun x => by kernel_rfl)

structure InvMrg (a b : List Int) (i j : Int) (h : histT.den) (l : List Int) : Prop where
  i0 : 0 ≤ i
  j0 : 0 ≤ j
  ia : i ≤ a.length
  jb : j ≤ b.length
  room : (l.length : Int) + (a.length - i) + (b.length - j) ≤ 1000000
  small : (a.length : Int) + b.length ≤ 1000000
  inA : ∀ x ∈ a, 0 ≤ x ∧ x < ((chL h).length : Int)
  inB : ∀ x ∈ b, 0 ≤ x ∧ x < ((chL h).length : Int)
  sA : SortK (dayOf h) a
  sB : SortK (dayOf h) b

def FMrg (x : pt_mrg.M.X) : Fr pt_mrg.Out :=
  let a : List Int := x.1.1; let b : List Int := x.1.2.1; let i : Int := x.1.2.2.1; let j : Int := x.1.2.2.2.1; let h : histT.den := x.2.1; let l : List Int := x.2.2.1
  Fr.need (InvMrg a b i j h l) (Fr.val (Rd.out ((), (l ++ sortB (ltDay h) (a.drop i.toNat ++ b.drop j.toNat), ()))))

theorem drop_at {l : List Int} {i : Nat} (h : i < l.length) : l.drop i = l.getD i 0 :: l.drop (i + 1) := by
  rw [List.drop_eq_getElem_cons h]
  simp [List.getD_eq_getElem?_getD, List.getElem?_eq_getElem h]

theorem sortK_drop {key : Int → Int} {l : List Int} (h : SortK key l) (i : Nat) : SortK key (l.drop i) := List.Pairwise.sublist (List.drop_sublist i l) h

theorem lawMrg (a b : List Int) (i j : Int) (h : histT.den) (l : List Int) (hinv : InvMrg a b i j h l) (Q : pt_mrg.Out → Prop)
    (hq : Q (Rd.out ((), (l ++ sortB (ltDay h) (a.drop i.toNat ++ b.drop j.toNat), ())))) : (fr_mrg ((a, b, i, j, ()), (h, l, ()))).satP fun
      | .next x' => InvMrg x'.1.1 x'.1.2.1 x'.1.2.2.1 x'.1.2.2.2.1 x'.2.1 x'.2.2.1 ∧ ((List.length (α := Int) x'.1.1 : Int) - x'.1.2.2.1).toNat + ((List.length (α := Int) x'.1.2.1 : Int) - x'.1.2.2.2.1).toNat < ((a.length : Int) - i).toNat + ((b.length : Int) - j).toNat ∧ (FMrg x').satP Q
      | .out y => Q (.out y)
      | .back z => Q (.back z)
      | .pan p => Q (.pan p) := by
  obtain ⟨h0, h1, h2, h3, h4, h44, h5, h6, h7, h8⟩ := hinv
  obtain ⟨i', rfl⟩ : ∃ n : Nat, i = n := ⟨i.toNat, by omega⟩
  obtain ⟨j', rfl⟩ : ∃ n : Nat, j = n := ⟨j.toNat, by omega⟩
  have hA : i' < a.length → a.getD i' 0 ∈ a := fun h => getD_mem h
  have hB : j' < b.length → b.getD j' 0 ∈ b := fun h => getD_mem h
  simp only [Int.toNat_natCast] at hq
  dsimp only [fr_mrg, Fr.satP, Ty.den, PT.den]
  rw [intBytes]
  simp only [Int.toNat_natCast, List.length_cons, List.length_nil]
  -- take from the first row
  have takeA : i' < a.length → (j' < b.length → dayOf h (a.getD i' 0) ≤ dayOf h (b.getD j' 0)) →
      InvMrg a b ((i' + 1 : Nat) : Int) j' h (l ++ [a.getD i' 0]) ∧ Q (Rd.out ((), (l ++ [a.getD i' 0] ++ sortB (ltDay h) (a.drop (i' + 1) ++ b.drop j'), ()))) := fun hi hle => by
    refine ⟨⟨by omega, by omega, by omega, h3, by simp; omega, h44, h5, h6, h7, h8⟩, ?_⟩
    have e := sortB_left (lt := ltDay h) (key := dayOf h) (x := a.getD i' 0) (a := a.drop (i' + 1)) (b := b.drop j') (ltDay_ltK _ _) (by rw [← drop_at hi]; exact sortK_drop h7 i') (fun y hy => by
      have hj : j' < b.length := by
        rcases Nat.lt_or_ge j' b.length with h | h
        · exact h
        · rw [List.drop_eq_nil_of_le h] at hy; simp at hy
      have hs := sortK_drop h8 j'
      rw [drop_at hj] at hs hy
      rcases List.mem_cons.1 hy with rfl | hy
      · exact hle hj
      · exact Int.le_trans (hle hj) ((List.pairwise_cons.1 hs).1 y hy))
    rw [drop_at hi, e] at hq
    simpa using hq
  have takeB : j' < b.length → (i' < a.length → ¬ dayOf h (a.getD i' 0) ≤ dayOf h (b.getD j' 0)) →
      InvMrg a b (i' : Int) ((j' + 1 : Nat) : Int) h (l ++ [b.getD j' 0]) ∧ Q (Rd.out ((), (l ++ [b.getD j' 0] ++ sortB (ltDay h) (a.drop i' ++ b.drop (j' + 1)), ()))) := fun hj hlt => by
    refine ⟨⟨by omega, by omega, h2, by omega, by simp; omega, h44, h5, h6, h7, h8⟩, ?_⟩
    have e := sortB_right (lt := ltDay h) (key := dayOf h) (y := b.getD j' 0) (a := a.drop i') (b := b.drop (j' + 1)) (ltDay_ltK _ _) (by rw [← drop_at hj]; exact sortK_drop h8 j') (fun x hx => by
      have hi : i' < a.length := by
        rcases Nat.lt_or_ge i' a.length with h | h
        · exact h
        · rw [List.drop_eq_nil_of_le h] at hx; simp at hx
      have hs := sortK_drop h7 i'
      rw [drop_at hi] at hs hx
      have hl := hlt hi
      rcases List.mem_cons.1 hx with rfl | hx
      · omega
      · have := (List.pairwise_cons.1 hs).1 x hx
        omega)
    rw [drop_at hj, e] at hq
    simpa using hq
  have w1 : i' < a.length → IntKind.i64.wrap ((i' : Int) + 1) = (i' + 1 : Nat) := fun h => succ_nat (by omega)
  have w2 : j' < b.length → IntKind.i64.wrap ((j' : Int) + 1) = (j' + 1 : Nat) := fun h => succ_nat (by omega)
  have fin : ∀ (p : Bool) (hp : p = true → i' < a.length ∧ (j' < b.length → dayOf h (a.getD i' 0) ≤ dayOf h (b.getD j' 0))) (hp' : p = false → j' < b.length ∧ (i' < a.length → ¬ dayOf h (a.getD i' 0) ≤ dayOf h (b.getD j' 0))), True := fun _ _ _ => trivial
  by_cases hi : i' < a.length
  · have di : decide ((i' : Int) < (a.length : Int)) = true := decide_eq_true (by omega)
    rw [di]
    by_cases hj : j' < b.length
    · have dj : ((j' : Int) == (b.length : Int)) = false := by rw [beq_eq_false_iff_ne]; omega
      rw [dj]
      refine ⟨fun _ => ⟨fun _ _ => ⟨by omega, by omega⟩, fun _ _ => h5 _ (hA hi), fun _ _ => ⟨by omega, by omega⟩, fun _ _ => h6 _ (hB hj), fun hc => ?_, fun hc => ?_⟩, fun hc => by cases hc⟩
      · have hle : dayOf h (a.getD i' 0) ≤ dayOf h (b.getD j' 0) := of_decide_eq_true hc
        obtain ⟨k1, k2⟩ := takeA hi (fun _ => hle)
        rw [w1 hi]
        refine ⟨⟨by omega, by omega⟩, ⟨by simp only [maxLen]; omega, by omega⟩, k1, by omega, k1, k2⟩
      · have hle : ¬ dayOf h (a.getD i' 0) ≤ dayOf h (b.getD j' 0) := of_decide_eq_false hc
        obtain ⟨k1, k2⟩ := takeB hj (fun _ => hle)
        rw [w2 hj]
        refine ⟨⟨by omega, by omega⟩, ⟨by simp only [maxLen]; omega, by omega⟩, k1, by omega, k1, k2⟩
    · have dj : ((j' : Int) == (b.length : Int)) = true := by rw [beq_iff_eq]; omega
      rw [dj]
      refine ⟨fun _ => ⟨fun _ hc => (by cases hc), fun _ hc => (by cases hc), fun _ hc => (by cases hc), fun _ hc => (by cases hc), fun _ => ?_, fun hc => by cases hc⟩, fun hc => by cases hc⟩
      obtain ⟨k1, k2⟩ := takeA hi (fun h => absurd h hj)
      rw [w1 hi]
      refine ⟨⟨by omega, by omega⟩, ⟨by simp only [maxLen]; omega, by omega⟩, k1, by omega, k1, k2⟩
  · have di : decide ((i' : Int) < (a.length : Int)) = false := decide_eq_false (by omega)
    rw [di]
    by_cases hj : j' < b.length
    · have dj : ((j' : Int) == (b.length : Int)) = false := by rw [beq_eq_false_iff_ne]; omega
      rw [dj]
      refine ⟨fun _ => ⟨fun hc => (by cases hc), fun hc => (by cases hc), fun hc => (by cases hc), fun hc => (by cases hc), fun hc => (by cases hc), fun _ => ?_⟩, fun hc => ?_⟩
      · obtain ⟨k1, k2⟩ := takeB hj (fun h => absurd h hi)
        rw [w2 hj]
        refine ⟨⟨by omega, by omega⟩, ⟨by simp only [maxLen]; omega, by omega⟩, k1, by omega, k1, k2⟩
      · have : ¬ (j' : Int) < (b.length : Int) := of_decide_eq_false hc
        omega
    · have dj : decide ((j' : Int) < (b.length : Int)) = false := decide_eq_false (by omega)
      rw [dj]
      refine ⟨fun hc => (by cases hc), fun _ => ?_⟩
      rw [List.drop_eq_nil_of_le (by omega), List.drop_eq_nil_of_le (by omega)] at hq
      simpa [sortB] using hq

theorem loopMrg : Does Try.prog (.loop (loopF Try.f129 0)) pt_mrg.M pt_mrg FMrg := by
  refine Does.loop (n := 70) (id := 0) sem_mrg (inv := fun x => InvMrg x.1.1 x.1.2.1 x.1.2.2.1 x.1.2.2.2.1 x.2.1 x.2.2.1) (μ := fun x => ((List.length (α := Int) x.1.1 : Int) - x.1.2.2.1).toNat + ((List.length (α := Int) x.1.2.1 : Int) - x.1.2.2.2.1).toNat) ?_ (fun x Q h => h.1)
  rintro ⟨⟨a, b, i, j, _⟩, ⟨h, l, _⟩⟩ hinv Q hq
  exact lawMrg a b i j h l hinv Q hq.2

noncomputable def ΛMrg : Nat → St → Option Tr := fun _ => pt_mrg.han CM0.Γ pt_mrg.M FMrg

def fr_merge (x : denP [.d histT, .d ints, .d ints]) : Fr (denL [.sl i64]) :=
  Fr.need (InvMrg x.2.1 x.2.2.1 0 0 x.1 []) (Fr.val ([] ++ sortB (ltDay x.1) (x.2.1.drop (0 : Int).toNat ++ x.2.2.1.drop (0 : Int).toNat), ()))

structure MrgOk (h : histT.den) (a b : List Int) : Prop where
  inA : ∀ x ∈ a, 0 ≤ x ∧ x < ((chL h).length : Int)
  inB : ∀ x ∈ b, 0 ≤ x ∧ x < ((chL h).length : Int)
  sA : SortK (dayOf h) a
  sB : SortK (dayOf h) b
  room : (a.length : Int) + b.length ≤ 1000000

def cMerge : Ct := ⟨[.d histT, .d ints, .d ints], [.sl i64], fun x => (sortB (ltDay x.1) (x.2.1 ++ x.2.2.1), ()), fun x => [MrgOk x.1 x.2.1 x.2.2.1]⟩
theorem merge_ok : SoundCt Try.prog 129 cMerge :=
  conv (fn_sound CM0_ok (Λ := ΛMrg) (fn := Try.f129) (fr := fr_merge) (ps := [.d histT, .d ints, .d ints]) (rs := [.sl i64]) (dfP [.d histT, .d ints, .d ints]) (by kernel_rfl)
    (fun c E hc => lam1f hc (by kernel_rfl) (b := loopF Try.f129 0) (by kernel_rfl) (Does.han CM0_ok rfl loopMrg)) (fun x => by kernel_rfl)) _ _ fun _ _ x _ _ hok => by
    obtain ⟨h, a, b, rfl⟩ : ∃ (h : histT.den) (a b : List Int), x = (h, a, b, ()) := ⟨x.1, x.2.1, x.2.2.1, rfl⟩
    have hok' : MrgOk h a b := hok
    obtain ⟨h1, h2, h3, h4, h5⟩ := hok'
    exact ⟨⟨⟨Int.le_refl _, Int.le_refl _, by omega, by omega, by simp; omega, h5, h1, h2, h3, h4⟩, trivial⟩, rfl⟩

/-! By halves -/
def rangeFT (a b : Nat) : List Int := (List.range' a (b - a)).map fun i : Nat => (i : Int)
theorem rangeFT_split {a m b : Nat} (h1 : a ≤ m) (h2 : m ≤ b) : rangeFT a m ++ rangeFT m b = rangeFT a b := by
  unfold rangeFT
  rw [← List.map_append]
  congr 1
  rw [show List.range' m (b - m) = List.range' (a + (m - a)) (b - m) by congr 1; omega, List.range'_append_1]
  congr 1
  omega
theorem rangeFT_mem {a b : Nat} {x : Int} (h : x ∈ rangeFT a b) : (a : Int) ≤ x ∧ x < b := by
  simp only [rangeFT, List.mem_map, List.mem_range'_1] at h
  obtain ⟨i, hi, rfl⟩ := h
  omega
theorem rangeFT_zero (n : Nat) : rangeFT 0 n = rangeI n := by simp [rangeFT, rangeI, List.range_eq_range']
theorem rangeFT_length (a b : Nat) : (rangeFT a b).length = b - a := by simp [rangeFT]

structure OrdOk (n : Nat) (h : histT.den) (a b : Int) : Prop where
  a0 : 0 ≤ a
  ab : a ≤ b
  bl : b ≤ ((chL h).length : Int)
  big : ((chL h).length : Int) ≤ 1000000
  size : b - a < n

def cOrderR (n : Nat) : Ct := ⟨[.d histT, .d i64, .d i64], [.sl i64], fun x => (sortB (ltDay x.1) (rangeFT x.2.1.toNat x.2.2.1.toNat), ()), fun x => [OrdOk n x.1 x.2.1 x.2.2.1]⟩

noncomputable def CM1 (n : Nat) : Cx := cx [(129, cMerge), (86, cOrderR n)] []

def halfI (a b : Int) : Int := IntKind.i64.wrap ((IntKind.i64.wrap (a + b)).tdiv 2)
def fr_orderR (n : Nat) (x : denP [.d histT, .d i64, .d i64]) : Fr (denL [.sl i64]) :=
  let h := x.1; let a : Int := x.2.1; let b : Int := x.2.2.1
  Fr.br (decide (IntKind.i64.wrap (b - a) < 1)) (Fr.val ([], ()))
    (Fr.br (IntKind.i64.wrap (b - a) == 1) (Fr.val ([a], ()))
      (Fr.need ((2 : Int) ≠ 0)
        (Fr.need (OrdOk n h a (halfI a b))
          (Fr.need (OrdOk n h (halfI a b) b)
            (Fr.need (MrgOk h ((cOrderR n).f (h, a, halfI a b, ())).1 ((cOrderR n).f (h, halfI a b, b, ())).1)
              (Fr.val ((cMerge.f (h, ((cOrderR n).f (h, a, halfI a b, ())).1, ((cOrderR n).f (h, halfI a b, b, ())).1, ())).1, ())))))))

theorem run_orderR (n : Nat) (x : denP [.d histT, .d i64, .d i64]) : runFn Try.prog (CM1 n) lam0 Try.f86 [.d histT, .d i64, .d i64] [.sl i64] x = some (fr_orderR n x) := by kernel_rfl

theorem orderR_plain (n : Nat) (h : histT.den) (a b : Int) (hok : OrdOk (n + 1) h a b) : (fr_orderR n (h, a, b, ())).ok ∧ (fr_orderR n (h, a, b, ())).get = (sortB (ltDay h) (rangeFT a.toNat b.toNat), ()) := by
  obtain ⟨h0, h1, h2, h3, h4⟩ := hok
  obtain ⟨a', rfl⟩ : ∃ n : Nat, a = n := ⟨a.toNat, by omega⟩
  obtain ⟨b', rfl⟩ : ∃ n : Nat, b = n := ⟨b.toNat, by omega⟩
  have w1 : IntKind.i64.wrap ((b' : Int) - a') = (b' - a' : Nat) := sub_nat (by omega) (by omega)
  have w2 : halfI a' b' = ((a' + b') / 2 : Nat) := by
    unfold halfI
    rw [add_nat (by omega), Int.tdiv_eq_ediv_of_nonneg (by omega), IntWalk.i64_in _ (by omega)]
    omega
  dsimp only [fr_orderR]
  rw [w1, w2]
  simp only [Int.toNat_natCast]
  by_cases c1 : b' - a' < 1
  · have hd : decide (((b' - a' : Nat) : Int) < 1) = true := decide_eq_true (by omega)
    rw [hd]
    refine ⟨⟨fun _ => trivial, fun hc => by cases hc⟩, ?_⟩
    show ([], ()) = (sortB (ltDay h) (rangeFT a' b'), ())
    have : rangeFT a' b' = [] := List.eq_nil_of_length_eq_zero (by rw [rangeFT_length]; omega)
    rw [this]
    rfl
  · have hd : decide (((b' - a' : Nat) : Int) < 1) = false := decide_eq_false (by omega)
    rw [hd]
    by_cases c2 : b' - a' = 1
    · have hd : (((b' - a' : Nat) : Int) == 1) = true := by rw [c2]; rfl
      rw [hd]
      refine ⟨⟨fun hc => (by cases hc), fun _ => ⟨fun _ => trivial, fun hc => by cases hc⟩⟩, ?_⟩
      show ([(a' : Int)], ()) = (sortB (ltDay h) (rangeFT a' b'), ())
      have : rangeFT a' b' = [(a' : Int)] := by simp [rangeFT, c2]
      rw [this]
      rfl
    · have hd : (((b' - a' : Nat) : Int) == 1) = false := by rw [beq_eq_false_iff_ne]; omega
      rw [hd]
      have q1 : OrdOk n h (a' : Int) ((a' + b') / 2 : Nat) := ⟨h0, by omega, by omega, h3, by omega⟩
      have q2 : OrdOk n h ((a' + b') / 2 : Nat) (b' : Int) := ⟨by omega, by omega, h2, h3, by omega⟩
      have s1 := sortB_sort (l := rangeFT a' ((a' + b') / 2)) (ltDay_ltK h _)
      have s2 := sortB_sort (l := rangeFT ((a' + b') / 2) b') (ltDay_ltK h _)
      have q3 : MrgOk h (sortB (ltDay h) (rangeFT a' ((a' + b') / 2))) (sortB (ltDay h) (rangeFT ((a' + b') / 2) b')) :=
        ⟨fun x hx => (by have := rangeFT_mem (sortB_mem.1 hx); omega), fun x hx => (by have := rangeFT_mem (sortB_mem.1 hx); omega), s1.1, s2.1, by rw [sortB_length, sortB_length, rangeFT_length, rangeFT_length]; omega⟩
      refine ⟨⟨fun hc => (by cases hc), fun _ => ⟨fun hc => (by cases hc), fun _ => ⟨by decide, q1, q2, q3, trivial⟩⟩⟩, ?_⟩
      show (sortB (ltDay h) (sortB (ltDay h) (rangeFT a' ((a' + b') / 2)) ++ sortB (ltDay h) (rangeFT ((a' + b') / 2) b')), ()) = _
      rw [sortB_two (ltDay_ltK h _), rangeFT_split (by omega) (by omega)]

theorem orderR_ok : (n : Nat) → SoundCt Try.prog 86 (cOrderR n)
  | 0 => by
    have hf : Try.prog.funcs[86]? = some Try.f86 := by kernel_rfl
    obtain ⟨c, hb⟩ : ∃ c, Try.f86.body = some c := ⟨_, rfl⟩
    refine ⟨enters hf hb (by kernel_rfl), fun w F xs vs _ _ hok => ?_⟩
    have h : OrdOk 0 xs.1 xs.2.1 xs.2.2.1 := hok
    have h1 := h.ab
    have h2 := h.size
    omega
  | n + 1 => by
    have hC : CxOK Try.prog (CM1 n) := cx_ok mixed ⟨merge_ok, orderR_ok n, trivial⟩ trivial
    refine conv (fn_sound hC (Λ := lam0) (fn := Try.f86) (fr := fr_orderR n) (ps := [.d histT, .d i64, .d i64]) (rs := [.sl i64]) (dfP [.d histT, .d i64, .d i64]) (by kernel_rfl) (fun c E _ => lam0_ok c 0) (run_orderR n)) _ _ fun _ _ x _ _ hok => ?_
    obtain ⟨h, a, b, rfl⟩ : ∃ (h : histT.den) (a b : Int), x = (h, a, b, ()) := ⟨x.1, x.2.1, x.2.2.1, rfl⟩
    exact orderR_plain n h a b hok

noncomputable def CM2 : Cx := cx [(86, cOrderR 1000001)] []
theorem CM2_ok : CxOK Try.prog CM2 := cx_ok mixed ⟨orderR_ok _, trivial⟩ trivial

def cOrder11 : Ct := ⟨[.d histT], [.sl i64], fun x => (orderL x.1, ()), fun x => [((chL x.1).length : Int) ≤ 1000000]⟩
def fr_order11 (x : denP [.d histT]) : Fr (denL [.sl i64]) :=
  Fr.need (OrdOk 1000001 x.1 0 ((chL x.1).length : Int)) (Fr.val (((cOrderR 1000001).f (x.1, 0, ((chL x.1).length : Int), ())).1, ()))

theorem order11_ok : SoundCt Try.prog 44 cOrder11 :=
  conv (fn_sound CM2_ok (Λ := lam0) (fn := Try.f44) (fr := fr_order11) (ps := [.d histT]) (rs := [.sl i64]) (dfP [.d histT]) (by kernel_rfl) (fun c E _ => lam0_ok c 0) (fun x => by kernel_rfl)) _ _ fun _ _ x _ _ hok => by
    obtain ⟨h, rfl⟩ : ∃ h : histT.den, x = (h, ()) := ⟨x.1, rfl⟩
    have hok' : ((chL h).length : Int) ≤ 1000000 := hok
    have ho : OrdOk 1000001 h 0 ((chL h).length : Int) := ⟨Int.le_refl _, by omega, Int.le_refl _, hok', by omega⟩
    refine ⟨⟨ho, trivial⟩, ?_⟩
    show (sortB (ltDay h) (rangeFT 0 (chL h).length), ()) = (orderL h, ())
    rw [rangeFT_zero]
    rfl

end Go.Proofs.Ytbplccbjgfappaa

/-
  bordereauref12.Holds: what holds on a day.
-/
namespace Go.Proofs.Ytbplccbjgfappaa
open Go Go.Ab Go.RowKit Go.Proofs

/-- What a change does to what holds. -/
def doesC (s : sliceT.den) (c : changeT.den) : sliceT.den :=
  if c.2.2.1 = 1 then (s.1, s.2.1, c.2.2.2.1, s.2.2.2.1, s.2.2.2.2.1, ())
  else if c.2.2.1 = 2 then (s.1, s.2.1, s.2.2.1, c.2.2.2.2.1, s.2.2.2.2.1, ())
  else if c.2.2.1 = 3 then (s.1, false, s.2.2.1, s.2.2.2.1, s.2.2.2.2.1, ())
  else if c.2.2.1 = 4 then (s.1, true, s.2.2.1, s.2.2.2.1, s.2.2.2.2.1, ())
  else s

def chAt (h : histT.den) (i : Int) : changeT.den := (chL h).getD i.toNat changeT.dflt

/-- What holds behind changes, of those that are not behind a day. -/
def holdF (h : histT.den) (day : Int) : List Int → sliceT.den → sliceT.den
  | [], s => s
  | i :: l, s => holdF h day l (if dayOf h i > day then s else doesC s (chAt h i))

def firstS (h : histT.den) : sliceT.den := ((0, 0, ()), true, h.2.2.1.2.1, h.2.2.1.2.2.1, 0, ())

abbrev pt_hld : Pt := ⟨54, 0, ⟨[(1, .d ints), (2, .d i64), (8, .d i64)], [.x 3 31 histT, .r 3 3 0, .x 6 46 sliceT, .r 6 6 0, .x 7 46 sliceT, .r 7 7 0]⟩,
  ⟨[], [.x 6 46 sliceT, .r 6 6 0, .x 7 46 sliceT, .r 7 7 0]⟩, ⟨[], []⟩⟩

def fr_hld (x : pt_hld.M.X) : Fr pt_hld.Out :=
  let l : List Int := x.1.1; let day : Int := x.1.2.1; let i : Int := x.1.2.2.1; let h : histT.den := x.2.1; let r : sliceT.den := x.2.2.1; let s : sliceT.den := x.2.2.2.1
  let c : changeT.den := chAt h (l.getD i.toNat i64.dflt)
  Fr.br (decide (i < (l.length : Int)))
    (Fr.need (0 ≤ i ∧ i < (l.length : Int))
      (Fr.need (0 ≤ l.getD i.toNat i64.dflt ∧ l.getD i.toNat i64.dflt < ((chL h).length : Int))
        (Fr.br (decide (dayOf h (l.getD i.toNat i64.dflt) > day))
          (Fr.val (Rd.next ((l, day, IntKind.i64.wrap (i + 1), ()), (h, r, s, ()))))
          (Fr.br (c.2.2.1 == 1)
            (Fr.val (Rd.next ((l, day, IntKind.i64.wrap (i + 1), ()), (h, r, (s.1, s.2.1, c.2.2.2.1, s.2.2.2.1, s.2.2.2.2.1, ()), ()))))
            (Fr.br (c.2.2.1 == 2)
              (Fr.val (Rd.next ((l, day, IntKind.i64.wrap (i + 1), ()), (h, r, (s.1, s.2.1, s.2.2.1, c.2.2.2.2.1, s.2.2.2.2.1, ()), ()))))
              (Fr.br (c.2.2.1 == 3)
                (Fr.val (Rd.next ((l, day, IntKind.i64.wrap (i + 1), ()), (h, r, (s.1, false, s.2.2.1, s.2.2.2.1, s.2.2.2.2.1, ()), ()))))
                (Fr.br (c.2.2.1 == 4)
                  (Fr.val (Rd.next ((l, day, IntKind.i64.wrap (i + 1), ()), (h, r, (s.1, true, s.2.2.1, s.2.2.2.1, s.2.2.2.2.1, ()), ()))))
                  (Fr.val (Rd.next ((l, day, IntKind.i64.wrap (i + 1), ()), (h, r, s, ())))))))))))
    (Fr.val (Rd.out ((), (r, s, ()))))

theorem sem_hld : Does Try.prog (loopF Try.f45 0) pt_hld.M pt_hld fr_hld :=
  Does.of_run CM0_ok (bs := 0) (Λ := lam0) rfl rfl rfl (fun E => lam0_ok _ 0) (fun x => by kernel_rfl)

structure InvHld (l : List Int) (i : Int) (h : histT.den) : Prop where
  i0 : 0 ≤ i
  il : i ≤ l.length
  big : (l.length : Int) ≤ 9223372036854775807
  inl : ∀ x ∈ l, 0 ≤ x ∧ x < ((chL h).length : Int)

def FHld (x : pt_hld.M.X) : Fr pt_hld.Out :=
  let l : List Int := x.1.1; let day : Int := x.1.2.1; let i : Int := x.1.2.2.1; let h : histT.den := x.2.1; let r : sliceT.den := x.2.2.1; let s : sliceT.den := x.2.2.2.1
  Fr.need (InvHld l i h) (Fr.val (Rd.out ((), (r, holdF h day (l.drop i.toNat) s, ()))))

theorem lawHld (l : List Int) (day i : Int) (h : histT.den) (r s : sliceT.den) (hinv : InvHld l i h) (Q : pt_hld.Out → Prop)
    (hq : Q (Rd.out ((), (r, holdF h day (l.drop i.toNat) s, ())))) : (fr_hld ((l, day, i, ()), (h, r, s, ()))).satP fun
      | .next x' => InvHld x'.1.1 x'.1.2.2.1 x'.2.1 ∧ ((List.length (α := Int) x'.1.1 : Int) - x'.1.2.2.1).toNat < ((l.length : Int) - i).toNat ∧ (FHld x').satP Q
      | .out y => Q (.out y)
      | .back z => Q (.back z)
      | .pan p => Q (.pan p) := by
  obtain ⟨h0, h1, h2, h3⟩ := hinv
  obtain ⟨i', rfl⟩ : ∃ n : Nat, i = n := ⟨i.toNat, by omega⟩
  simp only [Int.toNat_natCast] at hq
  dsimp only [fr_hld, Fr.satP, Ty.den, PT.den]
  simp only [Int.toNat_natCast]
  refine ⟨fun hi => ?_, fun hi => ?_⟩
  · have hlt : i' < l.length := by have : (i' : Int) < (l.length : Int) := of_decide_eq_true hi; omega
    have w : IntKind.i64.wrap ((i' : Int) + 1) = (i' + 1 : Nat) := succ_nat (by omega)
    rw [w]
    have hI : InvHld l ((i' + 1 : Nat) : Int) h := ⟨by omega, by omega, h2, h3⟩
    have hm := h3 _ (getD_mem (d := (0 : Int)) hlt)
    rw [drop_at hlt] at hq
    simp only [holdF] at hq
    have hdone : ∀ s', s' = (if dayOf h (l.getD i' 0) > day then s else doesC s (chAt h (l.getD i' 0))) → InvHld l ((i' + 1 : Nat) : Int) h ∧ ((List.length (α := Int) l : Int) - ((i' + 1 : Nat) : Int)).toNat < ((l.length : Int) - (i' : Int)).toNat ∧
        (FHld ((l, day, ((i' + 1 : Nat) : Int), ()), (h, r, s', ()))).satP Q := fun s' hs => ⟨hI, by omega, hI, by subst hs; exact hq⟩
    refine ⟨⟨by omega, by omega⟩, hm, fun hc => ?_, fun hc => ?_⟩
    · have hc' : dayOf h (l.getD i' 0) > day := of_decide_eq_true hc
      exact hdone s (by rw [if_pos hc'])
    · have hc' : ¬ dayOf h (l.getD i' 0) > day := of_decide_eq_false hc
      rw [if_neg hc'] at hdone
      unfold doesC at hdone
      refine ⟨fun k => ?_, fun k => ⟨fun k2 => ?_, fun k2 => ⟨fun k3 => ?_, fun k3 => ⟨fun k4 => ?_, fun k4 => ?_⟩⟩⟩⟩
      · have k' : (chAt h (l.getD i' 0)).2.2.1 = 1 := eq_of_beq (α := Int) k
        exact hdone _ (by rw [if_pos k']; rfl)
      · have k' : ¬ (chAt h (l.getD i' 0)).2.2.1 = 1 := ne_of_beq_false (α := Int) k
        have k2' : (chAt h (l.getD i' 0)).2.2.1 = 2 := eq_of_beq (α := Int) k2
        exact hdone _ (by rw [if_neg k', if_pos k2']; rfl)
      · have k' : ¬ (chAt h (l.getD i' 0)).2.2.1 = 1 := ne_of_beq_false (α := Int) k
        have k2' : ¬ (chAt h (l.getD i' 0)).2.2.1 = 2 := ne_of_beq_false (α := Int) k2
        have k3' : (chAt h (l.getD i' 0)).2.2.1 = 3 := eq_of_beq (α := Int) k3
        exact hdone _ (by rw [if_neg k', if_neg k2', if_pos k3'])
      · have k' : ¬ (chAt h (l.getD i' 0)).2.2.1 = 1 := ne_of_beq_false (α := Int) k
        have k2' : ¬ (chAt h (l.getD i' 0)).2.2.1 = 2 := ne_of_beq_false (α := Int) k2
        have k3' : ¬ (chAt h (l.getD i' 0)).2.2.1 = 3 := ne_of_beq_false (α := Int) k3
        have k4' : (chAt h (l.getD i' 0)).2.2.1 = 4 := eq_of_beq (α := Int) k4
        exact hdone _ (by rw [if_neg k', if_neg k2', if_neg k3', if_pos k4'])
      · have k' : ¬ (chAt h (l.getD i' 0)).2.2.1 = 1 := ne_of_beq_false (α := Int) k
        have k2' : ¬ (chAt h (l.getD i' 0)).2.2.1 = 2 := ne_of_beq_false (α := Int) k2
        have k3' : ¬ (chAt h (l.getD i' 0)).2.2.1 = 3 := ne_of_beq_false (α := Int) k3
        have k4' : ¬ (chAt h (l.getD i' 0)).2.2.1 = 4 := ne_of_beq_false (α := Int) k4
        exact hdone _ (by rw [if_neg k', if_neg k2', if_neg k3', if_neg k4'])
  · have hge : ¬ i' < l.length := by have : ¬ (i' : Int) < (l.length : Int) := of_decide_eq_false hi; omega
    rw [List.drop_eq_nil_of_le (by omega)] at hq
    exact hq

theorem loopHld : Does Try.prog (.loop (loopF Try.f45 0)) pt_hld.M pt_hld FHld := by
  refine Does.loop (n := 54) (id := 0) sem_hld (inv := fun x => InvHld x.1.1 x.1.2.2.1 x.2.1) (μ := fun x => ((List.length (α := Int) x.1.1 : Int) - x.1.2.2.1).toNat) ?_ (fun x Q h => h.1)
  rintro ⟨⟨l, day, i, _⟩, ⟨h, r, s, _⟩⟩ hinv Q hq
  exact lawHld l day i h r s hinv Q hq.2

noncomputable def ΛHld : Nat → St → Option Tr := fun _ => pt_hld.han CM0.Γ pt_hld.M FHld

def fr_holds (x : denP [.d histT, .d ints, .d i64]) : Fr (denL [sliceT]) :=
  Fr.need (InvHld x.2.1 0 x.1) (Fr.val (holdF x.1 x.2.2.1 (x.2.1.drop (0 : Int).toNat) (firstS x.1), ()))

def cHoldF : Ct := ⟨[.d histT, .d ints, .d i64], [sliceT], fun x => (holdF x.1 x.2.2.1 x.2.1 (firstS x.1), ()), fun x => [∀ i ∈ x.2.1, 0 ≤ i ∧ i < ((chL x.1).length : Int)]⟩
theorem holds12_ok : SoundCt Try.prog 45 cHoldF :=
  conv (fn_sound CM0_ok (Λ := ΛHld) (fn := Try.f45) (fr := fr_holds) (ps := [.d histT, .d ints, .d i64]) (rs := [sliceT]) (dfP [.d histT, .d ints, .d i64]) (by kernel_rfl)
    (fun c E hc => lam1f hc (by kernel_rfl) (b := loopF Try.f45 0) (by kernel_rfl) (Does.han CM0_ok rfl loopHld)) (fun x => by kernel_rfl)) _ _ fun w F x vs hr hok => by
    obtain ⟨h, l, day, rfl⟩ : ∃ (h : histT.den) (l : List Int) (day : Int), x = (h, l, day, ()) := ⟨x.1, x.2.1, x.2.2.1, rfl⟩
    obtain ⟨_, _, _, _, v, vs', _, hv, _⟩ := hr
    have hlen : (l.length : Int) ≤ 9223372036854775807 := wf_len hv
    exact ⟨⟨⟨Int.le_refl _, by omega, hlen, hok⟩, trivial⟩, rfl⟩

end Go.Proofs.Ytbplccbjgfappaa

/-
  Slices that are one; a day's slice; histories that may be: loops.
-/
namespace Go.Proofs.Ytbplccbjgfappaa
open Go Go.Ab Go.RowKit Go.Proofs

noncomputable def CHA : Cx := cx [(52, cHolds), (46, cHolds), (85, cChange), (84, cTerms), (48, cIn), (23, cIn)] []
theorem CHA_ok : CxOK Try.prog CHA := cx_ok mixed ⟨holds_ok, like_ok, r11_Right_ok, r10_Right_ok, inS_ok, in3_ok, trivial⟩ trivial

def ff_slices_Same (x : denP [.d sliceT, .d sliceT]) : Fr (denL [.bool]) :=
  Fr.val (bif bif x.fst.fst.fst == x.snd.fst.fst.fst && (x.fst.fst.snd.fst == x.snd.fst.fst.snd.fst && true) then x.fst.snd.snd.snd.snd.fst == x.snd.fst.snd.snd.snd.snd.fst else false then (cHolds.f (((x.fst.fst.fst, x.fst.fst.snd.fst, ()), x.fst.snd.fst, (x.fst.snd.snd.fst.fst, x.fst.snd.snd.fst.snd.fst, x.fst.snd.snd.fst.snd.snd.fst, x.fst.snd.snd.fst.snd.snd.snd.fst, ()), x.fst.snd.snd.snd.fst, x.fst.snd.snd.snd.snd.fst, ()), ((x.snd.fst.fst.fst, x.snd.fst.fst.snd.fst, ()), x.snd.fst.snd.fst, (x.snd.fst.snd.snd.fst.fst, x.snd.fst.snd.snd.fst.snd.fst, x.snd.fst.snd.snd.fst.snd.snd.fst, x.snd.fst.snd.snd.fst.snd.snd.snd.fst, ()), x.snd.fst.snd.snd.snd.fst, x.snd.fst.snd.snd.snd.snd.fst, ()), ())).fst else false, ())
theorem ff_slices_Same_ok : SoundCt Try.prog 25 ⟨[.d sliceT, .d sliceT], [.bool], fun xs => (ff_slices_Same xs).get, fun xs => [(ff_slices_Same xs).ok]⟩ :=
  fn_sound CHA_ok (Λ := lam0) (fn := Try.f25) (dfP [.d sliceT, .d sliceT]) (by kernel_rfl) (fun c E _ => lam0_ok c 0) (fun x => by kernel_rfl)

def ff_r12_Same (x : denP [.d sliceT, .d sliceT]) : Fr (denL [.bool]) :=
  Fr.val (bif bif x.fst.fst.fst == x.snd.fst.fst.fst && (x.fst.fst.snd.fst == x.snd.fst.fst.snd.fst && true) then x.fst.snd.snd.snd.snd.fst == x.snd.fst.snd.snd.snd.snd.fst else false then (cHolds.f (((x.fst.fst.fst, x.fst.fst.snd.fst, ()), x.fst.snd.fst, (x.fst.snd.snd.fst.fst, x.fst.snd.snd.fst.snd.fst, x.fst.snd.snd.fst.snd.snd.fst, x.fst.snd.snd.fst.snd.snd.snd.fst, ()), x.fst.snd.snd.snd.fst, x.fst.snd.snd.snd.snd.fst, ()), ((x.snd.fst.fst.fst, x.snd.fst.fst.snd.fst, ()), x.snd.fst.snd.fst, (x.snd.fst.snd.snd.fst.fst, x.snd.fst.snd.snd.fst.snd.fst, x.snd.fst.snd.snd.fst.snd.snd.fst, x.snd.fst.snd.snd.fst.snd.snd.snd.fst, ()), x.snd.fst.snd.snd.snd.fst, x.snd.fst.snd.snd.snd.snd.fst, ()), ())).fst else false, ())
theorem ff_r12_Same_ok : SoundCt Try.prog 21 ⟨[.d sliceT, .d sliceT], [.bool], fun xs => (ff_r12_Same xs).get, fun xs => [(ff_r12_Same xs).ok]⟩ :=
  fn_sound CHA_ok (Λ := lam0) (fn := Try.f21) (dfP [.d sliceT, .d sliceT]) (by kernel_rfl) (fun c E _ => lam0_ok c 0) (fun x => by kernel_rfl)

abbrev pt_slices_At : Pt := ⟨21, 0, ⟨[(10, .d i64), (9, .d i64), (8, .d slsT), (1, .d i64)], [.x 4 46 sliceT, .r 4 4 0]⟩, ⟨[], [.x 4 46 sliceT, .r 4 4 0]⟩, ⟨[(5, .d .bool)], [.x 4 46 sliceT, .r 4 4 0]⟩⟩
def fr_slices_At (x : pt_slices_At.M.X) : Fr pt_slices_At.Out :=
  Fr.br (decide (x.fst.fst < x.fst.snd.fst)) (Fr.need (0 ≤ x.fst.fst ∧ x.fst.fst < ((List.length x.fst.snd.snd.fst) : Int)) (Fr.br (cIn.f (((List.getD x.fst.snd.snd.fst (Int.toNat x.fst.fst) sliceT.dflt).fst.fst, (List.getD x.fst.snd.snd.fst (Int.toNat x.fst.fst) sliceT.dflt).fst.snd.fst, ()), x.fst.snd.snd.snd.fst, ())).fst (Fr.val (Rd.back ((true, ()), (((List.getD x.fst.snd.snd.fst (Int.toNat x.fst.fst) sliceT.dflt).fst.fst, (List.getD x.fst.snd.snd.fst (Int.toNat x.fst.fst) sliceT.dflt).fst.snd.fst, ()), (List.getD x.fst.snd.snd.fst (Int.toNat x.fst.fst) sliceT.dflt).snd.fst, ((List.getD x.fst.snd.snd.fst (Int.toNat x.fst.fst) sliceT.dflt).snd.snd.fst.fst, (List.getD x.fst.snd.snd.fst (Int.toNat x.fst.fst) sliceT.dflt).snd.snd.fst.snd.fst, (List.getD x.fst.snd.snd.fst (Int.toNat x.fst.fst) sliceT.dflt).snd.snd.fst.snd.snd.fst, (List.getD x.fst.snd.snd.fst (Int.toNat x.fst.fst) sliceT.dflt).snd.snd.fst.snd.snd.snd.fst, ()), (List.getD x.fst.snd.snd.fst (Int.toNat x.fst.fst) sliceT.dflt).snd.snd.snd.fst, (List.getD x.fst.snd.snd.fst (Int.toNat x.fst.fst) sliceT.dflt).snd.snd.snd.snd.fst, ()), ()))) (Fr.val (Rd.next ((IntKind.i64.wrap (x.fst.fst + 1), x.fst.snd.fst, x.fst.snd.snd.fst, x.fst.snd.snd.snd.fst, ()), ((x.snd.fst.fst.fst, x.snd.fst.fst.snd.fst, ()), x.snd.fst.snd.fst, (x.snd.fst.snd.snd.fst.fst, x.snd.fst.snd.snd.fst.snd.fst, x.snd.fst.snd.snd.fst.snd.snd.fst, x.snd.fst.snd.snd.fst.snd.snd.snd.fst, ()), x.snd.fst.snd.snd.snd.fst, x.snd.fst.snd.snd.snd.snd.fst, ()), ()))))) (Fr.val (Rd.out ((), ((x.snd.fst.fst.fst, x.snd.fst.fst.snd.fst, ()), x.snd.fst.snd.fst, (x.snd.fst.snd.snd.fst.fst, x.snd.fst.snd.snd.fst.snd.fst, x.snd.fst.snd.snd.fst.snd.snd.fst, x.snd.fst.snd.snd.fst.snd.snd.snd.fst, ()), x.snd.fst.snd.snd.snd.fst, x.snd.fst.snd.snd.snd.snd.fst, ()), ())))
theorem sem_slices_At : Does Try.prog (loopF Try.f20 0) pt_slices_At.M pt_slices_At fr_slices_At :=
  Does.of_run CHA_ok (bs := 0) (Λ := lam0) rfl rfl rfl (fun E => lam0_ok _ 0) (fun x => by kernel_rfl)
abbrev st_slices_At : Type := denP [.d i64] × denM [.x 4 46 sliceT, .r 4 4 0]
def step_slices_At (e : sliceT.den) (s : st_slices_At) : Fr (st_slices_At ⊕ pt_slices_At.R.X) :=
  Fr.br (cIn.f ((e.fst.fst, e.fst.snd.fst, ()), s.fst.fst, ())).fst (Fr.val (.inr ((true, ()), ((e.fst.fst, e.fst.snd.fst, ()), e.snd.fst, (e.snd.snd.fst.fst, e.snd.snd.fst.snd.fst, e.snd.snd.fst.snd.snd.fst, e.snd.snd.fst.snd.snd.snd.fst, ()), e.snd.snd.snd.fst, e.snd.snd.snd.snd.fst, ()), ()))) (Fr.val (.inl ((s.fst.fst, ()), ((s.snd.fst.fst.fst, s.snd.fst.fst.snd.fst, ()), s.snd.fst.snd.fst, (s.snd.fst.snd.snd.fst.fst, s.snd.fst.snd.snd.fst.snd.fst, s.snd.fst.snd.snd.fst.snd.snd.fst, s.snd.fst.snd.snd.fst.snd.snd.snd.fst, ()), s.snd.fst.snd.snd.snd.fst, s.snd.fst.snd.snd.snd.snd.fst, ()), ())))
def un_slices_At (x : pt_slices_At.M.X) : Int × List sliceT.den × st_slices_At := (x.1.1, x.1.2.2.1, x.1.2.2.2, x.2)
def good_slices_At (x : pt_slices_At.M.X) : Prop := x.1.2.1 = (x.1.2.2.1.length : Int)
def out_slices_At (s : st_slices_At) : pt_slices_At.E.X := ((), ((s.snd.fst.fst.fst, s.snd.fst.fst.snd.fst, ()), s.snd.fst.snd.fst, (s.snd.fst.snd.snd.fst.fst, s.snd.fst.snd.snd.fst.snd.fst, s.snd.fst.snd.snd.fst.snd.snd.fst, s.snd.fst.snd.snd.fst.snd.snd.snd.fst, ()), s.snd.fst.snd.snd.snd.fst, s.snd.fst.snd.snd.snd.snd.fst, ()), ())
def dS_slices_At : st_slices_At := (dfP _, dfM _)
def dR_slices_At : pt_slices_At.R.X := (dfP _, dfM _)
theorem loop_slices_At : Does Try.prog (.loop (loopF Try.f20 0)) pt_slices_At.M pt_slices_At (FL step_slices_At un_slices_At good_slices_At out_slices_At Rd.back dS_slices_At dR_slices_At) := by
  refine Does.list sem_slices_At step_slices_At un_slices_At good_slices_At out_slices_At Rd.back dS_slices_At dR_slices_At ?_ ?_
  · rintro ⟨⟨i, n, l, s⟩, m⟩ hg h0 h1 hb e he Q h
    have hg : n = (l.length : Int) := hg
    subst hg
    have h0 : 0 ≤ i := h0
    have h1 : i < (l.length : Int) := h1
    have hb : (l.length : Int) ≤ 9223372036854775807 := hb
    have hd : l.getD i.toNat sliceT.dflt = e := getD_of he
    have hw := wrap_next h0 h1 hb
    dsimp only [un_slices_At, step_slices_At, fr_slices_At, Fr.satP] at h ⊢
    simp only [hd, hw] at h ⊢
    refine ⟨fun _ => ?_, fun hn => absurd h1 (of_decide_eq_false hn)⟩
    repeat' first
      | exact h
      | exact ⟨h0, h1⟩
      | exact fun _ => ⟨h0, h1⟩
      | exact h _ rfl rfl
      | refine ⟨?_, ?_⟩
      | (intro (hc : _ = true); replace h := h.1 hc)
      | (intro (hc : _ = false); replace h := h.2 hc)
  · rintro ⟨⟨i, n, l, s⟩, m⟩ hg h1 Q h
    have hg : n = (l.length : Int) := hg
    subst hg
    exact ⟨fun hn => absurd (of_decide_eq_true hn) h1, fun _ => h⟩
def Λ_slices_At (Γ : FuncId → Option Ct) : St → Option Tr := pt_slices_At.han Γ pt_slices_At.M (FL step_slices_At un_slices_At good_slices_At out_slices_At Rd.back dS_slices_At dR_slices_At)
def res_slices_At (y : pt_slices_At.M.X) : st_slices_At ⊕ pt_slices_At.R.X := goL step_slices_At ((un_slices_At y).2.1.drop (un_slices_At y).1.toNat) (un_slices_At y).2.2
def okr_slices_At (y : pt_slices_At.M.X) : Prop := okL step_slices_At ((un_slices_At y).2.1.drop (un_slices_At y).1.toNat) (un_slices_At y).2.2

abbrev pt_r12_At : Pt := ⟨27, 0, ⟨[(6, .d i64), (0, .d slsT), (1, .d i64)], [.x 4 46 sliceT, .r 4 4 0]⟩, ⟨[], [.x 4 46 sliceT, .r 4 4 0]⟩, ⟨[(5, .d .bool)], [.x 4 46 sliceT, .r 4 4 0]⟩⟩
def fr_r12_At (x : pt_r12_At.M.X) : Fr pt_r12_At.Out :=
  Fr.br (decide (x.fst.fst < ((List.length x.fst.snd.fst) : Int))) (Fr.need (0 ≤ x.fst.fst ∧ x.fst.fst < ((List.length x.fst.snd.fst) : Int)) (Fr.br (cIn.f (((List.getD x.fst.snd.fst (Int.toNat x.fst.fst) sliceT.dflt).fst.fst, (List.getD x.fst.snd.fst (Int.toNat x.fst.fst) sliceT.dflt).fst.snd.fst, ()), x.fst.snd.snd.fst, ())).fst (Fr.need (0 ≤ x.fst.fst ∧ x.fst.fst < ((List.length x.fst.snd.fst) : Int)) (Fr.val (Rd.back ((true, ()), (((List.getD x.fst.snd.fst (Int.toNat x.fst.fst) sliceT.dflt).fst.fst, (List.getD x.fst.snd.fst (Int.toNat x.fst.fst) sliceT.dflt).fst.snd.fst, ()), (List.getD x.fst.snd.fst (Int.toNat x.fst.fst) sliceT.dflt).snd.fst, ((List.getD x.fst.snd.fst (Int.toNat x.fst.fst) sliceT.dflt).snd.snd.fst.fst, (List.getD x.fst.snd.fst (Int.toNat x.fst.fst) sliceT.dflt).snd.snd.fst.snd.fst, (List.getD x.fst.snd.fst (Int.toNat x.fst.fst) sliceT.dflt).snd.snd.fst.snd.snd.fst, (List.getD x.fst.snd.fst (Int.toNat x.fst.fst) sliceT.dflt).snd.snd.fst.snd.snd.snd.fst, ()), (List.getD x.fst.snd.fst (Int.toNat x.fst.fst) sliceT.dflt).snd.snd.snd.fst, (List.getD x.fst.snd.fst (Int.toNat x.fst.fst) sliceT.dflt).snd.snd.snd.snd.fst, ()), ())))) (Fr.val (Rd.next ((IntKind.i64.wrap (x.fst.fst + 1), x.fst.snd.fst, x.fst.snd.snd.fst, ()), ((x.snd.fst.fst.fst, x.snd.fst.fst.snd.fst, ()), x.snd.fst.snd.fst, (x.snd.fst.snd.snd.fst.fst, x.snd.fst.snd.snd.fst.snd.fst, x.snd.fst.snd.snd.fst.snd.snd.fst, x.snd.fst.snd.snd.fst.snd.snd.snd.fst, ()), x.snd.fst.snd.snd.snd.fst, x.snd.fst.snd.snd.snd.snd.fst, ()), ()))))) (Fr.val (Rd.out ((), ((x.snd.fst.fst.fst, x.snd.fst.fst.snd.fst, ()), x.snd.fst.snd.fst, (x.snd.fst.snd.snd.fst.fst, x.snd.fst.snd.snd.fst.snd.fst, x.snd.fst.snd.snd.fst.snd.snd.fst, x.snd.fst.snd.snd.fst.snd.snd.snd.fst, ()), x.snd.fst.snd.snd.snd.fst, x.snd.fst.snd.snd.snd.snd.fst, ()), ())))
theorem sem_r12_At : Does Try.prog (loopF Try.f26 0) pt_r12_At.M pt_r12_At fr_r12_At :=
  Does.of_run CHA_ok (bs := 0) (Λ := lam0) rfl rfl rfl (fun E => lam0_ok _ 0) (fun x => by kernel_rfl)
abbrev st_r12_At : Type := denP [.d i64] × denM [.x 4 46 sliceT, .r 4 4 0]
def step_r12_At (e : sliceT.den) (s : st_r12_At) : Fr (st_r12_At ⊕ pt_r12_At.R.X) :=
  Fr.br (cIn.f ((e.fst.fst, e.fst.snd.fst, ()), s.fst.fst, ())).fst (Fr.val (.inr ((true, ()), ((e.fst.fst, e.fst.snd.fst, ()), e.snd.fst, (e.snd.snd.fst.fst, e.snd.snd.fst.snd.fst, e.snd.snd.fst.snd.snd.fst, e.snd.snd.fst.snd.snd.snd.fst, ()), e.snd.snd.snd.fst, e.snd.snd.snd.snd.fst, ()), ()))) (Fr.val (.inl ((s.fst.fst, ()), ((s.snd.fst.fst.fst, s.snd.fst.fst.snd.fst, ()), s.snd.fst.snd.fst, (s.snd.fst.snd.snd.fst.fst, s.snd.fst.snd.snd.fst.snd.fst, s.snd.fst.snd.snd.fst.snd.snd.fst, s.snd.fst.snd.snd.fst.snd.snd.snd.fst, ()), s.snd.fst.snd.snd.snd.fst, s.snd.fst.snd.snd.snd.snd.fst, ()), ())))
def un_r12_At (x : pt_r12_At.M.X) : Int × List sliceT.den × st_r12_At := (x.1.1, x.1.2.1, x.1.2.2, x.2)
def good_r12_At (_x : pt_r12_At.M.X) : Prop := True
def out_r12_At (s : st_r12_At) : pt_r12_At.E.X := ((), ((s.snd.fst.fst.fst, s.snd.fst.fst.snd.fst, ()), s.snd.fst.snd.fst, (s.snd.fst.snd.snd.fst.fst, s.snd.fst.snd.snd.fst.snd.fst, s.snd.fst.snd.snd.fst.snd.snd.fst, s.snd.fst.snd.snd.fst.snd.snd.snd.fst, ()), s.snd.fst.snd.snd.snd.fst, s.snd.fst.snd.snd.snd.snd.fst, ()), ())
def dS_r12_At : st_r12_At := (dfP _, dfM _)
def dR_r12_At : pt_r12_At.R.X := (dfP _, dfM _)
theorem loop_r12_At : Does Try.prog (.loop (loopF Try.f26 0)) pt_r12_At.M pt_r12_At (FL step_r12_At un_r12_At good_r12_At out_r12_At Rd.back dS_r12_At dR_r12_At) := by
  refine Does.list sem_r12_At step_r12_At un_r12_At good_r12_At out_r12_At Rd.back dS_r12_At dR_r12_At ?_ ?_
  · rintro ⟨⟨i, l, s⟩, m⟩ hg h0 h1 hb e he Q h
    have h0 : 0 ≤ i := h0
    have h1 : i < (l.length : Int) := h1
    have hb : (l.length : Int) ≤ 9223372036854775807 := hb
    have hd : l.getD i.toNat sliceT.dflt = e := getD_of he
    have hw := wrap_next h0 h1 hb
    dsimp only [un_r12_At, step_r12_At, fr_r12_At, Fr.satP] at h ⊢
    simp only [hd, hw] at h ⊢
    refine ⟨fun _ => ?_, fun hn => absurd h1 (of_decide_eq_false hn)⟩
    repeat' first
      | exact h
      | exact ⟨h0, h1⟩
      | exact fun _ => ⟨h0, h1⟩
      | exact h _ rfl trivial
      | refine ⟨?_, ?_⟩
      | (intro (hc : _ = true); replace h := h.1 hc)
      | (intro (hc : _ = false); replace h := h.2 hc)
  · rintro ⟨⟨i, l, s⟩, m⟩ hg h1 Q h
    exact ⟨fun hn => absurd (of_decide_eq_true hn) h1, fun _ => h⟩
def Λ_r12_At (Γ : FuncId → Option Ct) : St → Option Tr := pt_r12_At.han Γ pt_r12_At.M (FL step_r12_At un_r12_At good_r12_At out_r12_At Rd.back dS_r12_At dR_r12_At)
def res_r12_At (y : pt_r12_At.M.X) : st_r12_At ⊕ pt_r12_At.R.X := goL step_r12_At ((un_r12_At y).2.1.drop (un_r12_At y).1.toNat) (un_r12_At y).2.2
def okr_r12_At (y : pt_r12_At.M.X) : Prop := okL step_r12_At ((un_r12_At y).2.1.drop (un_r12_At y).1.toNat) (un_r12_At y).2.2

abbrev pt_r12_Right : Pt := ⟨47, 0, ⟨[(4, .d i64)], [.x 1 31 histT, .r 1 1 0]⟩, ⟨[], []⟩, ⟨[(2, .d .bool)], []⟩⟩
def fr_r12_Right (x : pt_r12_Right.M.X) : Fr pt_r12_Right.Out :=
  Fr.br (decide (x.fst.fst < ((List.length x.snd.fst.snd.snd.snd.fst) : Int))) (Fr.need (0 ≤ x.fst.fst ∧ x.fst.fst < ((List.length x.snd.fst.snd.snd.snd.fst) : Int)) (Fr.need (0 ≤ x.fst.fst ∧ x.fst.fst < ((List.length x.snd.fst.snd.snd.snd.fst) : Int)) (Fr.br (bif !(cChange.f (((List.getD x.snd.fst.snd.snd.snd.fst (Int.toNat x.fst.fst) changeT.dflt).fst, (List.getD x.snd.fst.snd.snd.snd.fst (Int.toNat x.fst.fst) changeT.dflt).snd.fst, (List.getD x.snd.fst.snd.snd.snd.fst (Int.toNat x.fst.fst) changeT.dflt).snd.snd.fst, ((List.getD x.snd.fst.snd.snd.snd.fst (Int.toNat x.fst.fst) changeT.dflt).snd.snd.snd.fst.fst, (List.getD x.snd.fst.snd.snd.snd.fst (Int.toNat x.fst.fst) changeT.dflt).snd.snd.snd.fst.snd.fst, (List.getD x.snd.fst.snd.snd.snd.fst (Int.toNat x.fst.fst) changeT.dflt).snd.snd.snd.fst.snd.snd.fst, (List.getD x.snd.fst.snd.snd.snd.fst (Int.toNat x.fst.fst) changeT.dflt).snd.snd.snd.fst.snd.snd.snd.fst, ()), (List.getD x.snd.fst.snd.snd.snd.fst (Int.toNat x.fst.fst) changeT.dflt).snd.snd.snd.snd.fst, (List.getD x.snd.fst.snd.snd.snd.fst (Int.toNat x.fst.fst) changeT.dflt).snd.snd.snd.snd.snd.fst, ()), ())).fst then true else !(cIn.f ((x.snd.fst.snd.snd.fst.fst.fst, x.snd.fst.snd.snd.fst.fst.snd.fst, ()), (List.getD x.snd.fst.snd.snd.snd.fst (Int.toNat x.fst.fst) changeT.dflt).snd.fst, ())).fst) (Fr.val (Rd.back ((false, ()), ()))) (Fr.val (Rd.next ((IntKind.i64.wrap (x.fst.fst + 1), ()), (x.snd.fst.fst, x.snd.fst.snd.fst, ((x.snd.fst.snd.snd.fst.fst.fst, x.snd.fst.snd.snd.fst.fst.snd.fst, ()), (x.snd.fst.snd.snd.fst.snd.fst.fst, x.snd.fst.snd.snd.fst.snd.fst.snd.fst, x.snd.fst.snd.snd.fst.snd.fst.snd.snd.fst, x.snd.fst.snd.snd.fst.snd.fst.snd.snd.snd.fst, ()), x.snd.fst.snd.snd.fst.snd.snd.fst, ()), x.snd.fst.snd.snd.snd.fst, ()), ())))))) (Fr.val (Rd.out ((), ())))
theorem sem_r12_Right : Does Try.prog (loopF Try.f42 0) pt_r12_Right.M pt_r12_Right fr_r12_Right :=
  Does.of_run CHA_ok (bs := 0) (Λ := lam0) rfl rfl rfl (fun E => lam0_ok _ 0) (fun x => by kernel_rfl)
abbrev st_r12_Right : Type := denP [] × denM [.x 1 31 histT, .r 1 1 0]
def step_r12_Right (e : changeT.den) (s : st_r12_Right) : Fr (st_r12_Right ⊕ pt_r12_Right.R.X) :=
  Fr.br (bif !(cChange.f ((e.fst, e.snd.fst, e.snd.snd.fst, (e.snd.snd.snd.fst.fst, e.snd.snd.snd.fst.snd.fst, e.snd.snd.snd.fst.snd.snd.fst, e.snd.snd.snd.fst.snd.snd.snd.fst, ()), e.snd.snd.snd.snd.fst, e.snd.snd.snd.snd.snd.fst, ()), ())).fst then true else !(cIn.f ((s.snd.fst.snd.snd.fst.fst.fst, s.snd.fst.snd.snd.fst.fst.snd.fst, ()), e.snd.fst, ())).fst) (Fr.val (.inr ((false, ()), ()))) (Fr.val (.inl ((), (s.snd.fst.fst, s.snd.fst.snd.fst, ((s.snd.fst.snd.snd.fst.fst.fst, s.snd.fst.snd.snd.fst.fst.snd.fst, ()), (s.snd.fst.snd.snd.fst.snd.fst.fst, s.snd.fst.snd.snd.fst.snd.fst.snd.fst, s.snd.fst.snd.snd.fst.snd.fst.snd.snd.fst, s.snd.fst.snd.snd.fst.snd.fst.snd.snd.snd.fst, ()), s.snd.fst.snd.snd.fst.snd.snd.fst, ()), s.snd.fst.snd.snd.snd.fst, ()), ())))
def un_r12_Right (x : pt_r12_Right.M.X) : Int × List changeT.den × st_r12_Right := (x.1.1, x.2.1.2.2.2.1, x.1.2, x.2)
def good_r12_Right (_x : pt_r12_Right.M.X) : Prop := True
def out_r12_Right (_s : st_r12_Right) : pt_r12_Right.E.X := ((), ())
def dS_r12_Right : st_r12_Right := (dfP _, dfM _)
def dR_r12_Right : pt_r12_Right.R.X := (dfP _, dfM _)
theorem loop_r12_Right : Does Try.prog (.loop (loopF Try.f42 0)) pt_r12_Right.M pt_r12_Right (FL step_r12_Right un_r12_Right good_r12_Right out_r12_Right Rd.back dS_r12_Right dR_r12_Right) := by
  refine Does.list sem_r12_Right step_r12_Right un_r12_Right good_r12_Right out_r12_Right Rd.back dS_r12_Right dR_r12_Right ?_ ?_
  · rintro ⟨⟨i, s⟩, m⟩ hg h0 h1 hb e he Q h
    have h0 : 0 ≤ i := h0
    have h1 : i < (m.1.2.2.2.1.length : Int) := h1
    have hb : (m.1.2.2.2.1.length : Int) ≤ 9223372036854775807 := hb
    have hd : m.1.2.2.2.1.getD i.toNat changeT.dflt = e := getD_of he
    have hw := wrap_next h0 h1 hb
    dsimp only [un_r12_Right, step_r12_Right, fr_r12_Right, Fr.satP] at h ⊢
    simp only [hd, hw] at h ⊢
    refine ⟨fun _ => ?_, fun hn => absurd h1 (of_decide_eq_false hn)⟩
    repeat' first
      | exact h
      | exact ⟨h0, h1⟩
      | exact fun _ => ⟨h0, h1⟩
      | exact h _ rfl trivial
      | refine ⟨?_, ?_⟩
      | (intro (hc : _ = true); replace h := h.1 hc)
      | (intro (hc : _ = false); replace h := h.2 hc)
  · rintro ⟨⟨i, s⟩, m⟩ hg h1 Q h
    exact ⟨fun hn => absurd (of_decide_eq_true hn) h1, fun _ => h⟩
def Λ_r12_Right (Γ : FuncId → Option Ct) : St → Option Tr := pt_r12_Right.han Γ pt_r12_Right.M (FL step_r12_Right un_r12_Right good_r12_Right out_r12_Right Rd.back dS_r12_Right dR_r12_Right)
def res_r12_Right (y : pt_r12_Right.M.X) : st_r12_Right ⊕ pt_r12_Right.R.X := goL step_r12_Right ((un_r12_Right y).2.1.drop (un_r12_Right y).1.toNat) (un_r12_Right y).2.2
def okr_r12_Right (y : pt_r12_Right.M.X) : Prop := okL step_r12_Right ((un_r12_Right y).2.1.drop (un_r12_Right y).1.toNat) (un_r12_Right y).2.2

/-- Two slices are one. -/
def sliceEq (a b : sliceT.den) : Bool := (a.1.1 == b.1.1 && (a.1.2.1 == b.1.2.1 && true)) && ((a.2.2.2.2.1 == b.2.2.2.2.1) && holdsB a b)
def cSliceEq : Ct := ⟨[.d sliceT, .d sliceT], [.bool], fun x => (sliceEq x.1 x.2.1, ()), fun _ => []⟩
theorem slices_Same_ok : SoundCt Try.prog 25 cSliceEq := conv ff_slices_Same_ok _ _ (fun _ _ x _ _ _ => by
  obtain ⟨a, b, _⟩ := x
  exact ⟨trivial, congrArg (·, ()) (three (a.1.1 == b.1.1 && (a.1.2.1 == b.1.2.1 && true)) (a.2.2.2.2.1 == b.2.2.2.2.1) (holdsB a b))⟩)
theorem r12_Same_ok : SoundCt Try.prog 21 cSliceEq := conv ff_r12_Same_ok _ _ (fun _ _ x _ _ _ => by
  obtain ⟨a, b, _⟩ := x
  exact ⟨trivial, congrArg (·, ()) (three (a.1.1 == b.1.1 && (a.1.2.1 == b.1.2.1 && true)) (a.2.2.2.2.1 == b.2.2.2.2.1) (holdsB a b))⟩)

end Go.Proofs.Ytbplccbjgfappaa
