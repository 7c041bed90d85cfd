/-
  Parts of the proof, one behind the other: I3, I4, I5, I6, I7, I8, I9, I10, I11, I28, I21, I22, I23, I12, I13, I24, I25, I15, I26, I27, I29, I30, N4.
-/
import Derived.Test.YtplkgghjldndkaaGreatMe
import Derived.Defers
import Derived.MapKept
import Derived.Carry
import Derived.WalkKit
namespace Go.Proofs.YtplkgghjldndkaaGreat
open Go Go.Ab Go.RowKit Go.Proofs
theorem bsG_enough {Q : Nat -> Bool} : (f f' i j : Nat) -> j - i <= f -> j - i <= f' -> bsG Q f i j = bsG Q f' i j
 | 0, 0, _, _, _, _ => rfl
 | 0, f' + 1, i, j, h, _ => by simp only [bsG]; rw [if_neg (by omega)]
 | f + 1, 0, i, j, _, h => by simp only [bsG]; rw [if_neg (by omega)]
 | f + 1, f' + 1, i, j, h, h' => by
  simp only [bsG]
  split
  ·cases Q ((i + j) / 2) with
   | true => exact bsG_enough f f' _ _ (by omega) (by omega)
   | false => exact bsG_enough f f' _ _ (by omega) (by omega)
  ·rfl
theorem bsG_step {Q : Nat -> Bool} {i j : Nat} (h : i < j) : bsG Q (j - i) i j = bif Q ((i + j) / 2) then bsG Q (j - ((i + j) / 2 + 1)) ((i + j) / 2 + 1) j else bsG Q ((i + j) / 2 - i) i ((i + j) / 2) := by
 obtain ⟨f, hf⟩ : ∃ f, j - i = f + 1 := ⟨j - i - 1, by omega⟩
 rw [hf]
 simp only [bsG]
 rw [if_pos h]
 cases Q ((i + j) / 2) with
 | true => exact bsG_enough _ _ _ _ (by omega) (by omega)
 | false => exact bsG_enough _ _ _ _ (by omega) (by omega)
theorem rotG_enough {α : Type} {d : α} {m : Nat} : (f f' i j : Nat) -> (l : List α) -> 0 < i -> 0 < j -> i + j <= f -> i + j <= f' -> rotG d m f i j l = rotG d m f' i j l
 | 0, _, i, j, _, _, _, _, _ => by omega
 | f + 1, 0, i, j, _, _, _, _, _ => by omega
 | f + 1, f' + 1, i, j, l, h1, h2, h3, h4 => by
  simp only [rotG]
  split
  ·rfl
  ·split
   ·exact rotG_enough f f' _ _ _ (by omega) (by omega) (by omega) (by omega)
   ·exact rotG_enough f f' _ _ _ (by omega) (by omega) (by omega) (by omega)
noncomputable def CI1 : Cx := cxK [] [] (mtK (cx [] []).Γ 172 mSwap)
theorem CI1_ok : CxOK Tryz.prog CI1 := cxK_ok mixed trivial trivial (mtK_ok CI0_ok.ct swap_ok)
abbrev pt_rot : Pt := ⟨58, 0, ⟨[(2, .d i64), (4, cmpT), (10, .d i64), (11, .d i64)], [.al 10000 0, .o 0 3 i64]⟩, ⟨[(2, .d i64), (4, cmpT), (10, .d i64)], [.al 10000 0, .o 0 3 i64]⟩, ⟨[], []⟩⟩
noncomputable def fr_rot (x : pt_rot.M.X) : Fr pt_rot.Out :=
 let m := x.1.1; let g := x.1.2.1; let i := x.1.2.2.1; let j := x.1.2.2.2.1; let l := x.2.1
 Fr.br (i != j)
  (Fr.br (decide (i > j))
   (Fr.need (0 <= IntKind.i64.wrap (m - i))
    (Fr.need (0 <= m)
     (Fr.need (IntKind.i64.wrap (m - i) + j <= (l.length : Int))
      (Fr.need (m + j <= (l.length : Int))
       (Fr.val (Rd.next ((m, (g.1, g.2), IntKind.i64.wrap (i - j), j, ()), ((mSwap.f l (IntKind.i64.wrap (m - i), m, j, (g.1, g.2), ())).1, ()))))))))
   (Fr.need (0 <= IntKind.i64.wrap (m - i))
    (Fr.need (0 <= IntKind.i64.wrap (IntKind.i64.wrap (m + j) - i))
     (Fr.need (IntKind.i64.wrap (m - i) + i <= (l.length : Int))
      (Fr.need (IntKind.i64.wrap (IntKind.i64.wrap (m + j) - i) + i <= (l.length : Int))
       (Fr.val (Rd.next ((m, (g.1, g.2), i, IntKind.i64.wrap (j - i), ()), ((mSwap.f l (IntKind.i64.wrap (m - i), IntKind.i64.wrap (IntKind.i64.wrap (m + j) - i), i, (g.1, g.2), ())).1, ())))))))))
  (Fr.val (Rd.out ((m, (g.1, g.2), i, ()), (l, ()))))
theorem sem_rot : Does Tryz.prog (loopF Tryz.f168 0) pt_rot.M pt_rot fr_rot :=
 Does.of_run CI1_ok (bs := 0) (Λ := lam0) rfl rfl rfl (fun E => lam0_ok _ 0) (fun x => by kernel_rfl)
theorem swapR_length : (n a b : Nat) -> (l : List Int) -> (swapR 0 n a b l).length = l.length
 | 0, _, _, _ => rfl
 | n + 1, a, b, l => by simp only [swapR]; rw [swapR_length n, swapL_length]
structure InvRot (m i j : Int) (l : List Int) : Prop where
 i0 : 0 < i
 j0 : 0 < j
 im : i <= m
 ml : m + j <= l.length
 big : (l.length : Int) <= 4611686018427387903
def FRot (x : pt_rot.M.X) : Fr pt_rot.Out :=
 Fr.need (InvRot x.1.1 x.1.2.2.1 x.1.2.2.2.1 x.2.1) (Fr.val (Rd.out ((x.1.1, x.1.2.1, ((rotG 0 x.1.1.toNat (x.1.2.2.1.toNat + x.1.2.2.2.1.toNat) x.1.2.2.1.toNat x.1.2.2.2.1.toNat x.2.1).1 : Nat), ()),
  ((rotG 0 x.1.1.toNat (x.1.2.2.1.toNat + x.1.2.2.2.1.toNat) x.1.2.2.1.toNat x.1.2.2.2.1.toNat x.2.1).2, ()))))
theorem lawRot (m i j : Int) (g : cmpT.den) (l : List Int) (hinv : InvRot m i j l) (Q : pt_rot.Out -> Prop)
  (hq : Q (Rd.out ((m, g, ((rotG 0 m.toNat (i.toNat + j.toNat) i.toNat j.toNat l).1 : Nat), ()), ((rotG 0 m.toNat (i.toNat + j.toNat) i.toNat j.toNat l).2, ())))) : (fr_rot ((m, g, i, j, ()), (l, ()))).satP fun
   | .next x' => InvRot x'.1.1 x'.1.2.2.1 x'.1.2.2.2.1 x'.2.1 /\ x'.1.2.2.1.toNat + x'.1.2.2.2.1.toNat < i.toNat + j.toNat /\ (FRot x').satP Q
   | .out y => Q (.out y)
   | .back z => Q (.back z)
   | .pan p => Q (.pan p) := by
 obtain ⟨h0, h1, h2, h3, h4⟩ := hinv
 obtain ⟨f, hf⟩ : ∃ f, i.toNat + j.toNat = f + 1 := ⟨i.toNat + j.toNat - 1, by omega⟩
 have w1 : IntKind.i64.wrap (m - i) = m - i := IntWalk.i64_in _ (by omega)
 have w2 : IntKind.i64.wrap (i - j) = i - j := IntWalk.i64_in _ (by omega)
 have w3 : IntKind.i64.wrap (m + j) = m + j := IntWalk.i64_in _ (by omega)
 have w4 : IntKind.i64.wrap (m + j - i) = m + j - i := IntWalk.i64_in _ (by omega)
 have w5 : IntKind.i64.wrap (j - i) = j - i := IntWalk.i64_in _ (by omega)
 dsimp only [fr_rot, Fr.satP, Ty.den, PT.den, mSwap]
 rw [w1, w2, w3, w4, w5]
 rw [hf] at hq
 simp only [rotG] at hq
 refine ⟨fun hc => ⟨fun hd => ?_, fun hd => ?_⟩, fun hc => ?_⟩
 ·have hgt : i > j := of_decide_eq_true hd
  rw [if_neg (by omega), if_pos (by omega)] at hq
  have hI : InvRot m (i - j) j (swapR 0 j.toNat (m - i).toNat m.toNat l) := ⟨by omega, h1, by omega, by rw [swapR_length]; omega, by rw [swapR_length]; omega⟩
  refine ⟨by omega, by omega, by omega, by omega, hI, by omega, hI, ?_⟩
  dsimp only [Ty.den, PT.den]
  rw [rotG_enough _ f (i - j).toNat j.toNat _ (by omega) (by omega) (Nat.le_refl _) (by omega), show (i - j).toNat = i.toNat - j.toNat by omega, show (m - i).toNat = m.toNat - i.toNat by omega]
  exact hq
 ·have hle : ¬ i > j := of_decide_eq_false hd
  have hne : i ≠ j := by simpa using hc
  rw [if_neg (by omega), if_neg (by omega)] at hq
  have hI : InvRot m i (j - i) (swapR 0 i.toNat (m - i).toNat (m + j - i).toNat l) := ⟨h0, by omega, h2, by rw [swapR_length]; omega, by rw [swapR_length]; omega⟩
  refine ⟨by omega, by omega, by omega, by omega, hI, by omega, hI, ?_⟩
  dsimp only [Ty.den, PT.den]
  rw [rotG_enough _ f i.toNat (j - i).toNat _ (by omega) (by omega) (Nat.le_refl _) (by omega), show (j - i).toNat = j.toNat - i.toNat by omega, show (m - i).toNat = m.toNat - i.toNat by omega, show (m + j - i).toNat = m.toNat + j.toNat - i.toNat by omega]
  exact hq
 ·have heq : i = j := by simpa using hc
  rw [if_pos (by omega)] at hq
  have : ((i.toNat : Nat) : Int) = i := by omega
  rw [this] at hq
  exact hq
theorem loopRot : Does Tryz.prog (.loop (loopF Tryz.f168 0)) pt_rot.M pt_rot FRot := by
 refine Does.loop (n := 58) (id := 0) sem_rot (inv := fun x => InvRot x.1.1 x.1.2.2.1 x.1.2.2.2.1 x.2.1) (μ := fun x => x.1.2.2.1.toNat + x.1.2.2.2.1.toNat) ?_ (fun x Q h => h.1)
 rintro ⟨⟨m, g, i, j, _⟩, ⟨l, _⟩⟩ hinv Q hq
 exact lawRot m i j g l hinv Q hq.2
noncomputable def ΛRot : Nat -> St -> Option Tr := fun _ => pt_rot.han CI1.Γ pt_rot.M FRot
theorem rotG_facts {m : Nat} : (f i j : Nat) -> (l : List Int) -> 0 < i -> 0 < j -> i + j <= f -> 0 < (rotG 0 m f i j l).1 /\ (rotG 0 m f i j l).1 <= i /\ (rotG 0 m f i j l).1 <= j /\ (rotG 0 m f i j l).2.length = l.length
 | 0, i, j, l, _, _, _ => by omega
 | f + 1, i, j, l, h1, h2, h3 => by
  simp only [rotG]
  split
  ·exact ⟨h1, Nat.le_refl _, by omega, rfl⟩
  ·split
   ·have := rotG_facts (m := m) f (i - j) j (swapR 0 j (m - i) m l) (by omega) h2 (by omega)
    rw [swapR_length] at this
    omega
   ·have := rotG_facts (m := m) f i (j - i) (swapR 0 i (m - i) (m + j - i) l) h1 (by omega) (by omega)
    rw [swapR_length] at this
    omega
noncomputable def mRot : Mt := ⟨3, i64, [.d i64, .d i64, .d i64, cmpT], [], fun l x => (rotF 0 x.1.toNat x.2.1.toNat x.2.2.1.toNat l, ()), fun l x => [0 <= x.1, x.1 < x.2.1, x.2.1 < x.2.2.1, x.2.2.1 <= l.length, (l.length : Int) <= 4611686018427387903]⟩
def roI (m i j : Int) (l : List Int) : Int := ((rotG 0 m.toNat (i.toNat + j.toNat) i.toNat j.toNat l).1 : Nat)
def roL (m i j : Int) (l : List Int) : List Int := (rotG 0 m.toNat (i.toNat + j.toNat) i.toNat j.toNat l).2
noncomputable def fr_rotate (l : List Int) (x : denP [.d i64, .d i64, .d i64, cmpT]) : Fr (List Int × denL []) :=
 let a := x.1; let m := x.2.1; let b := x.2.2.1; let g := x.2.2.2.1
 let i := roI m (IntKind.i64.wrap (m - a)) (IntKind.i64.wrap (b - m)) l
 let r := roL m (IntKind.i64.wrap (m - a)) (IntKind.i64.wrap (b - m)) l
 Fr.need (InvRot m (IntKind.i64.wrap (m - a)) (IntKind.i64.wrap (b - m)) l)
 (Fr.need (0 <= IntKind.i64.wrap (m - i))
  (Fr.need (0 <= m)
   (Fr.need (IntKind.i64.wrap (m - i) + i <= (r.length : Int))
    (Fr.need (m + i <= (r.length : Int))
     (Fr.val ((mSwap.f r (IntKind.i64.wrap (m - i), m, i, (g.1, g.2), ())).1, ()))))))
theorem rotate_ok : SoundMt Tryz.prog 168 mRot :=
 convMt (mt_sound CI1_ok (Λ := ΛRot) (fn := Tryz.f168) (fr := fr_rotate) (e := 3) (T := i64) (ps := [.d i64, .d i64, .d i64, cmpT]) (rs := []) (0, 0, 0, (fun _ => (0, ()), fun _ => True), ()) (by kernel_rfl) rfl rfl
  (fun c E hc => lam1f hc (by kernel_rfl) (b := loopF Tryz.f168 0) (by kernel_rfl) (Does.han CI1_ok rfl loopRot)) (fun l x => by kernel_rfl)) _ _ fun w F l xs vs _ _ _ hok => by
  obtain ⟨a, m, b, g, rfl⟩ : ∃ (a m b : Int) (g : cmpT.den), xs = (a, m, b, g, ()) := ⟨xs.1, xs.2.1, xs.2.2.1, xs.2.2.2.1, rfl⟩
  have hok' : (0 : Int) <= a /\ (a : Int) < m /\ (m : Int) < b /\ (b : Int) <= (List.length (α := Int) l : Int) /\ (List.length (α := Int) l : Int) <= 4611686018427387903 := hok
  obtain ⟨h1, h2, h3, h4, h5⟩ := hok'
  have w1 : IntKind.i64.wrap (m - a) = m - a := IntWalk.i64_in _ (by omega)
  have w2 : IntKind.i64.wrap (b - m) = b - m := IntWalk.i64_in _ (by omega)
  have hf := rotG_facts (m := m.toNat) ((m - a).toNat + (b - m).toNat) (m - a).toNat (b - m).toNat l (by omega) (by omega) (Nat.le_refl _)
  dsimp only [fr_rotate, Fr.ok, Fr.get, Ty.den, PT.den, mSwap, roI, roL]
  rw [w1, w2]
  have e1 : rotF 0 a.toNat m.toNat b.toNat l = swapR 0 (rotG 0 m.toNat ((m - a).toNat + (b - m).toNat) (m - a).toNat (b - m).toNat l).1 (m.toNat - (rotG 0 m.toNat ((m - a).toNat + (b - m).toNat) (m - a).toNat (b - m).toNat l).1) m.toNat (rotG 0 m.toNat ((m - a).toNat + (b - m).toNat) (m - a).toNat (b - m).toNat l).2 := by
   unfold rotF
   rw [show b.toNat - a.toNat = (m - a).toNat + (b - m).toNat by omega, show m.toNat - a.toNat = (m - a).toNat by omega, show b.toNat - m.toNat = (b - m).toNat by omega]
  generalize rotG 0 m.toNat ((m - a).toNat + (b - m).toNat) (m - a).toNat (b - m).toNat l = r at hf e1 ⊢
  have w3 : IntKind.i64.wrap (m - (r.1 : Int)) = m - r.1 := IntWalk.i64_in _ (by omega)
  rw [w3]
  refine ⟨⟨⟨by omega, by omega, by omega, by omega, h5⟩, by omega, by omega, by omega, by omega, trivial⟩, ?_⟩
  show (swapR 0 (r.1 : Int).toNat (m - r.1).toNat m.toNat r.2, ()) = (rotF 0 a.toNat m.toNat b.toNat l, ())
  rw [e1, show (r.1 : Int).toNat = r.1 by omega, show (m - (r.1 : Int)).toNat = m.toNat - r.1 by omega]
def midI (i j : Int) : Int := IntKind.i64.wrap ((IntKind.u64.wrap (IntKind.i64.wrap (i + j))).fdiv (2 ^ min (Int.toNat 1) IntKind.u64.bits))
theorem midI_nat {i j : Nat} (h : i + j <= 9223372036854775807) : midI (i : Int) j = ((i + j) / 2 : Nat) := half_nat h
abbrev pt_s0 : Pt := ⟨220, 0, ⟨[(1, .d i64), (4, cmpT), (10, .d i64), (11, .d i64)], [.al 10000 0, .o 0 3 i64]⟩, ⟨[(1, .d i64), (10, .d i64)], [.al 10000 0, .o 0 3 i64]⟩, ⟨[], []⟩⟩
def fr_s0 (x : pt_s0.M.X) : Fr pt_s0.Out :=
 let c := x.1.1; let g := x.1.2.1; let i := x.1.2.2.1; let j := x.1.2.2.2.1; let l := x.2.1
 Fr.br (decide (i < j))
  (Fr.need (¬(1 : Int) < 0)
   (Fr.need (0 <= midI i j /\ midI i j < (l.length : Int))
    (Fr.need ((midI i j).toNat < l.length)
     (Fr.need (0 <= c /\ c < (l.length : Int))
      (Fr.need ((c).toNat < l.length)
       (Fr.need (g.2 (l.getD (midI i j).toNat i64.dflt, l.getD c.toNat i64.dflt, ()))
        (Fr.br (decide ((g.1 (l.getD (midI i j).toNat i64.dflt, l.getD c.toNat i64.dflt, ())).1 < 0))
         (Fr.val (Rd.next ((c, (g.1, g.2), IntKind.i64.wrap (midI i j + 1), j, ()), (l, ()))))
         (Fr.val (Rd.next ((c, (g.1, g.2), i, midI i j, ()), (l, ())))))))))))
  (Fr.val (Rd.out ((c, i, ()), (l, ()))))
theorem sem_s0 : Does Tryz.prog (loopF Tryz.f160 0) pt_s0.M pt_s0 fr_s0 :=
 Does.of_run CI0_ok (bs := 0) (Λ := lam0) rfl rfl rfl (fun E => lam0_ok _ 0) (fun x => by kernel_rfl)
structure InvS0 (c i j : Int) (g : cmpT.den) (l : List Int) : Prop where
 c0 : 0 <= c
 cl : c < l.length
 i0 : 0 <= i
 ij : i <= j
 jl : j <= l.length
 big : (l.length : Int) <= 4611686018427387903
 dom : DomOf g l
def FS0 (x : pt_s0.M.X) : Fr pt_s0.Out :=
 let c := x.1.1; let g := x.1.2.1; let i := x.1.2.2.1; let j := x.1.2.2.2.1; let l := x.2.1
 Fr.need (InvS0 c i j g l) (Fr.val (Rd.out ((c, (bsG (fun h => ltOf g (l.getD h 0) (l.getD c.toNat 0)) (j.toNat - i.toNat) i.toNat j.toNat : Nat), ()), (l, ()))))
theorem lawS0 (c i j : Int) (g : cmpT.den) (l : List Int) (hinv : InvS0 c i j g l) (Q : pt_s0.Out -> Prop)
  (hq : Q (Rd.out ((c, (bsG (fun h => ltOf g (l.getD h 0) (l.getD c.toNat 0)) (j.toNat - i.toNat) i.toNat j.toNat : Nat), ()), (l, ())))) : (fr_s0 ((c, g, i, j, ()), (l, ()))).satP fun
   | .next x' => InvS0 x'.1.1 x'.1.2.2.1 x'.1.2.2.2.1 x'.1.2.1 x'.2.1 /\ (x'.1.2.2.2.1 - x'.1.2.2.1).toNat < (j - i).toNat /\ (FS0 x').satP Q
   | .out y => Q (.out y)
   | .back z => Q (.back z)
   | .pan p => Q (.pan p) := by
 obtain ⟨h0, h1, h2, h3, h4, hb, hd⟩ := hinv
 obtain ⟨i', rfl⟩ : ∃ n : Nat, i = n := ⟨i.toNat, by omega⟩
 obtain ⟨j', rfl⟩ : ∃ n : Nat, j = n := ⟨j.toNat, by omega⟩
 obtain ⟨c', rfl⟩ : ∃ n : Nat, c = n := ⟨c.toNat, by omega⟩
 have hm : midI (i' : Int) j' = ((i' + j') / 2 : Nat) := midI_nat (by omega)
 have hw : IntKind.i64.wrap ((((i' + j') / 2 : Nat) : Int) + 1) = ((i' + j') / 2 + 1 : Nat) := succ_nat (by omega)
 dsimp only [fr_s0, Fr.satP, Ty.den, PT.den]
 rw [hm, hw]
 simp only [Int.toNat_natCast] at hq ⊢
 refine ⟨fun hi => ?_, fun hi => ?_⟩
 ·have hlt : i' < j' := by have : (i' : Int) < j' := of_decide_eq_true hi; omega
  rw [bsG_step hlt] at hq
  have hml : (i' + j') / 2 < l.length := by omega
  have hcl : c' < l.length := by omega
  refine ⟨by omega, ⟨by omega, by omega⟩, by omega, ⟨by omega, by omega⟩, by omega, hd _ (getD_mem hml) _ (getD_mem hcl), fun hc => ?_, fun hc => ?_⟩
  ·have hc' : (ltOf g (l.getD ((i' + j') / 2) 0) (l.getD c' 0)) = true := hc
   rw [hc'] at hq
   have hI : InvS0 (c' : Int) ((i' + j') / 2 + 1 : Nat) j' g l := ⟨h0, h1, by omega, by omega, by omega, hb, hd⟩
   exact ⟨hI, by omega, hI, hq⟩
  ·have hc' : (ltOf g (l.getD ((i' + j') / 2) 0) (l.getD c' 0)) = false := hc
   rw [hc'] at hq
   have hI : InvS0 (c' : Int) i' ((i' + j') / 2 : Nat) g l := ⟨h0, h1, by omega, by omega, by omega, hb, hd⟩
   exact ⟨hI, by omega, hI, hq⟩
 ·have hge : ¬ i' < j' := by have : ¬ (i' : Int) < j' := of_decide_eq_false hi; omega
  rw [show j' - i' = 0 by omega] at hq
  exact hq
theorem loopS0 : Does Tryz.prog (.loop (loopF Tryz.f160 0)) pt_s0.M pt_s0 FS0 := by
 refine Does.loop (n := 220) (id := 0) sem_s0 (inv := fun x => InvS0 x.1.1 x.1.2.2.1 x.1.2.2.2.1 x.1.2.1 x.2.1) (μ := fun x => (x.1.2.2.2.1 - x.1.2.2.1).toNat) ?_ (fun x Q h => h.1)
 rintro ⟨⟨c, g, i, j, _⟩, ⟨l, _⟩⟩ hinv Q hq
 exact lawS0 c i j g l hinv Q hq.2
abbrev pt_s2 : Pt := ⟨220, 4, ⟨[(2, .d i64), (4, cmpT), (14, .d i64), (15, .d i64)], [.al 10000 0, .o 0 3 i64]⟩, ⟨[(2, .d i64), (14, .d i64)], [.al 10000 0, .o 0 3 i64]⟩, ⟨[], []⟩⟩
def fr_s2 (x : pt_s2.M.X) : Fr pt_s2.Out :=
 let c := x.1.1; let g := x.1.2.1; let i := x.1.2.2.1; let j := x.1.2.2.2.1; let l := x.2.1
 Fr.br (decide (i < j))
  (Fr.need (¬(1 : Int) < 0)
   (Fr.need (0 <= c /\ c < (l.length : Int))
    (Fr.need ((c).toNat < l.length)
     (Fr.need (0 <= midI i j /\ midI i j < (l.length : Int))
      (Fr.need ((midI i j).toNat < l.length)
       (Fr.need (g.2 (l.getD c.toNat i64.dflt, l.getD (midI i j).toNat i64.dflt, ()))
        (Fr.br (!decide ((g.1 (l.getD c.toNat i64.dflt, l.getD (midI i j).toNat i64.dflt, ())).1 < 0))
         (Fr.val (Rd.next ((c, (g.1, g.2), IntKind.i64.wrap (midI i j + 1), j, ()), (l, ()))))
         (Fr.val (Rd.next ((c, (g.1, g.2), i, midI i j, ()), (l, ())))))))))))
  (Fr.val (Rd.out ((c, i, ()), (l, ()))))
theorem sem_s2 : Does Tryz.prog (loopF Tryz.f160 2) pt_s2.M pt_s2 fr_s2 :=
 Does.of_run CI0_ok (bs := 0) (Λ := lam0) rfl rfl rfl (fun E => lam0_ok _ 0) (fun x => by kernel_rfl)
structure InvS2 (c i j : Int) (g : cmpT.den) (l : List Int) : Prop where
 c0 : 0 <= c
 cl : c < l.length
 i0 : 0 <= i
 ij : i <= j
 jl : j <= l.length
 big : (l.length : Int) <= 4611686018427387903
 dom : DomOf g l
def FS2 (x : pt_s2.M.X) : Fr pt_s2.Out :=
 let c := x.1.1; let g := x.1.2.1; let i := x.1.2.2.1; let j := x.1.2.2.2.1; let l := x.2.1
 Fr.need (InvS2 c i j g l) (Fr.val (Rd.out ((c, (bsG (fun h => !ltOf g (l.getD c.toNat 0) (l.getD h 0)) (j.toNat - i.toNat) i.toNat j.toNat : Nat), ()), (l, ()))))
theorem lawS2 (c i j : Int) (g : cmpT.den) (l : List Int) (hinv : InvS2 c i j g l) (Q : pt_s2.Out -> Prop)
  (hq : Q (Rd.out ((c, (bsG (fun h => !ltOf g (l.getD c.toNat 0) (l.getD h 0)) (j.toNat - i.toNat) i.toNat j.toNat : Nat), ()), (l, ())))) : (fr_s2 ((c, g, i, j, ()), (l, ()))).satP fun
   | .next x' => InvS2 x'.1.1 x'.1.2.2.1 x'.1.2.2.2.1 x'.1.2.1 x'.2.1 /\ (x'.1.2.2.2.1 - x'.1.2.2.1).toNat < (j - i).toNat /\ (FS2 x').satP Q
   | .out y => Q (.out y)
   | .back z => Q (.back z)
   | .pan p => Q (.pan p) := by
 obtain ⟨h0, h1, h2, h3, h4, hb, hd⟩ := hinv
 obtain ⟨i', rfl⟩ : ∃ n : Nat, i = n := ⟨i.toNat, by omega⟩
 obtain ⟨j', rfl⟩ : ∃ n : Nat, j = n := ⟨j.toNat, by omega⟩
 obtain ⟨c', rfl⟩ : ∃ n : Nat, c = n := ⟨c.toNat, by omega⟩
 have hm : midI (i' : Int) j' = ((i' + j') / 2 : Nat) := midI_nat (by omega)
 have hw : IntKind.i64.wrap ((((i' + j') / 2 : Nat) : Int) + 1) = ((i' + j') / 2 + 1 : Nat) := succ_nat (by omega)
 dsimp only [fr_s2, Fr.satP, Ty.den, PT.den]
 rw [hm, hw]
 simp only [Int.toNat_natCast] at hq ⊢
 refine ⟨fun hi => ?_, fun hi => ?_⟩
 ·have hlt : i' < j' := by have : (i' : Int) < j' := of_decide_eq_true hi; omega
  rw [bsG_step hlt] at hq
  have hml : (i' + j') / 2 < l.length := by omega
  have hcl : c' < l.length := by omega
  refine ⟨by omega, ⟨by omega, by omega⟩, by omega, ⟨by omega, by omega⟩, by omega, hd _ (getD_mem hcl) _ (getD_mem hml), fun hc => ?_, fun hc => ?_⟩
  ·have hc' : (!ltOf g (l.getD c' 0) (l.getD ((i' + j') / 2) 0)) = true := hc
   rw [hc'] at hq
   have hI : InvS2 (c' : Int) ((i' + j') / 2 + 1 : Nat) j' g l := ⟨h0, h1, by omega, by omega, by omega, hb, hd⟩
   exact ⟨hI, by omega, hI, hq⟩
  ·have hc' : (!ltOf g (l.getD c' 0) (l.getD ((i' + j') / 2) 0)) = false := hc
   rw [hc'] at hq
   have hI : InvS2 (c' : Int) i' ((i' + j') / 2 : Nat) g l := ⟨h0, h1, by omega, by omega, by omega, hb, hd⟩
   exact ⟨hI, by omega, hI, hq⟩
 ·have hge : ¬ i' < j' := by have : ¬ (i' : Int) < j' := of_decide_eq_false hi; omega
  rw [show j' - i' = 0 by omega] at hq
  exact hq
theorem loopS2 : Does Tryz.prog (.loop (loopF Tryz.f160 2)) pt_s2.M pt_s2 FS2 := by
 refine Does.loop (n := 220) (id := 4) sem_s2 (inv := fun x => InvS2 x.1.1 x.1.2.2.1 x.1.2.2.2.1 x.1.2.1 x.2.1) (μ := fun x => (x.1.2.2.2.1 - x.1.2.2.1).toNat) ?_ (fun x Q h => h.1)
 rintro ⟨⟨c, g, i, j, _⟩, ⟨l, _⟩⟩ hinv Q hq
 exact lawS2 c i j g l hinv Q hq.2
abbrev pt_s4 : Pt := ⟨220, 8, ⟨[(1, .d i64), (2, .d i64), (3, .d i64), (4, cmpT), (18, .d i64), (19, .d i64), (20, .d i64), (21, .d i64), (22, .d i64)], [.al 10000 0, .o 0 3 i64]⟩, ⟨[(1, .d i64), (2, .d i64), (3, .d i64), (4, cmpT), (18, .d i64), (19, .d i64), (20, .d i64)], [.al 10000 0, .o 0 3 i64]⟩, ⟨[], []⟩⟩
def fr_s4 (x : pt_s4.M.X) : Fr pt_s4.Out :=
 let a := x.1.1; let m := x.1.2.1; let b := x.1.2.2.1; let g := x.1.2.2.2.1; let mid := x.1.2.2.2.2.1; let n := x.1.2.2.2.2.2.1; let i := x.1.2.2.2.2.2.2.1; let j := x.1.2.2.2.2.2.2.2.1; let p := x.1.2.2.2.2.2.2.2.2.1; let l := x.2.1
 Fr.br (decide (i < j))
  (Fr.need (¬(1 : Int) < 0)
   (Fr.need (0 <= IntKind.i64.wrap (p - midI i j) /\ IntKind.i64.wrap (p - midI i j) < (l.length : Int))
    (Fr.need ((IntKind.i64.wrap (p - midI i j)).toNat < l.length)
     (Fr.need (0 <= midI i j /\ midI i j < (l.length : Int))
      (Fr.need ((midI i j).toNat < l.length)
       (Fr.need (g.2 (l.getD (IntKind.i64.wrap (p - midI i j)).toNat i64.dflt, l.getD (midI i j).toNat i64.dflt, ()))
        (Fr.br (!decide ((g.1 (l.getD (IntKind.i64.wrap (p - midI i j)).toNat i64.dflt, l.getD (midI i j).toNat i64.dflt, ())).1 < 0))
         (Fr.val (Rd.next ((a, m, b, (g.1, g.2), mid, n, IntKind.i64.wrap (midI i j + 1), j, p, ()), (l, ()))))
         (Fr.val (Rd.next ((a, m, b, (g.1, g.2), mid, n, i, midI i j, p, ()), (l, ())))))))))))
  (Fr.val (Rd.out ((a, m, b, (g.1, g.2), mid, n, i, ()), (l, ()))))
theorem sem_s4 : Does Tryz.prog (loopF Tryz.f160 4) pt_s4.M pt_s4 fr_s4 :=
 Does.of_run CI0_ok (bs := 0) (Λ := lam0) rfl rfl rfl (fun E => lam0_ok _ 0) (fun x => by kernel_rfl)
structure InvS4 (p i j : Int) (g : cmpT.den) (l : List Int) : Prop where
 p0 : 0 <= p
 pl : p < i + l.length
 pj : j <= p + 1
 i0 : 0 <= i
 ij : i <= j
 jl : j <= l.length
 big : (l.length : Int) <= 4611686018427387903
 dom : DomOf g l
def FS4 (x : pt_s4.M.X) : Fr pt_s4.Out :=
 let a := x.1.1; let m := x.1.2.1; let b := x.1.2.2.1; let g := x.1.2.2.2.1; let mid := x.1.2.2.2.2.1; let n := x.1.2.2.2.2.2.1; let i := x.1.2.2.2.2.2.2.1; let j := x.1.2.2.2.2.2.2.2.1; let p := x.1.2.2.2.2.2.2.2.2.1; let l := x.2.1
 Fr.need (InvS4 p i j g l) (Fr.val (Rd.out ((a, m, b, g, mid, n, (bsG (fun h => !ltOf g (l.getD (p.toNat - h) 0) (l.getD h 0)) (j.toNat - i.toNat) i.toNat j.toNat : Nat), ()), (l, ()))))
theorem lawS4 (a m b mid n p i j : Int) (g : cmpT.den) (l : List Int) (hinv : InvS4 p i j g l) (Q : pt_s4.Out -> Prop)
  (hq : Q (Rd.out ((a, m, b, g, mid, n, (bsG (fun h => !ltOf g (l.getD (p.toNat - h) 0) (l.getD h 0)) (j.toNat - i.toNat) i.toNat j.toNat : Nat), ()), (l, ())))) : (fr_s4 ((a, m, b, g, mid, n, i, j, p, ()), (l, ()))).satP fun
   | .next x' => InvS4 x'.1.2.2.2.2.2.2.2.2.1 x'.1.2.2.2.2.2.2.1 x'.1.2.2.2.2.2.2.2.1 x'.1.2.2.2.1 x'.2.1 /\ (x'.1.2.2.2.2.2.2.2.1 - x'.1.2.2.2.2.2.2.1).toNat < (j - i).toNat /\ (FS4 x').satP Q
   | .out y => Q (.out y)
   | .back z => Q (.back z)
   | .pan p => Q (.pan p) := by
 obtain ⟨h00, h0, h1, h2, h3, h4, hb, hd⟩ := hinv
 obtain ⟨i', rfl⟩ : ∃ n : Nat, i = n := ⟨i.toNat, by omega⟩
 obtain ⟨j', rfl⟩ : ∃ n : Nat, j = n := ⟨j.toNat, by omega⟩
 obtain ⟨p', rfl⟩ : ∃ n : Nat, p = n := ⟨p.toNat, by omega⟩
 have hm : midI (i' : Int) j' = ((i' + j') / 2 : Nat) := midI_nat (by omega)
 have hw : IntKind.i64.wrap ((((i' + j') / 2 : Nat) : Int) + 1) = ((i' + j') / 2 + 1 : Nat) := succ_nat (by omega)
 dsimp only [fr_s4, Fr.satP, Ty.den, PT.den]
 rw [hm, hw]
 have hp : (i' < j') -> IntKind.i64.wrap ((p' : Int) - (((i' + j') / 2 : Nat) : Int)) = (p' - (i' + j') / 2 : Nat) := fun h => sub_nat (by omega) (by omega)
 simp only [Int.toNat_natCast] at hq ⊢
 refine ⟨fun hi => ?_, fun hi => ?_⟩
 ·have hlt : i' < j' := by have : (i' : Int) < j' := of_decide_eq_true hi; omega
  rw [bsG_step hlt] at hq
  rw [hp hlt]
  simp only [Int.toNat_natCast]
  have hml : p' - (i' + j') / 2 < l.length := by omega
  have hcl : (i' + j') / 2 < l.length := by omega
  refine ⟨by omega, ⟨by omega, by omega⟩, by omega, ⟨by omega, by omega⟩, by omega, hd _ (getD_mem hml) _ (getD_mem hcl), fun hc => ?_, fun hc => ?_⟩
  ·have hc' : (!ltOf g (l.getD (p' - (i' + j') / 2) 0) (l.getD ((i' + j') / 2) 0)) = true := hc
   rw [hc'] at hq
   have hI : InvS4 (p' : Int) ((i' + j') / 2 + 1 : Nat) j' g l := ⟨h00, by omega, by omega, by omega, by omega, by omega, hb, hd⟩
   exact ⟨hI, by omega, hI, hq⟩
  ·have hc' : (!ltOf g (l.getD (p' - (i' + j') / 2) 0) (l.getD ((i' + j') / 2) 0)) = false := hc
   rw [hc'] at hq
   have hI : InvS4 (p' : Int) i' ((i' + j') / 2 : Nat) g l := ⟨h00, by omega, by omega, by omega, by omega, by omega, hb, hd⟩
   exact ⟨hI, by omega, hI, hq⟩
 ·have hge : ¬ i' < j' := by have : ¬ (i' : Int) < j' := of_decide_eq_false hi; omega
  rw [show j' - i' = 0 by omega] at hq
  exact hq
theorem loopS4 : Does Tryz.prog (.loop (loopF Tryz.f160 4)) pt_s4.M pt_s4 FS4 := by
 refine Does.loop (n := 220) (id := 8) sem_s4 (inv := fun x => InvS4 x.1.2.2.2.2.2.2.2.2.1 x.1.2.2.2.2.2.2.1 x.1.2.2.2.2.2.2.2.1 x.1.2.2.2.1 x.2.1) (μ := fun x => (x.1.2.2.2.2.2.2.2.1 - x.1.2.2.2.2.2.2.1).toNat) ?_ (fun x Q h => h.1)
 rintro ⟨⟨a, m, b, g, mid, n, i, j, p, _⟩, ⟨l, _⟩⟩ hinv Q hq
 exact lawS4 a m b mid n p i j g l hinv Q hq.2
abbrev pt_s1 : Pt := ⟨220, 2, ⟨[(10, .d i64), (13, .d i64)], [.al 10000 0, .o 0 3 i64]⟩, ⟨[], [.al 10000 0, .o 0 3 i64]⟩, ⟨[], []⟩⟩
def fr_s1 (x : pt_s1.M.X) : Fr pt_s1.Out :=
 let i := x.1.1; let k := x.1.2.1; let l := x.2.1
 Fr.br (decide (k < IntKind.i64.wrap (i - 1)))
  (Fr.need (0 <= IntKind.i64.wrap (k + 1) /\ IntKind.i64.wrap (k + 1) < (l.length : Int))
   (Fr.need ((IntKind.i64.wrap (k + 1)).toNat < l.length)
    (Fr.need (0 <= k /\ k < (l.length : Int))
     (Fr.need (k.toNat < l.length)
      (Fr.need (0 <= k /\ k < (l.length : Int))
       (Fr.need (k.toNat < l.length)
        (Fr.need (0 <= IntKind.i64.wrap (k + 1) /\ IntKind.i64.wrap (k + 1) < ((l.set k.toNat (l.getD (IntKind.i64.wrap (k + 1)).toNat i64.dflt)).length : Int))
         (Fr.need ((IntKind.i64.wrap (k + 1)).toNat < (l.set k.toNat (l.getD (IntKind.i64.wrap (k + 1)).toNat i64.dflt)).length)
          (Fr.val (Rd.next ((i, IntKind.i64.wrap (k + 1), ()), ((l.set k.toNat (l.getD (IntKind.i64.wrap (k + 1)).toNat i64.dflt)).set (IntKind.i64.wrap (k + 1)).toNat (l.getD k.toNat i64.dflt), ()))))))))))))
  (Fr.val (Rd.out ((), (l, ()))))
theorem sem_s1 : Does Tryz.prog (loopF Tryz.f160 1) pt_s1.M pt_s1 fr_s1 :=
 Does.of_run CI0_ok (bs := 0) (Λ := lam0) rfl rfl rfl (fun E => lam0_ok _ 0) (fun x => by kernel_rfl)
structure InvS1 (i k : Int) (l : List Int) : Prop where
 k0 : 0 <= k
 i0 : 0 <= i
 il : i <= l.length
 big : (l.length : Int) <= 4611686018427387903
def FS1 (x : pt_s1.M.X) : Fr pt_s1.Out :=
 let i := x.1.1; let k := x.1.2.1; let l := x.2.1
 Fr.need (InvS1 i k l) (Fr.val (Rd.out ((), (upS 0 (i - 1 - k).toNat k.toNat l, ()))))
theorem lawS1 (i k : Int) (l : List Int) (hinv : InvS1 i k l) (Q : pt_s1.Out -> Prop) (hq : Q (Rd.out ((), (upS 0 (i - 1 - k).toNat k.toNat l, ())))) : (fr_s1 ((i, k, ()), (l, ()))).satP fun
   | .next x' => InvS1 x'.1.1 x'.1.2.1 x'.2.1 /\ (x'.1.1 - 1 - x'.1.2.1).toNat < (i - 1 - k).toNat /\ (FS1 x').satP Q
   | .out y => Q (.out y)
   | .back z => Q (.back z)
   | .pan p => Q (.pan p) := by
 obtain ⟨h0, h1, h2, h3⟩ := hinv
 have w1 : IntKind.i64.wrap (i - 1) = i - 1 := IntWalk.i64_in _ (by omega)
 dsimp only [fr_s1, Fr.satP, Ty.den, PT.den]
 rw [w1]
 simp only [List.length_set]
 refine ⟨fun hc => ?_, fun hc => ?_⟩
 ·have hlt : k < i - 1 := of_decide_eq_true hc
  have w2 : IntKind.i64.wrap (k + 1) = k + 1 := IntWalk.i64_in _ (by omega)
  rw [w2]
  have hI : InvS1 i (k + 1) (swapL l 0 k.toNat (k + 1).toNat) := ⟨by omega, by omega, by rw [swapL_length]; omega, by rw [swapL_length]; omega⟩
  refine ⟨⟨by omega, by omega⟩, by omega, ⟨by omega, by omega⟩, by omega, ⟨by omega, by omega⟩, by omega, ⟨by omega, by omega⟩, by omega, hI, by omega, hI, ?_⟩
  rw [show (i - 1 - k).toNat = (i - 1 - (k + 1)).toNat + 1 by omega] at hq
  simp only [upS] at hq
  dsimp only [Ty.den, PT.den]
  rw [show k.toNat + 1 = (k + 1).toNat by omega] at hq
  exact hq
 ·have hge : ¬ k < i - 1 := of_decide_eq_false hc
  rw [show (i - 1 - k).toNat = 0 by omega] at hq
  exact hq
theorem loopS1 : Does Tryz.prog (.loop (loopF Tryz.f160 1)) pt_s1.M pt_s1 FS1 := by
 refine Does.loop (n := 220) (id := 2) sem_s1 (inv := fun x => InvS1 x.1.1 x.1.2.1 x.2.1) (μ := fun x => (x.1.1 - 1 - x.1.2.1).toNat) ?_ (fun x Q h => h.1)
 rintro ⟨⟨i, k, _⟩, ⟨l, _⟩⟩ hinv Q hq
 exact lawS1 i k l hinv Q hq.2
abbrev pt_s3 : Pt := ⟨220, 6, ⟨[(14, .d i64), (17, .d i64)], [.al 10000 0, .o 0 3 i64]⟩, ⟨[], [.al 10000 0, .o 0 3 i64]⟩, ⟨[], []⟩⟩
def fr_s3 (x : pt_s3.M.X) : Fr pt_s3.Out :=
 let i := x.1.1; let k := x.1.2.1; let l := x.2.1
 Fr.br (decide (k > i))
  (Fr.need (0 <= IntKind.i64.wrap (k - 1) /\ IntKind.i64.wrap (k - 1) < (l.length : Int))
   (Fr.need ((IntKind.i64.wrap (k - 1)).toNat < l.length)
    (Fr.need (0 <= k /\ k < (l.length : Int))
     (Fr.need (k.toNat < l.length)
      (Fr.need (0 <= k /\ k < (l.length : Int))
       (Fr.need (k.toNat < l.length)
        (Fr.need (0 <= IntKind.i64.wrap (k - 1) /\ IntKind.i64.wrap (k - 1) < ((l.set k.toNat (l.getD (IntKind.i64.wrap (k - 1)).toNat i64.dflt)).length : Int))
         (Fr.need ((IntKind.i64.wrap (k - 1)).toNat < (l.set k.toNat (l.getD (IntKind.i64.wrap (k - 1)).toNat i64.dflt)).length)
          (Fr.val (Rd.next ((i, IntKind.i64.wrap (k - 1), ()), ((l.set k.toNat (l.getD (IntKind.i64.wrap (k - 1)).toNat i64.dflt)).set (IntKind.i64.wrap (k - 1)).toNat (l.getD k.toNat i64.dflt), ()))))))))))))
  (Fr.val (Rd.out ((), (l, ()))))
theorem sem_s3 : Does Tryz.prog (loopF Tryz.f160 3) pt_s3.M pt_s3 fr_s3 :=
 Does.of_run CI0_ok (bs := 0) (Λ := lam0) rfl rfl rfl (fun E => lam0_ok _ 0) (fun x => by kernel_rfl)
structure InvS3 (i k : Int) (l : List Int) : Prop where
 i0 : 0 <= i
 ik : i <= k
 kl : k < l.length
 big : (l.length : Int) <= 4611686018427387903
def FS3 (x : pt_s3.M.X) : Fr pt_s3.Out :=
 let i := x.1.1; let k := x.1.2.1; let l := x.2.1
 Fr.need (InvS3 i k l) (Fr.val (Rd.out ((), (downS 0 (k - i).toNat k.toNat l, ()))))
theorem lawS3 (i k : Int) (l : List Int) (hinv : InvS3 i k l) (Q : pt_s3.Out -> Prop) (hq : Q (Rd.out ((), (downS 0 (k - i).toNat k.toNat l, ())))) : (fr_s3 ((i, k, ()), (l, ()))).satP fun
   | .next x' => InvS3 x'.1.1 x'.1.2.1 x'.2.1 /\ (x'.1.2.1 - x'.1.1).toNat < (k - i).toNat /\ (FS3 x').satP Q
   | .out y => Q (.out y)
   | .back z => Q (.back z)
   | .pan p => Q (.pan p) := by
 obtain ⟨h0, h1, h2, h3⟩ := hinv
 have w2 : IntKind.i64.wrap (k - 1) = k - 1 := IntWalk.i64_in _ (by omega)
 dsimp only [fr_s3, Fr.satP, Ty.den, PT.den]
 rw [w2]
 simp only [List.length_set]
 refine ⟨fun hc => ?_, fun hc => ?_⟩
 ·have hlt : k > i := of_decide_eq_true hc
  have hI : InvS3 i (k - 1) (swapL l 0 k.toNat (k - 1).toNat) := ⟨by omega, by omega, by rw [swapL_length]; omega, by rw [swapL_length]; omega⟩
  refine ⟨⟨by omega, by omega⟩, by omega, ⟨by omega, by omega⟩, by omega, ⟨by omega, by omega⟩, by omega, ⟨by omega, by omega⟩, by omega, hI, by omega, hI, ?_⟩
  rw [show (k - i).toNat = (k - 1 - i).toNat + 1 by omega] at hq
  simp only [downS] at hq
  dsimp only [Ty.den, PT.den]
  rw [show k.toNat - 1 = (k - 1).toNat by omega] at hq
  exact hq
 ·have hge : ¬ k > i := of_decide_eq_false hc
  rw [show (k - i).toNat = 0 by omega] at hq
  exact hq
theorem loopS3 : Does Tryz.prog (.loop (loopF Tryz.f160 3)) pt_s3.M pt_s3 FS3 := by
 refine Does.loop (n := 220) (id := 6) sem_s3 (inv := fun x => InvS3 x.1.1 x.1.2.1 x.2.1) (μ := fun x => (x.1.2.1 - x.1.1).toNat) ?_ (fun x Q h => h.1)
 rintro ⟨⟨i, k, _⟩, ⟨l, _⟩⟩ hinv Q hq
 exact lawS3 i k l hinv Q hq.2
structure SymOk (n : Nat) (a m b : Int) (g : cmpT.den) (l : List Int) : Prop where
 a0 : 0 <= a
 am : a < m
 mb : m < b
 bl : b <= l.length
 big : (l.length : Int) <= 4611686018427387903
 size : b - a <= n
 dom : DomOf g l
 key : ∃ key : Int -> Int, LtK (ltOf g) key l /\ SortK key (seg a.toNat m.toNat l) /\ SortK key (seg m.toNat b.toNat l)
noncomputable def mSym (n : Nat) : Mt := ⟨3, i64, [.d i64, .d i64, .d i64, cmpT], [], fun l x => (partB (ltOf x.2.2.2.1) x.1.toNat x.2.2.1.toNat l, ()), fun l x => [SymOk n x.1 x.2.1 x.2.2.1 x.2.2.2.1 l]⟩
noncomputable def CI2 (n : Nat) : Cx := cxK [] [] (orK (mtK (cx [] []).Γ 168 mRot) (mtK (cx [] []).Γ 160 (mSym n)))
theorem CI2_ok {n : Nat} (h : SoundMt Tryz.prog 160 (mSym n)) : CxOK Tryz.prog (CI2 n) := cxK_ok mixed trivial trivial (orK_ok (mtK_ok CI0_ok.ct rotate_ok) (mtK_ok CI0_ok.ct h))
noncomputable def ΛSym : Nat -> St -> Option Tr
 | 0 => pt_s0.han CI0.Γ pt_s0.M FS0
 | 1 => pt_s1.han CI0.Γ pt_s1.M FS1
 | 2 => pt_s2.han CI0.Γ pt_s2.M FS2
 | 3 => pt_s3.han CI0.Γ pt_s3.M FS3
 | _ => pt_s4.han CI0.Γ pt_s4.M FS4
theorem lam_sym {E : Env} {c : Code} (hc : Tryz.f160.body = some c) : LamOK Tryz.prog E ΛSym c 0 := by
 have hn : (Tryz.f160.body.map loopsIn) = some 5 := by kernel_rfl
 have b0 : Tryz.f160.body.bind (Go.Ab.loopB · 0) = some (loopF Tryz.f160 0) := by kernel_rfl
 have b1 : Tryz.f160.body.bind (Go.Ab.loopB · 1) = some (loopF Tryz.f160 1) := by kernel_rfl
 have b2 : Tryz.f160.body.bind (Go.Ab.loopB · 2) = some (loopF Tryz.f160 2) := by kernel_rfl
 have b3 : Tryz.f160.body.bind (Go.Ab.loopB · 3) = some (loopF Tryz.f160 3) := by kernel_rfl
 have b4 : Tryz.f160.body.bind (Go.Ab.loopB · 4) = some (loopF Tryz.f160 4) := by kernel_rfl
 have hb : ∀ i, i < 5 -> Tryz.f160.body.bind (Go.Ab.loopB · i) = some (loopF Tryz.f160 i) := fun i hi => match i, hi with
  | 0, _ => b0
  | 1, _ => b1
  | 2, _ => b2
  | 3, _ => b3
  | 4, _ => b4
 rw [hc] at hn hb
 simp only [Option.map_some, Option.some.injEq] at hn
 simp only [Option.bind_some] at hb
 refine lamAll c 0 fun i b' hb' => ?_
 have hlt := loopB_lt hb'
 rw [hn] at hlt
 have e := hb i hlt
 rw [e] at hb'
 cases hb'
 match i, hlt with
 | 0, _ => exact Does.han CI0_ok rfl loopS0
 | 1, _ => exact Does.han CI0_ok rfl loopS1
 | 2, _ => exact Does.han CI0_ok rfl loopS2
 | 3, _ => exact Does.han CI0_ok rfl loopS3
 | 4, _ => exact Does.han CI0_ok rfl loopS4
def bs0 (c i j : Int) (g : cmpT.den) (l : List Int) : Int := (bsG (fun h => ltOf g (l.getD h 0) (l.getD c.toNat 0)) (j.toNat - i.toNat) i.toNat j.toNat : Nat)
def bs2 (c i j : Int) (g : cmpT.den) (l : List Int) : Int := (bsG (fun h => !ltOf g (l.getD c.toNat 0) (l.getD h 0)) (j.toNat - i.toNat) i.toNat j.toNat : Nat)
def bs4 (p i j : Int) (g : cmpT.den) (l : List Int) : Int := (bsG (fun h => !ltOf g (l.getD (p.toNat - h) 0) (l.getD h 0)) (j.toNat - i.toNat) i.toNat j.toNat : Nat)
noncomputable def symT3 (n : Nat) (mid en b : Int) (g : cmpT.den) (l : List Int) : Fr (List Int × denL []) :=
 Fr.br (bif decide (mid < en) then decide (en < b) else false) (Fr.need (SymOk n mid en b (g.1, g.2) l) (Fr.val (((mSym n).f l (mid, en, b, (g.1, g.2), ())).1, ()))) (Fr.val (l, ()))
noncomputable def symT2 (n : Nat) (a st mid en b : Int) (g : cmpT.den) (l : List Int) : Fr (List Int × denL []) :=
 Fr.br (bif decide (a < st) then decide (st < mid) else false) (Fr.need (SymOk n a st mid (g.1, g.2) l) (symT3 n mid en b g ((mSym n).f l (a, st, mid, (g.1, g.2), ())).1)) (symT3 n mid en b g l)
noncomputable def symT1 (n : Nat) (a m b st mid en : Int) (g : cmpT.den) (l : List Int) : Fr (List Int × denL []) :=
 Fr.br (bif decide (st < m) then decide (m < en) else false)
  (Fr.need (0 <= st) (Fr.need (st < m) (Fr.need (m < en) (Fr.need (en <= (l.length : Int)) (Fr.need ((l.length : Int) <= 4611686018427387903) (symT2 n a st mid en b g (mRot.f l (st, m, en, (g.1, g.2), ())).1))))))
  (symT2 n a st mid en b g l)
noncomputable def symT0 (n : Nat) (a m b mid i j : Int) (g : cmpT.den) (l : List Int) : Fr (List Int × denL []) :=
 let p := IntKind.i64.wrap (IntKind.i64.wrap (mid + m) - 1)
 Fr.need (InvS4 p i j (g.1, g.2) l) (symT1 n a m b (bs4 p i j (g.1, g.2) l) mid (IntKind.i64.wrap (IntKind.i64.wrap (mid + m) - bs4 p i j (g.1, g.2) l)) g l)
noncomputable def fr_sym (n : Nat) (l : List Int) (x : denP [.d i64, .d i64, .d i64, cmpT]) : Fr (List Int × denL []) :=
 let a := x.1; let m := x.2.1; let b := x.2.2.1; let g := x.2.2.2.1
 Fr.br (IntKind.i64.wrap (m - a) == 1)
  (Fr.need (InvS0 a m b (g.1, g.2) l) (Fr.need (InvS1 (bs0 a m b (g.1, g.2) l) a l) (Fr.val (upS 0 (bs0 a m b (g.1, g.2) l - 1 - a).toNat a.toNat l, ()))))
  (Fr.br (IntKind.i64.wrap (b - m) == 1)
   (Fr.need (InvS2 m a m (g.1, g.2) l) (Fr.need (InvS3 (bs2 m a m (g.1, g.2) l) m l) (Fr.val (downS 0 (m - bs2 m a m (g.1, g.2) l).toNat m.toNat l, ()))))
   (Fr.need (¬(1 : Int) < 0)
    (Fr.br (decide (m > midI a b))
     (symT0 n a m b (midI a b) (IntKind.i64.wrap (IntKind.i64.wrap (midI a b + m) - b)) (midI a b) g l)
     (symT0 n a m b (midI a b) a m g l))))
theorem run_sym (n : Nat) (l : List Int) (x : denP [.d i64, .d i64, .d i64, cmpT]) : runMt Tryz.prog (CI2 n) ΛSym Tryz.f160 3 i64 [.d i64, .d i64, .d i64, cmpT] [] l x = some (fr_sym n l x) := by kernel_rfl
theorem bsG_bd {Q : Nat -> Bool} : (f i j : Nat) -> i <= j -> i <= bsG Q f i j /\ bsG Q f i j <= j
 | 0, i, j, h => ⟨Nat.le_refl _, h⟩
 | f + 1, i, j, h => by
  simp only [bsG]
  split
  ·cases Q ((i + j) / 2) with
   | true =>
    have := bsG_bd (Q := Q) f ((i + j) / 2 + 1) j (by omega)
    simp only [cond_true]
    omega
   | false =>
    have := bsG_bd (Q := Q) f i ((i + j) / 2) (by omega)
    simp only [cond_false]
    omega
  ·exact ⟨Nat.le_refl _, h⟩
structure Sym3 (lt : Int -> Int -> Bool) (key : Int -> Int) (a m b st : Nat) (l : List Int) : Prop where
 s1 : a <= st
 s2 : st <= m
 s3 : st <= (a + b) / 2
 s4 : (a + b) / 2 <= b
 e1 : m + st <= (a + b) / 2 + m
 e2 : (a + b) / 2 + m <= b + st
 len1 : (symR 0 m st ((a + b) / 2 + m - st) l).length = l.length
 same1 : SameK key l (symR 0 m st ((a + b) / 2 + m - st) l)
 sA1 : SortK key (seg a st (symR 0 m st ((a + b) / 2 + m - st) l))
 sB1 : SortK key (seg st ((a + b) / 2) (symR 0 m st ((a + b) / 2 + m - st) l))
 len2 : (if a < st /\ st < (a + b) / 2 then partB lt a ((a + b) / 2) (symR 0 m st ((a + b) / 2 + m - st) l) else symR 0 m st ((a + b) / 2 + m - st) l).length = l.length
 same2 : SameK key l (if a < st /\ st < (a + b) / 2 then partB lt a ((a + b) / 2) (symR 0 m st ((a + b) / 2 + m - st) l) else symR 0 m st ((a + b) / 2 + m - st) l)
 sA2 : SortK key (seg ((a + b) / 2) ((a + b) / 2 + m - st) (if a < st /\ st < (a + b) / 2 then partB lt a ((a + b) / 2) (symR 0 m st ((a + b) / 2 + m - st) l) else symR 0 m st ((a + b) / 2 + m - st) l))
 sB2 : SortK key (seg ((a + b) / 2 + m - st) b (if a < st /\ st < (a + b) / 2 then partB lt a ((a + b) / 2) (symR 0 m st ((a + b) / 2 + m - st) l) else symR 0 m st ((a + b) / 2 + m - st) l))
theorem sym3 {lt : Int -> Int -> Bool} {key : Int -> Int} {a m b : Nat} {l : List Int} (h1 : a < m) (h2 : m < b) (h3 : b <= l.length) (hl : LtK lt key l) (sA : SortK key (seg a m l)) (sB : SortK key (seg m b l)) :
  Sym3 lt key a m b (symS lt 0 a m b l) l := by
 obtain ⟨p, q, hL, hp, hA, hB, hq⟩ := seg_split (Nat.le_of_lt h1) (Nat.le_of_lt h2) h3
 have hAB : LtK lt key (seg a m l ++ seg m b l) := hl.sub fun z hz => by
  rw [hL]
  rcases List.mem_append.1 hz with h | h
  ·exact List.mem_append_right _ (List.mem_append_left _ h)
  ·exact List.mem_append_right _ (List.mem_append_right _ (List.mem_append_left _ h))
 obtain ⟨A1, A2, B1, B2, eA, eB, e1, e2, f1, f2⟩ := sym_parts (d := (0 : Int)) (q := q) hp hA hB h1 h2 hAB sA sB
 rw [← hL] at e1 e2
 rw [eA] at sA hA
 rw [eB] at sB hB
 rw [eA, eB] at hL
 generalize symS lt 0 a m b l = st at e1 e2 ⊢
 subst hL
 simp only [List.length_append] at hA hB h3
 have pA := List.pairwise_append.1 sA
 have pB := List.pairwise_append.1 sB
 have hen : (a + b) / 2 + m - st = m + B1.length := by omega
 have hR : symR 0 m st ((a + b) / 2 + m - st) (p ++ (A1 ++ A2 ++ (B1 ++ B2 ++ q))) = p ++ (A1 ++ (B1 ++ (A2 ++ (B2 ++ q)))) := by
  rw [hen]
  unfold symR
  split
  ·rename_i hc
   have := rotF_eq (d := (0 : Int)) (a := st) (m := m) (b := m + B1.length) (x := A2) (y := B1) (p := p ++ A1) (q := B2 ++ q) (by omega) (by omega) (by simp; omega) (by omega) rfl
   simpa using this
  ·rename_i hc
   by_cases hb1 : B1 = []
   ·subst hb1; simp
   ·have := List.length_pos_iff.2 hb1
    have : A2 = [] := List.length_eq_zero_iff.1 (by omega)
    subst this; simp
 have same1 : SameK key (p ++ (A1 ++ A2 ++ (B1 ++ B2 ++ q))) (p ++ (A1 ++ (B1 ++ (A2 ++ (B2 ++ q))))) := by
  have h := (SameK.refl p).app (((SameK.refl A1).app (SameK.swap (key := key) fun x hx y hy => by have := f2 y hy x hx; omega : SameK key (A2 ++ B1) (B1 ++ A2))).app (SameK.refl (B2 ++ q)))
  simpa using h
 have hl1 : LtK lt key (p ++ (A1 ++ (B1 ++ (A2 ++ (B2 ++ q))))) := hl.sub fun z hz => same1.mem.1 hz
 have g1 : seg a st (p ++ (A1 ++ (B1 ++ (A2 ++ (B2 ++ q))))) = A1 := seg_eq hp (by omega)
 have g2 : seg st ((a + b) / 2) (p ++ (A1 ++ (B1 ++ (A2 ++ (B2 ++ q))))) = B1 := by
  have := seg_eq (p := p ++ A1) (s := B1) (q := A2 ++ (B2 ++ q)) (a := st) (b := (a + b) / 2) (by simp; omega) (by omega)
  simpa using this
 have hX : ∀ T : List Int, T.length = A1.length + B1.length -> seg ((a + b) / 2) ((a + b) / 2 + m - st) (p ++ (T ++ (A2 ++ (B2 ++ q)))) = A2 /\ seg ((a + b) / 2 + m - st) b (p ++ (T ++ (A2 ++ (B2 ++ q)))) = B2 := fun T hT => by
  have k1 := seg_eq (p := p ++ T) (s := A2) (q := B2 ++ q) (a := (a + b) / 2) (b := (a + b) / 2 + m - st) (by simp; omega) (by omega)
  have k2 := seg_eq (p := p ++ T ++ A2) (s := B2) (q := q) (a := (a + b) / 2 + m - st) (b := b) (by simp; omega) (by omega)
  exact ⟨by simpa using k1, by simpa using k2⟩
 have hlen : (p ++ (A1 ++ (B1 ++ (A2 ++ (B2 ++ q))))).length = (p ++ (A1 ++ A2 ++ (B1 ++ B2 ++ q))).length := by simp; omega
 have hpart : a < st /\ st < (a + b) / 2 -> partB lt a ((a + b) / 2) (p ++ (A1 ++ (B1 ++ (A2 ++ (B2 ++ q))))) = p ++ (sortB lt (A1 ++ B1) ++ (A2 ++ (B2 ++ q))) := fun hc => by
  have := partB_eq (lt := lt) (a := a) (b := (a + b) / 2) (p := p) (s := A1 ++ B1) (q := A2 ++ (B2 ++ q)) hp (by simp; omega)
  simpa using this
 refine ⟨by omega, by omega, by omega, by omega, by omega, by omega, by rw [hR]; exact hlen, by rw [hR]; exact same1, by rw [hR, g1]; exact pA.1, by rw [hR, g2]; exact pB.1, ?_, ?_, ?_, ?_⟩
 ·rw [hR]
  split
  ·rw [partB_length (by omega) (by simp; omega)]
   exact hlen
  ·exact hlen
 ·rw [hR]
  split
  ·exact same1.trans (partB_same (by omega) (by simp; omega) hl1)
  ·exact same1
 ·rw [hR]
  split
  ·rename_i hc
   rw [hpart hc, (hX _ (by rw [sortB_length]; simp)).1]
   exact pA.2.1
  ·have := (hX (A1 ++ B1) (by simp)).1
   rw [show p ++ (A1 ++ (B1 ++ (A2 ++ (B2 ++ q)))) = p ++ ((A1 ++ B1) ++ (A2 ++ (B2 ++ q))) by simp, this]
   exact pA.2.1
 ·rw [hR]
  split
  ·rename_i hc
   rw [hpart hc, (hX _ (by rw [sortB_length]; simp)).2]
   exact pB.2.1
  ·have := (hX (A1 ++ B1) (by simp)).2
   rw [show p ++ (A1 ++ (B1 ++ (A2 ++ (B2 ++ q)))) = p ++ ((A1 ++ B1) ++ (A2 ++ (B2 ++ q))) by simp, this]
   exact pB.2.1
theorem symX_part {lt : Int -> Int -> Bool} {key : Int -> Int} {a m b : Nat} {l : List Int} (h1 : a < m) (h2 : m < b) (h3 : b <= l.length) (hl : LtK lt key l) (sA : SortK key (seg a m l)) (sB : SortK key (seg m b l)) :
  symX lt 0 a m b l = partB lt a b l := by
 obtain ⟨p, q, hL, hp, hA, hB, hq⟩ := seg_split (Nat.le_of_lt h1) (Nat.le_of_lt h2) h3
 generalize seg a m l = A at hL hA sA
 generalize seg m b l = B at hL hB sB
 subst hL
 have hAB : LtK lt key (A ++ B) := hl.sub fun z hz => by
  rcases List.mem_append.1 hz with h | h
  ·exact List.mem_append_right _ (List.mem_append_left _ h)
  ·exact List.mem_append_right _ (List.mem_append_right _ (List.mem_append_left _ h))
 rw [symX_eq hp hA hB h1 h2 hAB sA sB]
 have := partB_eq (lt := lt) (a := a) (b := b) (p := p) (s := A ++ B) (q := q) hp (by simp; omega)
 rw [← this]
 simp
theorem bif_dec (p q : Prop) [Decidable p] [Decidable q] : (bif decide p then decide q else false) = decide (p /\ q) := by
 by_cases p <;> by_cases q <;> simp_all
theorem symT3_ok {n : Nat} {mid en b : Nat} {g : cmpT.den} {l : List Int} (h : mid < en /\ en < b -> SymOk n mid en b g l) :
  (symT3 n mid en b g l).ok /\ (symT3 n mid en b g l).get = ((if mid < en /\ en < b then partB (ltOf g) mid b l else l), ()) := by
 unfold symT3
 have hd : (bif decide ((mid : Int) < en) then decide ((en : Int) < b) else false) = decide (mid < en /\ en < b) := by
  rw [bif_dec, decide_eq_decide]
  omega
 rw [hd]
 by_cases hc : mid < en /\ en < b
 ·rw [decide_eq_true hc, if_pos hc]
  exact ⟨⟨fun _ => ⟨h hc, trivial⟩, fun hb => by cases hb⟩, rfl⟩
 ·rw [decide_eq_false hc, if_neg hc]
  exact ⟨⟨fun hb => (by cases hb), fun _ => trivial⟩, rfl⟩
theorem symT2_ok {n : Nat} {a st mid en b : Nat} {g : cmpT.den} {l : List Int} (h : a < st /\ st < mid -> SymOk n a st mid g l)
  (k : mid < en /\ en < b -> SymOk n mid en b g (if a < st /\ st < mid then partB (ltOf g) a mid l else l)) :
  (symT2 n a st mid en b g l).ok /\ (symT2 n a st mid en b g l).get = ((if mid < en /\ en < b then partB (ltOf g) mid b (if a < st /\ st < mid then partB (ltOf g) a mid l else l) else (if a < st /\ st < mid then partB (ltOf g) a mid l else l)), ()) := by
 unfold symT2
 have hd : (bif decide ((a : Int) < st) then decide ((st : Int) < mid) else false) = decide (a < st /\ st < mid) := by
  rw [bif_dec, decide_eq_decide]
  omega
 rw [hd]
 by_cases hc : a < st /\ st < mid
 ·rw [if_pos hc] at k ⊢
  rw [decide_eq_true hc]
  obtain ⟨h1, h2⟩ := symT3_ok k
  exact ⟨⟨fun _ => ⟨h hc, h1⟩, fun hb => by cases hb⟩, h2⟩
 ·rw [if_neg hc] at k ⊢
  rw [decide_eq_false hc]
  obtain ⟨h1, h2⟩ := symT3_ok k
  exact ⟨⟨fun hb => (by cases hb), fun _ => h1⟩, h2⟩
theorem symT1_ok {n : Nat} {a m b st mid en : Nat} {g : cmpT.den} {l : List Int} (hen : en <= l.length) (hbig : (l.length : Int) <= 4611686018427387903)
  (h : a < st /\ st < mid -> SymOk n a st mid g (symR 0 m st en l))
  (k : mid < en /\ en < b -> SymOk n mid en b g (if a < st /\ st < mid then partB (ltOf g) a mid (symR 0 m st en l) else symR 0 m st en l)) :
  (symT1 n a m b st mid en g l).ok /\ (symT1 n a m b st mid en g l).get = ((if mid < en /\ en < b then partB (ltOf g) mid b (if a < st /\ st < mid then partB (ltOf g) a mid (symR 0 m st en l) else symR 0 m st en l) else (if a < st /\ st < mid then partB (ltOf g) a mid (symR 0 m st en l) else symR 0 m st en l)), ()) := by
 unfold symT1
 have hd : (bif decide ((st : Int) < m) then decide ((m : Int) < en) else false) = decide (st < m /\ m < en) := by
  rw [bif_dec, decide_eq_decide]
  omega
 rw [hd]
 by_cases hc : st < m /\ m < en
 ·have e : symR 0 m st en l = rotF 0 st m en l := by unfold symR; rw [if_pos hc]
  rw [e] at h k ⊢
  rw [decide_eq_true hc]
  obtain ⟨h1, h2⟩ := symT2_ok h k
  exact ⟨⟨fun _ => ⟨by omega, by omega, by omega, by omega, hbig, h1⟩, fun hb => by cases hb⟩, h2⟩
 ·have e : symR 0 m st en l = l := by unfold symR; rw [if_neg hc]
  rw [e] at h k ⊢
  rw [decide_eq_false hc]
  obtain ⟨h1, h2⟩ := symT2_ok h k
  exact ⟨⟨fun hb => (by cases hb), fun _ => h1⟩, h2⟩
theorem sym_plain (n a m b : Nat) (g : cmpT.den) (l : List Int) (h : SymOk (n + 1) a m b g l) : (fr_sym n l ((a : Int), (m : Int), (b : Int), g, ())).ok /\ (fr_sym n l ((a : Int), (m : Int), (b : Int), g, ())).get = (partB (ltOf g) a b l, ()) := by
 obtain ⟨_, h1, h2, h3, hbig, hsize, hdom, key, hl, sA, sB⟩ := h
 simp only [Int.toNat_natCast] at sA sB
 have h1' : a < m := by omega
 have h2' : m < b := by omega
 have h3' : b <= l.length := by omega
 have hX := symX_part h1' h2' h3' hl sA sB
 rw [← hX]
 have w1 : IntKind.i64.wrap ((m : Int) - a) = (m - a : Nat) := sub_nat (by omega) (by omega)
 have w2 : IntKind.i64.wrap ((b : Int) - m) = (b - m : Nat) := sub_nat (by omega) (by omega)
 have hmid : midI (a : Int) b = ((a + b) / 2 : Nat) := midI_nat (by omega)
 dsimp only [fr_sym]
 rw [w1, w2, hmid]
 by_cases c1 : m - a = 1
 ·have hc : (((m - a : Nat) : Int) == 1) = true := by rw [c1]; rfl
  rw [hc]
  unfold symX
  rw [if_pos c1]
  obtain ⟨r1, r2⟩ := bsG_bd (Q := fun h => ltOf g (l.getD h 0) (l.getD a 0)) (b - m) m b (by omega)
  have hb0 : bs0 (a : Int) m b g l = (bsG (fun h => ltOf g (l.getD h 0) (l.getD a 0)) (b - m) m b : Nat) := rfl
  have e : (g.1, g.2) = g := rfl
  simp only [e]
  rw [hb0]
  generalize bsG (fun h => ltOf g (l.getD h 0) (l.getD a 0)) (b - m) m b = r at r1 r2 ⊢
  refine ⟨⟨fun _ => ⟨⟨by omega, by omega, by omega, by omega, by omega, hbig, hdom⟩, ⟨by omega, by omega, by omega, hbig⟩, trivial⟩, fun hb => by cases hb⟩, ?_⟩
  show (upS 0 ((r : Int) - 1 - a).toNat (a : Int).toNat l, ()) = _
  rw [show ((r : Int) - 1 - a).toNat = r - 1 - a by omega]
  rfl
 ·have hc : (((m - a : Nat) : Int) == 1) = false := by rw [beq_eq_false_iff_ne]; omega
  rw [hc]
  by_cases c2 : b - m = 1
  ·have hc : (((b - m : Nat) : Int) == 1) = true := by rw [c2]; rfl
   rw [hc]
   unfold symX
   rw [if_neg c1, if_pos c2]
   obtain ⟨r1, r2⟩ := bsG_bd (Q := fun h => !ltOf g (l.getD m 0) (l.getD h 0)) (m - a) a m (by omega)
   have hb0 : bs2 (m : Int) a m g l = (bsG (fun h => !ltOf g (l.getD m 0) (l.getD h 0)) (m - a) a m : Nat) := rfl
   have e : (g.1, g.2) = g := rfl
   simp only [e]
   rw [hb0]
   generalize bsG (fun h => !ltOf g (l.getD m 0) (l.getD h 0)) (m - a) a m = r at r1 r2 ⊢
   refine ⟨⟨fun hb => (by cases hb), fun _ => ⟨fun _ => ⟨⟨by omega, by omega, by omega, by omega, by omega, hbig, hdom⟩, ⟨by omega, by omega, by omega, hbig⟩, trivial⟩, fun hb => by cases hb⟩⟩, ?_⟩
   show (downS 0 ((m : Int) - r).toNat (m : Int).toNat l, ()) = _
   rw [show ((m : Int) - r).toNat = m - r by omega]
   rfl
  ·have hc : (((b - m : Nat) : Int) == 1) = false := by rw [beq_eq_false_iff_ne]; omega
   rw [hc]
   have s3 := sym3 h1' h2' h3' hl sA sB
   have key3 : ∀ i j : Nat, (i = if (a + b) / 2 < m then (a + b) / 2 + m - b else a) -> (j = if (a + b) / 2 < m then (a + b) / 2 else m) ->
     (symT0 n a m b ((a + b) / 2 : Nat) i j g l).ok /\ (symT0 n a m b ((a + b) / 2 : Nat) i j g l).get = (symX (ltOf g) 0 a m b l, ()) := fun i j hi hj => by
    have wp : IntKind.i64.wrap (IntKind.i64.wrap ((((a + b) / 2 : Nat) : Int) + m) - 1) = ((a + b) / 2 + m - 1 : Nat) := by
     rw [add_nat (by omega), pred_nat (by omega) (by omega)]
    have hS : bs4 (((a + b) / 2 + m - 1 : Nat) : Int) i j g l = (symS (ltOf g) 0 a m b l : Nat) := by
     unfold bs4 symS
     simp only [Int.toNat_natCast]
     rw [← hi, ← hj]
    dsimp only [symT0]
    have e : (g.1, g.2) = g := rfl
    rw [wp, e, hS]
    have we : IntKind.i64.wrap (IntKind.i64.wrap ((((a + b) / 2 : Nat) : Int) + m) - (symS (ltOf g) 0 a m b l : Nat)) = ((a + b) / 2 + m - symS (ltOf g) 0 a m b l : Nat) := by
     have := s3.s3
     rw [add_nat (by omega), sub_nat (by omega) (by omega)]
    rw [we]
    have hSx : symX (ltOf g) 0 a m b l = (if (a + b) / 2 < (a + b) / 2 + m - symS (ltOf g) 0 a m b l /\ (a + b) / 2 + m - symS (ltOf g) 0 a m b l < b then partB (ltOf g) ((a + b) / 2) b (if a < symS (ltOf g) 0 a m b l /\ symS (ltOf g) 0 a m b l < (a + b) / 2 then partB (ltOf g) a ((a + b) / 2) (symR 0 m (symS (ltOf g) 0 a m b l) ((a + b) / 2 + m - symS (ltOf g) 0 a m b l) l) else symR 0 m (symS (ltOf g) 0 a m b l) ((a + b) / 2 + m - symS (ltOf g) 0 a m b l) l) else (if a < symS (ltOf g) 0 a m b l /\ symS (ltOf g) 0 a m b l < (a + b) / 2 then partB (ltOf g) a ((a + b) / 2) (symR 0 m (symS (ltOf g) 0 a m b l) ((a + b) / 2 + m - symS (ltOf g) 0 a m b l) l) else symR 0 m (symS (ltOf g) 0 a m b l) ((a + b) / 2 + m - symS (ltOf g) 0 a m b l) l)) := by
     conv => lhs; unfold symX
     rw [if_neg c1, if_neg c2]
    rw [hSx]
    generalize symS (ltOf g) 0 a m b l = st at s3 ⊢
    obtain ⟨q1, q2, q3, q4, q5, q6, len1, same1, sA1, sB1, len2, same2, sA2, sB2⟩ := s3
    obtain ⟨o1, o2⟩ := symT1_ok (n := n) (a := a) (m := m) (b := b) (st := st) (mid := (a + b) / 2) (en := (a + b) / 2 + m - st) (g := g) (l := l) (by omega) hbig
     (fun hc => ⟨by omega, by omega, by omega, by omega, by omega, by omega, hdom.sub fun z hz => same1.mem.1 hz, key, hl.sub fun z hz => same1.mem.1 hz, sA1, sB1⟩)
     (fun hc => ⟨by omega, by omega, by omega, by omega, by omega, by omega, hdom.sub fun z hz => same2.mem.1 hz, key, hl.sub fun z hz => same2.mem.1 hz, sA2, sB2⟩)
    refine ⟨⟨?_, o1⟩, o2⟩
    refine ⟨by omega, ?_, ?_, by omega, ?_, ?_, hbig, hdom⟩ <;> (subst hi hj; split <;> omega)
   by_cases cm : m > (a + b) / 2
   ·have hd : decide ((m : Int) > ((a + b) / 2 : Nat)) = true := decide_eq_true (by omega)
    rw [hd]
    have wi : IntKind.i64.wrap (IntKind.i64.wrap ((((a + b) / 2 : Nat) : Int) + m) - b) = ((a + b) / 2 + m - b : Nat) := by
     rw [add_nat (by omega), sub_nat (by omega) (by omega)]
    rw [wi]
    obtain ⟨k1, k2⟩ := key3 ((a + b) / 2 + m - b) ((a + b) / 2) (by rw [if_pos (by omega)]) (by rw [if_pos (by omega)])
    exact ⟨⟨fun hb => (by cases hb), fun _ => ⟨fun hb => (by cases hb), fun _ => ⟨by omega, fun _ => k1, fun hb => by cases hb⟩⟩⟩, k2⟩
   ·have hd : decide ((m : Int) > ((a + b) / 2 : Nat)) = false := decide_eq_false (by omega)
    rw [hd]
    obtain ⟨k1, k2⟩ := key3 a m (by rw [if_neg (by omega)]) (by rw [if_neg (by omega)])
    exact ⟨⟨fun hb => (by cases hb), fun _ => ⟨fun hb => (by cases hb), fun _ => ⟨by omega, fun hb => (by cases hb), fun _ => k1⟩⟩⟩, k2⟩
theorem sym_ok : (n : Nat) -> SoundMt Tryz.prog 160 (mSym n)
 | 0 => by
  have hf : Tryz.prog.funcs[160]? = some Tryz.f160 := by kernel_rfl
  obtain ⟨c, hb⟩ : ∃ c, Tryz.f160.body = some c := ⟨_, rfl⟩
  refine ⟨rfl, rfl, enters hf hb (by kernel_rfl), fun w F l xs v vs rows _ _ _ _ _ _ _ hok => ?_⟩
  have h : SymOk 0 xs.1 xs.2.1 xs.2.2.1 xs.2.2.2.1 l := hok
  have h1 := h.am
  have h2 := h.mb
  have h3 := h.size
  omega
 | n + 1 => by
  refine convMt (mt_sound (CI2_ok (sym_ok n)) (Λ := ΛSym) (fn := Tryz.f160) (fr := fr_sym n) (e := 3) (T := i64) (ps := [.d i64, .d i64, .d i64, cmpT]) (rs := []) (0, 0, 0, (fun _ => (0, ()), fun _ => True), ()) (by kernel_rfl) rfl rfl
   (fun c E hc => lam_sym hc) (run_sym n)) _ _ fun w F l xs vs _ _ _ hok => ?_
  obtain ⟨a, m, b, g, rfl⟩ : ∃ (a m b : Int) (g : cmpT.den), xs = (a, m, b, g, ()) := ⟨xs.1, xs.2.1, xs.2.2.1, xs.2.2.2.1, rfl⟩
  have h : SymOk (n + 1) a m b g l := hok
  have h0 := h.a0
  have h1 := h.am
  have h2 := h.mb
  obtain ⟨a', rfl⟩ : ∃ n : Nat, a = n := ⟨a.toNat, by omega⟩
  obtain ⟨m', rfl⟩ : ∃ n : Nat, m = n := ⟨m.toNat, by omega⟩
  obtain ⟨b', rfl⟩ : ∃ n : Nat, b = n := ⟨b.toNat, by omega⟩
  exact sym_plain n a' m' b' g l h
theorem blkW_enough {lt : Int -> Int -> Bool} {w n : Nat} (hw : 0 < w) : (f f' a : Nat) -> (l : List Int) -> n < f + a -> n < f' + a -> blkW lt w n f a l = blkW lt w n f' a l
 | 0, 0, _, _, _, _ => rfl
 | 0, f' + 1, a, l, h, _ => by simp only [blkW]; rw [if_neg (by omega)]
 | f + 1, 0, a, l, _, h => by simp only [blkW]; rw [if_neg (by omega)]
 | f + 1, f' + 1, a, l, h, h' => by
  simp only [blkW]
  split
  ·exact blkW_enough hw f f' _ _ (by omega) (by omega)
  ·rfl
theorem passes_enough {lt : Int -> Int -> Bool} {n : Nat} : (f f' w : Nat) -> (l : List Int) -> 0 < w -> n <= f + w -> n <= f' + w -> passes lt n f w l = passes lt n f' w l
 | 0, 0, _, _, _, _, _ => rfl
 | 0, f' + 1, w, l, hw, h, _ => by simp only [passes]; rw [if_neg (by omega)]
 | f + 1, 0, w, l, hw, _, h => by simp only [passes]; rw [if_neg (by omega)]
 | f + 1, f' + 1, w, l, hw, h, h' => by
  simp only [passes]
  split
  ·exact passes_enough f f' _ _ (by omega) (by omega) (by omega)
  ·rfl
abbrev big : Nat := 4611686018427387903
noncomputable def CI3 : Cx := cxK [] [] (orK (mtK (cx [] []).Γ 159 mInsert) (mtK (cx [] []).Γ 160 (mSym big)))
theorem CI3_ok : CxOK Tryz.prog CI3 := cxK_ok mixed trivial trivial (orK_ok (mtK_ok CI0_ok.ct insert_ok) (mtK_ok CI0_ok.ct (sym_ok big)))
abbrev pt_blk : Pt := ⟨63, 0, ⟨[(1, .d i64), (2, cmpT), (6, .d i64), (7, .d i64), (8, .d i64)], [.al 10000 0, .o 0 3 i64]⟩, ⟨[(1, .d i64), (2, cmpT), (6, .d i64), (7, .d i64)], [.al 10000 0, .o 0 3 i64]⟩, ⟨[], []⟩⟩
noncomputable def fr_blk (x : pt_blk.M.X) : Fr pt_blk.Out :=
 let n := x.1.1; let g := x.1.2.1; let bs := x.1.2.2.1; let a := x.1.2.2.2.1; let b := x.1.2.2.2.2.1; let l := x.2.1
 Fr.br (decide (b <= n))
  (Fr.need (0 <= a)
   (Fr.need (a <= b)
    (Fr.need (b <= (l.length : Int))
     (Fr.need ((l.length : Int) <= 4611686018427387903)
      (Fr.need (OrdOf (g.1, g.2) l)
       (Fr.val (Rd.next ((n, (g.1, g.2), bs, b, IntKind.i64.wrap (b + bs), ()), ((mInsert.f l (a, b, (g.1, g.2), ())).1, ())))))))))
  (Fr.val (Rd.out ((n, (g.1, g.2), bs, a, ()), (l, ()))))
theorem sem_blk : Does Tryz.prog (loopF Tryz.f144 0) pt_blk.M pt_blk fr_blk :=
 Does.of_run CI3_ok (bs := 0) (Λ := lam0) rfl rfl rfl (fun E => lam0_ok _ 0) (fun x => by kernel_rfl)
structure InvBlk (n bs a b : Int) (g : cmpT.den) (l : List Int) : Prop where
 nl : n = l.length
 big : n <= 4611686018427387903
 bs0 : bs = 20
 a0 : 0 <= a
 an : a <= n
 ab : b = a + 20
 ord : OrdOf g l
def blkI (n a : Int) (g : cmpT.den) (l : List Int) : Nat × List Int := blkW (ltOf g) 20 n.toNat (n.toNat + 1) a.toNat l
def FBlk (x : pt_blk.M.X) : Fr pt_blk.Out :=
 let n := x.1.1; let g := x.1.2.1; let bs := x.1.2.2.1; let a := x.1.2.2.2.1; let b := x.1.2.2.2.2.1; let l := x.2.1
 Fr.need (InvBlk n bs a b g l) (Fr.val (Rd.out ((n, g, bs, ((blkI n a g l).1 : Nat), ()), ((blkI n a g l).2, ()))))
theorem partB_mem {lt : Int -> Int -> Bool} {a b : Nat} {l : List Int} {x : Int} (h : x ∈ partB lt a b l) : x ∈ l := by
 unfold partB at h
 rcases List.mem_append.1 h with h | h
 ·exact List.mem_of_mem_take h
 ·rcases List.mem_append.1 h with h | h
  ·exact List.mem_of_mem_take (List.mem_of_mem_drop (sortB_mem.1 h))
  ·exact List.mem_of_mem_drop h
theorem lawBlk (n bs a b : Int) (g : cmpT.den) (l : List Int) (hinv : InvBlk n bs a b g l) (Q : pt_blk.Out -> Prop)
  (hq : Q (Rd.out ((n, g, bs, ((blkI n a g l).1 : Nat), ()), ((blkI n a g l).2, ())))) : (fr_blk ((n, g, bs, a, b, ()), (l, ()))).satP fun
   | .next x' => InvBlk x'.1.1 x'.1.2.2.1 x'.1.2.2.2.1 x'.1.2.2.2.2.1 x'.1.2.1 x'.2.1 /\ (x'.1.1 - x'.1.2.2.2.1).toNat < (n - a).toNat /\ (FBlk x').satP Q
   | .out y => Q (.out y)
   | .back z => Q (.back z)
   | .pan p => Q (.pan p) := by
 obtain ⟨h0, h1, h2, h3, h4, h5, h6⟩ := hinv
 subst h2 h5
 dsimp only [fr_blk, Fr.satP, Ty.den, PT.den, mInsert]
 refine ⟨fun hi => ?_, fun hi => ?_⟩
 ·have hle : a + 20 <= n := of_decide_eq_true hi
  have w : IntKind.i64.wrap (a + 20 + 20) = a + 20 + 20 := IntWalk.i64_in _ (by omega)
  rw [w]
  have hlen : (partB (ltOf g) a.toNat (a + 20).toNat l).length = l.length := partB_length (by omega) (by omega)
  have hI : InvBlk n 20 (a + 20) (a + 20 + 20) g (partB (ltOf g) a.toNat (a + 20).toNat l) := ⟨by rw [hlen]; exact h0, h1, rfl, by omega, hle, rfl, h6.sub fun x hx => partB_mem hx⟩
  refine ⟨h3, by omega, by omega, by omega, h6, hI, by omega, hI, ?_⟩
  have e : blkI n a g l = blkI n (a + 20) g (partB (ltOf g) a.toNat (a + 20).toNat l) := by
   unfold blkI
   rw [show n.toNat + 1 = n.toNat + 1 from rfl]
   conv => lhs; unfold blkW
   rw [if_pos (by omega), show a.toNat + 20 = (a + 20).toNat by omega]
   exact blkW_enough (by omega) _ _ _ _ (by omega) (by omega)
  rw [e] at hq
  exact hq
 ·have hgt : ¬ a + 20 <= n := of_decide_eq_false hi
  have e : blkI n a g l = (a.toNat, l) := by
   unfold blkI blkW
   rw [if_neg (by omega)]
  rw [e] at hq
  have e2 : ((a.toNat : Nat) : Int) = a := by omega
  simp only [e2] at hq
  exact hq
theorem loopBlk : Does Tryz.prog (.loop (loopF Tryz.f144 0)) pt_blk.M pt_blk FBlk := by
 refine Does.loop (n := 63) (id := 0) sem_blk (inv := fun x => InvBlk x.1.1 x.1.2.2.1 x.1.2.2.2.1 x.1.2.2.2.2.1 x.1.2.1 x.2.1) (μ := fun x => (x.1.1 - x.1.2.2.2.1).toNat) ?_ (fun x Q h => h.1)
 rintro ⟨⟨n, g, bs, a, b, _⟩, ⟨l, _⟩⟩ hinv Q hq
 exact lawBlk n bs a b g l hinv Q hq.2
abbrev pt_pas : Pt := ⟨63, 4, ⟨[(1, .d i64), (2, cmpT), (6, .d i64), (7, .d i64), (8, .d i64)], [.al 10000 0, .o 0 3 i64]⟩, ⟨[(1, .d i64), (2, cmpT), (6, .d i64), (7, .d i64)], [.al 10000 0, .o 0 3 i64]⟩, ⟨[], []⟩⟩
noncomputable def pasCode : Code := ((Go.Ab.loopB (loopF Tryz.f144 1) 0).getD .skip)
noncomputable def fr_pas (x : pt_pas.M.X) : Fr pt_pas.Out :=
 let n := x.1.1; let g := x.1.2.1; let bs := x.1.2.2.1; let a := x.1.2.2.2.1; let b := x.1.2.2.2.2.1; let l := x.2.1
 Fr.br (decide (b <= n))
  (Fr.need (SymOk big a (IntKind.i64.wrap (a + bs)) b (g.1, g.2) l)
   (Fr.val (Rd.next ((n, (g.1, g.2), bs, b, IntKind.i64.wrap (b + IntKind.i64.wrap (2 * bs)), ()), (((mSym big).f l (a, IntKind.i64.wrap (a + bs), b, (g.1, g.2), ())).1, ())))))
  (Fr.val (Rd.out ((n, (g.1, g.2), bs, a, ()), (l, ()))))
theorem sem_pas : Does Tryz.prog pasCode pt_pas.M pt_pas fr_pas :=
 Does.of_run CI3_ok (bs := 0) (Λ := lam0) rfl rfl rfl (fun E => lam0_ok _ 0) (fun x => by kernel_rfl)
structure InvPas (n bs a b : Int) (g : cmpT.den) (l : List Int) : Prop where
 nl : n = l.length
 big : n <= 4611686018427387903
 bs0 : 0 < bs
 bsn : bs < n
 a0 : 0 <= a
 an : a <= n
 ab : b = a + 2 * bs
 mul : ∃ c : Nat, a.toNat = c * (2 * bs.toNat)
 dom : DomOf g l
 key : ∃ key : Int -> Int, LtK (ltOf g) key l /\ ∀ k : Nat, a.toNat <= k * bs.toNat -> SortK key (seg (k * bs.toNat) (k * bs.toNat + bs.toNat) l)
def pasI (n bs a : Int) (g : cmpT.den) (l : List Int) : Nat × List Int := blkW (ltOf g) (2 * bs.toNat) n.toNat (n.toNat + 1) a.toNat l
def FPas (x : pt_pas.M.X) : Fr pt_pas.Out :=
 let n := x.1.1; let g := x.1.2.1; let bs := x.1.2.2.1; let a := x.1.2.2.2.1; let b := x.1.2.2.2.2.1; let l := x.2.1
 Fr.need (InvPas n bs a b g l) (Fr.val (Rd.out ((n, g, bs, ((pasI n bs a g l).1 : Nat), ()), ((pasI n bs a g l).2, ()))))
theorem lawPas (n bs a b : Int) (g : cmpT.den) (l : List Int) (hinv : InvPas n bs a b g l) (Q : pt_pas.Out -> Prop)
  (hq : Q (Rd.out ((n, g, bs, ((pasI n bs a g l).1 : Nat), ()), ((pasI n bs a g l).2, ())))) : (fr_pas ((n, g, bs, a, b, ()), (l, ()))).satP fun
   | .next x' => InvPas x'.1.1 x'.1.2.2.1 x'.1.2.2.2.1 x'.1.2.2.2.2.1 x'.1.2.1 x'.2.1 /\ (x'.1.1 - x'.1.2.2.2.1).toNat < (n - a).toNat /\ (FPas x').satP Q
   | .out y => Q (.out y)
   | .back z => Q (.back z)
   | .pan p => Q (.pan p) := by
 obtain ⟨h0, h1, h2, h3, h4, h5, h6, ⟨c, h7⟩, h8, key, h9, h10⟩ := hinv
 subst h6
 dsimp only [fr_pas, Fr.satP, Ty.den, PT.den, mSym]
 have w1 : IntKind.i64.wrap (a + bs) = a + bs := IntWalk.i64_in _ (by omega)
 have w2 : IntKind.i64.wrap (2 * bs) = 2 * bs := IntWalk.i64_in _ (by omega)
 rw [w1, w2]
 refine ⟨fun hi => ?_, fun hi => ?_⟩
 ·have hle : a + 2 * bs <= n := of_decide_eq_true hi
  have hle' : a.toNat + 2 * bs.toNat <= l.length := by omega
  have hseg1 : SortK key (seg a.toNat (a + bs).toNat l) := by
   have := h10 (2 * c) (by rw [h7, ← Nat.mul_assoc, Nat.mul_comm c 2]; exact Nat.le_refl _)
   rwa [show 2 * c * bs.toNat = a.toNat by rw [h7, ← Nat.mul_assoc, Nat.mul_comm c 2], show a.toNat + bs.toNat = (a + bs).toNat by omega] at this
  have hseg2 : SortK key (seg (a + bs).toNat (a + 2 * bs).toNat l) := by
   have e : (2 * c + 1) * bs.toNat = (a + bs).toNat := by
    rw [Nat.succ_mul, show 2 * c * bs.toNat = a.toNat by rw [h7, ← Nat.mul_assoc, Nat.mul_comm c 2]]
    omega
   have := h10 (2 * c + 1) (by omega)
   rwa [e, show (a + bs).toNat + bs.toNat = (a + 2 * bs).toNat by omega] at this
  have hlen : (partB (ltOf g) a.toNat (a + 2 * bs).toNat l).length = l.length := partB_length (by omega) (by omega)
  by_cases hbig : a + 2 * bs + 2 * bs <= 9223372036854775807
  ·have w3 : IntKind.i64.wrap (a + 2 * bs + 2 * bs) = a + 2 * bs + 2 * bs := IntWalk.i64_in _ (by omega)
   rw [w3]
   have hI : InvPas n bs (a + 2 * bs) (a + 2 * bs + 2 * bs) g (partB (ltOf g) a.toNat (a + 2 * bs).toNat l) := ⟨by rw [hlen]; exact h0, h1, h2, h3, by omega, hle, rfl, ⟨c + 1, by rw [Nat.succ_mul, ← h7]; omega⟩, h8.sub fun x hx => partB_mem hx, key, h9.sub fun x hx => partB_mem hx, fun k hk => by
    rw [seg_of_drop (c := (a + 2 * bs).toNat) (drop_partB (by omega) (by omega) (Nat.le_refl _)) hk]
    exact h10 k (by omega)⟩
   refine ⟨⟨h4, by omega, by omega, by omega, by omega, by simp only [big]; omega, h8, key, h9, hseg1, hseg2⟩, hI, by omega, hI, ?_⟩
   have e : pasI n bs a g l = pasI n bs (a + 2 * bs) g (partB (ltOf g) a.toNat (a + 2 * bs).toNat l) := by
    unfold pasI
    conv => lhs; unfold blkW
    rw [if_pos (by omega), show a.toNat + 2 * bs.toNat = (a + 2 * bs).toNat by omega]
    exact blkW_enough (by omega) _ _ _ _ (by omega) (by omega)
   rw [e] at hq
   exact hq
  ·exfalso
   omega
 ·have hgt : ¬ a + 2 * bs <= n := of_decide_eq_false hi
  have e : pasI n bs a g l = (a.toNat, l) := by
   unfold pasI blkW
   rw [if_neg (by omega)]
  rw [e] at hq
  have e2 : ((a.toNat : Nat) : Int) = a := by omega
  simp only [e2] at hq
  exact hq
theorem loopPas : Does Tryz.prog (.loop pasCode) pt_pas.M pt_pas FPas := by
 refine Does.loop (n := 63) (id := 4) sem_pas (inv := fun x => InvPas x.1.1 x.1.2.2.1 x.1.2.2.2.1 x.1.2.2.2.2.1 x.1.2.1 x.2.1) (μ := fun x => (x.1.1 - x.1.2.2.2.1).toNat) ?_ (fun x Q h => h.1)
 rintro ⟨⟨n, g, bs, a, b, _⟩, ⟨l, _⟩⟩ hinv Q hq
 exact lawPas n bs a b g l hinv Q hq.2
noncomputable def ΛPas : Nat -> St -> Option Tr := fun _ => pt_pas.han CI3.Γ pt_pas.M FPas
abbrev pt_all : Pt := ⟨63, 2, ⟨[(1, .d i64), (2, cmpT), (6, .d i64)], [.al 10000 0, .o 0 3 i64]⟩, ⟨[], [.al 10000 0, .o 0 3 i64]⟩, ⟨[], []⟩⟩
noncomputable def fr_all (x : pt_all.M.X) : Fr pt_all.Out :=
 let n := x.1.1; let g := x.1.2.1; let bs := x.1.2.2.1; let l := x.2.1
 let r := pasI n bs 0 (g.1, g.2) l
 Fr.br (decide (bs < n))
  (Fr.need (InvPas n bs 0 (IntKind.i64.wrap (2 * bs)) (g.1, g.2) l)
   (Fr.br (decide (IntKind.i64.wrap ((r.1 : Int) + bs) < n))
    (Fr.need (SymOk big r.1 (IntKind.i64.wrap ((r.1 : Int) + bs)) n (g.1, g.2) r.2)
     (Fr.val (Rd.next ((n, (g.1, g.2), IntKind.i64.wrap (bs * 2), ()), (((mSym big).f r.2 ((r.1 : Int), IntKind.i64.wrap ((r.1 : Int) + bs), n, (g.1, g.2), ())).1, ())))))
    (Fr.val (Rd.next ((n, (g.1, g.2), IntKind.i64.wrap (bs * 2), ()), (r.2, ()))))))
  (Fr.val (Rd.out ((), (l, ()))))
theorem lam_pas {E : Env} : LamOK Tryz.prog E ΛPas (loopF Tryz.f144 1) 0 :=
 lam1 (b := pasCode) (by kernel_rfl) (by kernel_rfl) (Does.han CI3_ok rfl loopPas)
theorem sem_all : Does Tryz.prog (loopF Tryz.f144 1) pt_all.M pt_all fr_all :=
 Does.of_run CI3_ok (bs := 0) (Λ := ΛPas) rfl rfl rfl (fun E => lam_pas) (fun x => by kernel_rfl)
structure InvAll (n bs : Int) (g : cmpT.den) (l : List Int) : Prop where
 nl : n = l.length
 big : n <= 4611686018427387903
 bs0 : 0 < bs
 dom : DomOf g l
 key : ∃ key : Int -> Int, LtK (ltOf g) key l /\ BlkS key bs.toNat l
def FAll (x : pt_all.M.X) : Fr pt_all.Out :=
 let n := x.1.1; let g := x.1.2.1; let bs := x.1.2.2.1; let l := x.2.1
 Fr.need (InvAll n bs g l) (Fr.val (Rd.out ((), (passes (ltOf g) n.toNat n.toNat bs.toNat l, ()))))
theorem lawAll (n bs : Int) (g : cmpT.den) (l : List Int) (hinv : InvAll n bs g l) (Q : pt_all.Out -> Prop)
  (hq : Q (Rd.out ((), (passes (ltOf g) n.toNat n.toNat bs.toNat l, ())))) : (fr_all ((n, g, bs, ()), (l, ()))).satP fun
   | .next x' => InvAll x'.1.1 x'.1.2.2.1 x'.1.2.1 x'.2.1 /\ (x'.1.1 - x'.1.2.2.1).toNat < (n - bs).toNat /\ (FAll x').satP Q
   | .out y => Q (.out y)
   | .back z => Q (.back z)
   | .pan p => Q (.pan p) := by
 obtain ⟨h0, h1, h2, h3, key, h4, h5⟩ := hinv
 dsimp only [fr_all, Fr.satP, Ty.den, PT.den, mSym]
 refine ⟨fun hi => ?_, fun hi => ?_⟩
 ·have hlt : bs < n := of_decide_eq_true hi
  have w1 : IntKind.i64.wrap (2 * bs) = 2 * bs := IntWalk.i64_in _ (by omega)
  have w2 : IntKind.i64.wrap (bs * 2) = bs * 2 := IntWalk.i64_in _ (by omega)
  have hr := blkW_spec (key := key) (lt := ltOf g) (w := 2 * bs.toNat) (n := n.toNat) (by omega) (n.toNat + 1) 0 l (by omega) (by omega) (by omega) ⟨0, by simp⟩ h4 (fun k hk => by omega)
  obtain ⟨p1, p2, p3⟩ := passB_spec (lt := ltOf g) (w := bs.toNat) (n := n.toNat) (l := l) (key := key) (by omega) (by omega) h4 h5
  have hpas : passB (ltOf g) bs.toNat n.toNat l = if (pasI n bs 0 g l).1 + bs.toNat < n.toNat then partB (ltOf g) (pasI n bs 0 g l).1 n.toNat (pasI n bs 0 g l).2 else (pasI n bs 0 g l).2 := rfl
  have hstep : passes (ltOf g) n.toNat n.toNat bs.toNat l = passes (ltOf g) n.toNat n.toNat (bs * 2).toNat (passB (ltOf g) bs.toNat n.toNat l) := by
   obtain ⟨f, hf⟩ : ∃ f, n.toNat = f + 1 := ⟨n.toNat - 1, by omega⟩
   conv => lhs; rw [show passes (ltOf g) n.toNat n.toNat bs.toNat l = passes (ltOf g) n.toNat (f + 1) bs.toNat l by rw [← hf]]
   simp only [passes]
   rw [if_pos (by omega), show (bs * 2).toNat = 2 * bs.toNat by omega]
   exact passes_enough _ _ _ _ (by omega) (by omega) (by omega)
  have hI : InvAll n (bs * 2) g (passB (ltOf g) bs.toNat n.toNat l) := ⟨by omega, h1, by omega, h3.sub fun x hx => p2.mem.1 hx, key, h4.sub fun x hx => p2.mem.1 hx, by rw [show (bs * 2).toNat = 2 * bs.toNat by omega]; exact p1⟩
  have hfin : InvAll n (bs * 2) g (passB (ltOf g) bs.toNat n.toNat l) /\ (n - bs * 2).toNat < (n - bs).toNat /\ InvAll n (bs * 2) g (passB (ltOf g) bs.toNat n.toNat l) /\ Q (Rd.out ((), (passes (ltOf g) n.toNat n.toNat (bs * 2).toNat (passB (ltOf g) bs.toNat n.toNat l), ()))) := ⟨hI, by omega, hI, by rw [← hstep]; exact hq⟩
  rw [w1, w2]
  have hb : (blkW (ltOf g) (2 * bs.toNat) n.toNat (n.toNat + 1) 0 l) = pasI n bs 0 g l := rfl
  rw [hb] at hr
  refine ⟨⟨h0, h1, h2, hlt, Int.le_refl _, by omega, by omega, ⟨0, by simp⟩, h3, key, h4, fun k _ => h5 k⟩, ?_⟩
  have e : (g.1, g.2) = g := rfl
  simp only [e]
  generalize pasI n bs 0 g l = r at hr hpas ⊢
  obtain ⟨⟨c, hc⟩, q2, q3, q4, q5, q6, q7⟩ := hr
  have w3 : IntKind.i64.wrap ((r.1 : Int) + bs) = r.1 + bs := IntWalk.i64_in _ (by omega)
  rw [w3]
  refine ⟨fun hj => ?_, fun hj => ?_⟩
  ·have hj' : (r.1 : Int) + bs < n := of_decide_eq_true hj
   rw [if_pos (by omega)] at hpas
   have hd : r.2.drop r.1 = l.drop r.1 := q6
   have hm1 : 2 * c * bs.toNat = r.1 := by rw [hc, ← Nat.mul_assoc, Nat.mul_comm c 2]
   have hm2 : (2 * c + 1) * bs.toNat = r.1 + bs.toNat := by rw [Nat.succ_mul, hm1]
   have s1 : SortK key (seg r.1 (r.1 + bs.toNat) r.2) := by
    rw [seg_of_drop hd (Nat.le_refl _), ← hm1]
    exact h5 (2 * c)
   have s2 : SortK key (seg (r.1 + bs.toNat) n.toNat r.2) := by
    have : seg (r.1 + bs.toNat) n.toNat r.2 = seg (r.1 + bs.toNat) (r.1 + bs.toNat + bs.toNat) r.2 := by
     unfold seg
     rw [List.take_of_length_le (by omega), List.take_of_length_le (by omega)]
    rw [this, seg_of_drop hd (by omega), ← hm2]
    exact h5 (2 * c + 1)
   refine ⟨⟨by omega, by omega, by omega, by omega, by omega, by simp only [big]; omega, h3.sub fun x hx => q5.mem.1 hx, key, h4.sub fun x hx => q5.mem.1 hx, ?_, ?_⟩, ?_⟩
   ·rw [show ((r.1 : Int) + bs).toNat = r.1 + bs.toNat by omega]
    exact s1
   ·rw [show ((r.1 : Int) + bs).toNat = r.1 + bs.toNat by omega]
    exact s2
   ·rw [hpas] at hfin
    exact hfin
  ·have hj' : ¬ (r.1 : Int) + bs < n := of_decide_eq_false hj
   rw [if_neg (by omega)] at hpas
   rw [hpas] at hfin
   exact hfin
 ·have hge : ¬ bs < n := of_decide_eq_false hi
  have : passes (ltOf g) n.toNat n.toNat bs.toNat l = l := by
   rw [passes_enough _ 0 _ _ (by omega) (by omega) (by omega)]
   rfl
  rw [this] at hq
  exact hq
theorem loopAll : Does Tryz.prog (.loop (loopF Tryz.f144 1)) pt_all.M pt_all FAll := by
 refine Does.loop (n := 63) (id := 2) sem_all (inv := fun x => InvAll x.1.1 x.1.2.2.1 x.1.2.1 x.2.1) (μ := fun x => (x.1.1 - x.1.2.2.1).toNat) ?_ (fun x Q h => h.1)
 rintro ⟨⟨n, g, bs, _⟩, ⟨l, _⟩⟩ hinv Q hq
 exact lawAll n bs g l hinv Q hq.2
noncomputable def ΛStab : Nat -> St -> Option Tr
 | 0 => pt_blk.han CI3.Γ pt_blk.M FBlk
 | _ => pt_all.han CI3.Γ pt_all.M FAll
noncomputable def mStab : Mt := ⟨3, i64, [.d i64, cmpT], [], fun l x => (sortB (ltOf x.2.1) l, ()), fun l x => [x.1 = l.length, (l.length : Int) <= 4611686018427387903, OrdOf x.2.1 l]⟩
noncomputable def fr_stab (l : List Int) (x : denP [.d i64, cmpT]) : Fr (List Int × denL []) :=
 let n := x.1; let g := x.2.1
 let r := blkI n 0 (g.1, g.2) l
 Fr.need (InvBlk n 20 0 20 (g.1, g.2) l)
 (Fr.need ((0 : Int) <= r.1)
  (Fr.need ((r.1 : Int) <= n)
   (Fr.need (n <= (r.2.length : Int))
    (Fr.need ((r.2.length : Int) <= 4611686018427387903)
     (Fr.need (OrdOf (g.1, g.2) r.2)
      (Fr.need (InvAll n 20 (g.1, g.2) (mInsert.f r.2 ((r.1 : Int), n, (g.1, g.2), ())).1)
       (Fr.val (passes (ltOf (g.1, g.2)) n.toNat n.toNat (20 : Int).toNat (mInsert.f r.2 ((r.1 : Int), n, (g.1, g.2), ())).1, ()))))))))
theorem stab_ok : SoundMt Tryz.prog 144 mStab :=
 convMt (mt_sound CI3_ok (Λ := ΛStab) (fn := Tryz.f144) (fr := fr_stab) (e := 3) (T := i64) (ps := [.d i64, cmpT]) (rs := []) (0, (fun _ => (0, ()), fun _ => True), ()) (by kernel_rfl) rfl rfl
  (fun c E hc => lam2f hc (by kernel_rfl) (b0 := loopF Tryz.f144 0) (b1 := loopF Tryz.f144 1) (by kernel_rfl) (by kernel_rfl) (Does.han CI3_ok rfl loopBlk) (Does.han CI3_ok rfl loopAll)) (fun l x => by kernel_rfl)) _ _ fun w F l xs vs _ _ _ hok => by
  obtain ⟨n, g, rfl⟩ : ∃ (n : Int) (g : cmpT.den), xs = (n, g, ()) := ⟨xs.1, xs.2.1, rfl⟩
  have hok' : (n : Int) = (List.length (α := Int) l : Int) /\ (List.length (α := Int) l : Int) <= 4611686018427387903 /\ OrdOf g l := hok
  obtain ⟨h1, h2, h3, key, h4⟩ := hok'
  subst h1
  have hr := blkW_spec (key := key) (lt := ltOf g) (w := 20) (n := List.length (α := Int) l) (by omega) (List.length (α := Int) l + 1) 0 l (by omega) (by omega) rfl ⟨0, by simp⟩ h4 (fun k hk => by omega)
  have hS := stableB_eq h4
  unfold stableB at hS
  have hb : blkI (List.length (α := Int) l : Int) 0 g l = blkW (ltOf g) 20 (List.length (α := Int) l) (List.length (α := Int) l + 1) 0 l := rfl
  dsimp only [fr_stab, Fr.ok, Fr.get, Ty.den, PT.den, mInsert, mStab]
  have e : (g.1, g.2) = g := rfl
  simp only [e, hb]
  simp only at hS
  generalize blkW (ltOf g) 20 (List.length (α := Int) l) (List.length (α := Int) l + 1) 0 l = r at hr hS ⊢
  obtain ⟨p1, p2, p3⟩ := hr.last h4
  have q2 := hr.le
  have q4 := hr.len
  have hm : ∀ x ∈ r.2, x ∈ l := fun x hx => hr.same.mem.1 hx
  have hm2 : ∀ x ∈ partB (ltOf g) r.1 (List.length (α := Int) l) r.2, x ∈ l := fun x hx => p2.mem.1 hx
  refine ⟨⟨⟨rfl, h2, rfl, by omega, by omega, rfl, h3, key, h4⟩, by omega, by omega, by omega, by omega, ⟨h3.sub hm, key, h4.sub hm⟩, ⟨congrArg (fun n : Nat => (n : Int)) p3.symm, h2, by omega, h3.sub hm2, key, h4.sub hm2, p1⟩, trivial⟩, ?_⟩
  show (passes (ltOf g) (List.length (α := Int) l) (List.length (α := Int) l) 20 (partB (ltOf g) r.1 (List.length (α := Int) l) r.2), ()) = (sortB (ltOf g) l, ())
  rw [hS]
noncomputable def CI4 : Cx := cxK [] [] (mtK (cx [] []).Γ 144 mStab)
theorem CI4_ok : CxOK Tryz.prog CI4 := cxK_ok mixed trivial trivial (mtK_ok CI0_ok.ct stab_ok)
noncomputable def mSort : Mt := ⟨3, i64, [cmpT], [], fun l x => (sortB (ltOf x.1) l, ()), fun l x => [(l.length : Int) <= 4611686018427387903, OrdOf x.1 l]⟩
noncomputable def fr_sort (l : List Int) (x : denP [cmpT]) : Fr (List Int × denL []) :=
 Fr.need ((l.length : Int) = l.length) (Fr.need ((l.length : Int) <= 4611686018427387903) (Fr.need (OrdOf (x.1.1, x.1.2) l) (Fr.val ((mStab.f l ((l.length : Int), (x.1.1, x.1.2), ())).1, ()))))
theorem sort_ok : SoundMt Tryz.prog 106 mSort :=
 convMt (mt_sound CI4_ok (Λ := lam0) (fn := Tryz.f106) (fr := fr_sort) (e := 3) (T := i64) (ps := [cmpT]) (rs := []) ((fun _ => (0, ()), fun _ => True), ()) (by kernel_rfl) rfl rfl
  (fun c E _ => lam0_ok c 0) (fun l x => by kernel_rfl)) _ _ fun w F l xs vs _ _ _ hok => by
  obtain ⟨g, rfl⟩ : ∃ g : cmpT.den, xs = (g, ()) := ⟨xs.1, rfl⟩
  exact ⟨⟨rfl, hok.1, hok.2, trivial⟩, rfl⟩
def dayOf (h : histT.den) (i : Int) : Int := (h.2.2.2.1.getD i.toNat changeT.dflt).2.1
abbrev chL (h : histT.den) : List changeT.den := h.2.2.2.1
noncomputable def CO1 : Cx := cx [(108, cCmp)] []
theorem CO1_ok : CxOK Tryz.prog CO1 := cx_ok mixed ⟨cmp_ok, trivial⟩ trivial
def fr_ord1 (x : denP [.d i64, .d i64, .ptr histT]) : Fr (denL [i64]) :=
 Fr.need (0 <= x.1 /\ x.1 < ((chL x.2.2.1).length : Int)) (Fr.need (0 <= x.2.1 /\ x.2.1 < ((chL x.2.2.1).length : Int)) (Fr.val ((cCmp.f (dayOf x.2.2.1 x.1, dayOf x.2.2.1 x.2.1, ())).1, ())))
def cOrd1 : Ct := ⟨[.d i64, .d i64, .ptr histT], [i64], fun x => (cmpZ (dayOf x.2.2.1 x.1) (dayOf x.2.2.1 x.2.1), ()), fun x => [0 <= x.1 /\ x.1 < ((chL x.2.2.1).length : Int), 0 <= x.2.1 /\ x.2.1 < ((chL x.2.2.1).length : Int)]⟩
theorem ord1_ok : SoundCt Tryz.prog 107 cOrd1 :=
 conv (fn_sound CO1_ok (Λ := lam0) (fn := Tryz.f107) (fr := fr_ord1) (dfP [.d i64, .d i64, .ptr histT]) (by kernel_rfl) (fun c E _ => lam0_ok c 0) (fun x => by kernel_rfl)) _ _ fun _ _ x _ _ hok =>
  ⟨⟨hok.1, hok.2, trivial⟩, rfl⟩
def rangeI (n : Nat) : List Int := (List.range n).map fun i : Nat => (i : Int)
theorem rangeI_succ (n : Nat) : rangeI (n + 1) = rangeI n ++ [(n : Int)] := by simp [rangeI, List.range_succ]
theorem rangeI_length (n : Nat) : (rangeI n).length = n := by simp [rangeI]
theorem rangeI_mem {n : Nat} {x : Int} (h : x ∈ rangeI n) : 0 <= x /\ x < n := by
 simp only [rangeI, List.mem_map, List.mem_range] at h
 obtain ⟨i, hi, rfl⟩ := h
 omega
noncomputable def CO2 : Cx := cxK [(107, cOrd1)] [] (mtK (cx [(107, cOrd1)] []).Γ 106 mSort)
theorem CO2_ct : CxOK Tryz.prog (cx [(107, cOrd1)] []) := cx_ok mixed ⟨ord1_ok, trivial⟩ trivial
theorem CO2_ok : CxOK Tryz.prog CO2 := cxK_ok mixed ⟨ord1_ok, trivial⟩ trivial (mtK_ok CO2_ct.ct sort_ok)
abbrev pt_ord : Pt := ⟨20, 0, ⟨[(7, .d i64), (8, .d i64)], [.x 1 31 histT, .r 1 1 0, .o 3 3 i64]⟩, ⟨[], [.x 1 31 histT, .r 1 1 0, .o 3 3 i64]⟩, ⟨[], []⟩⟩
set_option maxRecDepth 100000 in
def fr_ordL (x : pt_ord.M.X) : Fr pt_ord.Out :=
 let n := x.1.1; let k := x.1.2.1; let h := x.2.1; let l := x.2.2.1
 Fr.br (decide (k < n))
  (Fr.need (l.length + [k].length <= maxLen /\ (l.length + [k].length) * Tryz.prog.types[3].bytes <= 140737488355328) (Fr.val (Rd.next ((n, IntKind.i64.wrap (k + 1), ()), (h, l ++ [k], ())))))
  (Fr.val (Rd.out ((), (h, l, ()))))
theorem sem_ord : Does Tryz.prog (loopF Tryz.f74 0) pt_ord.M pt_ord fr_ordL :=
 Does.of_run CO2_ok (bs := 0) (Λ := lam0) rfl rfl rfl (fun E => lam0_ok _ 0) (fun x => by kernel_rfl)
set_option maxRecDepth 100000 in
theorem intBytes : Tryz.prog.types[3].bytes = 8 := by kernel_rfl
structure InvOrd (n k : Int) (l : List Int) : Prop where
 k0 : 0 <= k
 kn : k <= n
 big : n <= 1000000
 ll : l = rangeI k.toNat
def FOrd (x : pt_ord.M.X) : Fr pt_ord.Out :=
 Fr.need (InvOrd x.1.1 x.1.2.1 x.2.2.1) (Fr.val (Rd.out ((), (x.2.1, rangeI x.1.1.toNat, ()))))
theorem lawOrd (n k : Int) (h : histT.den) (l : List Int) (hinv : InvOrd n k l) (Q : pt_ord.Out -> Prop) (hq : Q (Rd.out ((), (h, rangeI n.toNat, ())))) : (fr_ordL ((n, k, ()), (h, l, ()))).satP fun
   | .next x' => InvOrd x'.1.1 x'.1.2.1 x'.2.2.1 /\ (x'.1.1 - x'.1.2.1).toNat < (n - k).toNat /\ (FOrd x').satP Q
   | .out y => Q (.out y)
   | .back z => Q (.back z)
   | .pan p => Q (.pan p) := by
 obtain ⟨h0, h1, h2, h3⟩ := hinv
 subst h3
 dsimp only [fr_ordL, Fr.satP, Ty.den, PT.den]
 rw [intBytes]
 refine ⟨fun hi => ?_, fun hi => ?_⟩
 ·have hlt : k < n := of_decide_eq_true hi
  have w : IntKind.i64.wrap (k + 1) = k + 1 := IntWalk.i64_in _ (by omega)
  rw [w]
  have hI : InvOrd n (k + 1) (rangeI k.toNat ++ [k]) := ⟨by omega, by omega, h2, by rw [show (k + 1).toNat = k.toNat + 1 by omega, rangeI_succ, show ((k.toNat : Nat) : Int) = k by omega]⟩
  refine ⟨?_, hI, by omega, hI, hq⟩
  simp only [rangeI_length, List.length_cons, List.length_nil, maxLen]
  omega
 ·have hge : ¬ k < n := of_decide_eq_false hi
  rw [show n = k by omega] at hq
  exact hq
theorem loopOrd : Does Tryz.prog (.loop (loopF Tryz.f74 0)) pt_ord.M pt_ord FOrd := by
 refine Does.loop (n := 20) (id := 0) sem_ord (inv := fun x => InvOrd x.1.1 x.1.2.1 x.2.2.1) (μ := fun x => (x.1.1 - x.1.2.1).toNat) ?_ (fun x Q h => h.1)
 rintro ⟨⟨n, k, _⟩, ⟨h, l, _⟩⟩ hinv Q hq
 exact lawOrd n k h l hinv Q hq.2
noncomputable def ΛOrd : Nat -> St -> Option Tr := fun _ => pt_ord.han CO2.Γ pt_ord.M FOrd
def ordG (h : histT.den) : cmpT.den := (fun x => cOrd1.f (x.1, x.2.1, h, ()), fun x => conj (cOrd1.ok (x.1, x.2.1, h, ())))
noncomputable def fr_order (x : denP [.d histT]) : Fr (denL [.sl i64]) :=
 let n : Int := ((chL x.1).length : Int)
 Fr.need (InvOrd n 0 [])
 (Fr.need (((rangeI n.toNat).length : Int) <= 4611686018427387903)
  (Fr.need (OrdOf (ordG x.1) (rangeI n.toNat)) (Fr.val ((mSort.f (rangeI n.toNat) (ordG x.1, ())).1, ()))))
def ltDay (h : histT.den) (x y : Int) : Bool := decide (dayOf h x < dayOf h y)
def orderL (h : histT.den) : List Int := sortB (ltDay h) (rangeI (chL h).length)
theorem ltOf_ord (h : histT.den) : ltOf (ordG h) = ltDay h := by
 funext x y
 show decide (cmpZ (dayOf h x) (dayOf h y) < 0) = decide (dayOf h x < dayOf h y)
 rw [decide_eq_decide]
 unfold cmpZ
 split
 ·simp [*]
 ·split <;> simp <;> omega
def cOrder : Ct := ⟨[.d histT], [.sl i64], fun x => (orderL x.1, ()), fun x => [((chL x.1).length : Int) <= 1000000]⟩
theorem order_ok : SoundCt Tryz.prog 74 cOrder :=
 conv (fn_sound CO2_ok (Λ := ΛOrd) (fn := Tryz.f74) (fr := fr_order) (ps := [.d histT]) (rs := [.sl i64]) (dfP [.d histT]) (by kernel_rfl)
  (fun c E hc => lam1f hc (by kernel_rfl) (b := loopF Tryz.f74 0) (by kernel_rfl) (Does.han CO2_ok rfl loopOrd)) (fun x => by kernel_rfl)) _ _ fun _ _ x _ _ hok => by
  obtain ⟨h, rfl⟩ : ∃ h : histT.den, x = (h, ()) := ⟨x.1, rfl⟩
  have hok' : ((chL h).length : Int) <= 1000000 := hok
  have e : ((chL h).length : Int).toNat = (chL h).length := rfl
  dsimp only [fr_order, Fr.ok, Fr.get, mSort]
  rw [e, ltOf_ord, rangeI_length]
  refine ⟨⟨⟨Int.le_refl _, by omega, hok', rfl⟩, by omega, ⟨fun x hx y hy => ⟨rangeI_mem hx, rangeI_mem hy⟩, dayOf h, fun x _ y _ => by rw [ltOf_ord]; rfl⟩, trivial⟩, rfl⟩
section
variable {key : Int -> Int} {lt : Int -> Int -> Bool}
theorem sortB_left {x : Int} {a b : List Int} (hl : LtK lt key ((x :: a) ++ b)) (sa : SortK key (x :: a)) (sb : ∀ y ∈ b, key x <= key y) : sortB lt ((x :: a) ++ b) = x :: sortB lt (a ++ b) := by
 have hl2 : LtK lt key (a ++ b) := hl.sub fun z hz => by simp at hz ⊢; exact .inr hz
 obtain ⟨h1, h2⟩ := sortB_sort hl2
 symm
 refine eq_sortB hl (List.pairwise_cons.2 ⟨fun y hy => ?_, h1⟩) ?_
 ·rcases List.mem_append.1 (sortB_mem.1 hy) with h | h
  ·exact (List.pairwise_cons.1 sa).1 y h
  ·exact sb y h
 ·have := (SameK.refl (key := key) [x]).app h2
  simpa using this
theorem sortB_right {y : Int} {a b : List Int} (hl : LtK lt key (a ++ (y :: b))) (sb : SortK key (y :: b)) (sa : ∀ x ∈ a, key y < key x) : sortB lt (a ++ (y :: b)) = y :: sortB lt (a ++ b) := by
 have hl2 : LtK lt key (a ++ b) := hl.sub fun z hz => by simp at hz ⊢; rcases hz with h | h <;> simp [h]
 obtain ⟨h1, h2⟩ := sortB_sort hl2
 symm
 refine eq_sortB hl (List.pairwise_cons.2 ⟨fun z hz => ?_, h1⟩) ?_
 ·rcases List.mem_append.1 (sortB_mem.1 hz) with h | h
  ·exact Int.le_of_lt (sa z h)
  ·exact (List.pairwise_cons.1 sb).1 z h
 ·have e1 : SameK key ((a ++ [y]) ++ b) (([y] ++ a) ++ b) := (SameK.swap fun u hu v hv => by simp at hv; subst hv; have := sa u hu; omega).app (SameK.refl b)
  have e2 := (SameK.refl (key := key) [y]).app h2
  have e3 : SameK key (a ++ (y :: b)) ([y] ++ (a ++ b)) := by simpa using e1
  have := e3.trans e2
  simpa using this
theorem sortB_two {a b : List Int} (hl : LtK lt key (a ++ b)) : sortB lt (sortB lt a ++ sortB lt b) = sortB lt (a ++ b) := by
 have ha : LtK lt key a := hl.sub fun z hz => List.mem_append_left _ hz
 have hb : LtK lt key b := hl.sub fun z hz => List.mem_append_right _ hz
 have hs : LtK lt key (sortB lt a ++ sortB lt b) := hl.sub fun z hz => by
  rcases List.mem_append.1 hz with h | h
  ·exact List.mem_append_left _ (sortB_mem.1 h)
  ·exact List.mem_append_right _ (sortB_mem.1 h)
 obtain ⟨h1, h2⟩ := sortB_sort hs
 exact eq_sortB hl h1 (((sortB_sort ha).2.app (sortB_sort hb).2).trans h2)
end
theorem ltDay_ltK (h : histT.den) (l : List Int) : LtK (ltDay h) (dayOf h) l := fun _ _ _ _ => rfl
noncomputable def CM0 : Cx := cx [] []
theorem CM0_ok : CxOK Tryz.prog CM0 := cx_ok mixed trivial trivial
abbrev pt_mrg : Pt := ⟨70, 0, ⟨[(1, .d ints), (2, .d ints), (8, .d i64), (9, .d i64)], [.x 3 31 histT, .r 3 3 0, .o 7 3 i64]⟩, ⟨[], [.o 7 3 i64]⟩, ⟨[], []⟩⟩
set_option maxRecDepth 100000 in
def fr_mrg (x : pt_mrg.M.X) : Fr pt_mrg.Out :=
 let a : List Int := x.1.1; let b : List Int := x.1.2.1; let i : Int := x.1.2.2.1; let j : Int := x.1.2.2.2.1; let h : histT.den := x.2.1; let l : List Int := x.2.2.1
 Fr.br (bif decide (i < (a.length : Int)) then true else decide (j < (b.length : Int)))
  (Fr.need (decide (i < (a.length : Int)) = true -> (j == (b.length : Int)) = false -> 0 <= i /\ i < (a.length : Int))
   (Fr.need (decide (i < (a.length : Int)) = true -> (j == (b.length : Int)) = false -> 0 <= a.getD i.toNat i64.dflt /\ a.getD i.toNat i64.dflt < ((chL h).length : Int))
    (Fr.need (decide (i < (a.length : Int)) = true -> (j == (b.length : Int)) = false -> 0 <= j /\ j < (b.length : Int))
     (Fr.need (decide (i < (a.length : Int)) = true -> (j == (b.length : Int)) = false -> 0 <= b.getD j.toNat i64.dflt /\ b.getD j.toNat i64.dflt < ((chL h).length : Int))
      (Fr.br (bif j == (b.length : Int) then true else bif decide (i < (a.length : Int)) then decide (dayOf h (a.getD i.toNat i64.dflt) <= dayOf h (b.getD j.toNat i64.dflt)) else false)
       (Fr.need (0 <= i /\ i < (a.length : Int))
        (Fr.need (l.length + [a.getD i.toNat i64.dflt].length <= maxLen /\ (l.length + [a.getD i.toNat i64.dflt].length) * Tryz.prog.types[3].bytes <= 140737488355328)
         (Fr.val (Rd.next ((a, b, IntKind.i64.wrap (i + 1), j, ()), (h, l ++ [a.getD i.toNat i64.dflt], ()))))))
       (Fr.need (0 <= j /\ j < (b.length : Int))
        (Fr.need (l.length + [b.getD j.toNat i64.dflt].length <= maxLen /\ (l.length + [b.getD j.toNat i64.dflt].length) * Tryz.prog.types[3].bytes <= 140737488355328)
         (Fr.val (Rd.next ((a, b, i, IntKind.i64.wrap (j + 1), ()), (h, l ++ [b.getD j.toNat i64.dflt], ())))))))))))
  (Fr.val (Rd.out ((), (l, ()))))
theorem sem_mrg : Does Tryz.prog (loopF Tryz.f137 0) pt_mrg.M pt_mrg fr_mrg :=
 Does.of_run CM0_ok (bs := 0) (Λ := lam0) rfl rfl rfl (fun E => lam0_ok _ 0) (fun x => by kernel_rfl)
structure InvMrg (a b : List Int) (i j : Int) (h : histT.den) (l : List Int) : Prop where
 i0 : 0 <= i
 j0 : 0 <= j
 ia : i <= a.length
 jb : j <= b.length
 room : (l.length : Int) + (a.length - i) + (b.length - j) <= 1000000
 small : (a.length : Int) + b.length <= 1000000
 inA : ∀ x ∈ a, 0 <= x /\ x < ((chL h).length : Int)
 inB : ∀ x ∈ b, 0 <= x /\ x < ((chL h).length : Int)
 sA : SortK (dayOf h) a
 sB : SortK (dayOf h) b
def FMrg (x : pt_mrg.M.X) : Fr pt_mrg.Out :=
 let a : List Int := x.1.1; let b : List Int := x.1.2.1; let i : Int := x.1.2.2.1; let j : Int := x.1.2.2.2.1; let h : histT.den := x.2.1; let l : List Int := x.2.2.1
 Fr.need (InvMrg a b i j h l) (Fr.val (Rd.out ((), (l ++ sortB (ltDay h) (a.drop i.toNat ++ b.drop j.toNat), ()))))
theorem drop_at {l : List Int} {i : Nat} (h : i < l.length) : l.drop i = l.getD i 0 :: l.drop (i + 1) := by
 rw [List.drop_eq_getElem_cons h]
 simp [List.getD_eq_getElem?_getD, List.getElem?_eq_getElem h]
theorem sortK_drop {key : Int -> Int} {l : List Int} (h : SortK key l) (i : Nat) : SortK key (l.drop i) := List.Pairwise.sublist (List.drop_sublist i l) h
theorem lawMrg (a b : List Int) (i j : Int) (h : histT.den) (l : List Int) (hinv : InvMrg a b i j h l) (Q : pt_mrg.Out -> Prop)
  (hq : Q (Rd.out ((), (l ++ sortB (ltDay h) (a.drop i.toNat ++ b.drop j.toNat), ())))) : (fr_mrg ((a, b, i, j, ()), (h, l, ()))).satP fun
   | .next x' => InvMrg x'.1.1 x'.1.2.1 x'.1.2.2.1 x'.1.2.2.2.1 x'.2.1 x'.2.2.1 /\ ((List.length (α := Int) x'.1.1 : Int) - x'.1.2.2.1).toNat + ((List.length (α := Int) x'.1.2.1 : Int) - x'.1.2.2.2.1).toNat < ((a.length : Int) - i).toNat + ((b.length : Int) - j).toNat /\ (FMrg x').satP Q
   | .out y => Q (.out y)
   | .back z => Q (.back z)
   | .pan p => Q (.pan p) := by
 obtain ⟨h0, h1, h2, h3, h4, h44, h5, h6, h7, h8⟩ := hinv
 obtain ⟨i', rfl⟩ : ∃ n : Nat, i = n := ⟨i.toNat, by omega⟩
 obtain ⟨j', rfl⟩ : ∃ n : Nat, j = n := ⟨j.toNat, by omega⟩
 have hA : i' < a.length -> a.getD i' 0 ∈ a := fun h => getD_mem h
 have hB : j' < b.length -> b.getD j' 0 ∈ b := fun h => getD_mem h
 simp only [Int.toNat_natCast] at hq
 dsimp only [fr_mrg, Fr.satP, Ty.den, PT.den]
 rw [intBytes]
 simp only [Int.toNat_natCast, List.length_cons, List.length_nil]
 have takeA : i' < a.length -> (j' < b.length -> dayOf h (a.getD i' 0) <= dayOf h (b.getD j' 0)) ->
   InvMrg a b ((i' + 1 : Nat) : Int) j' h (l ++ [a.getD i' 0]) /\ Q (Rd.out ((), (l ++ [a.getD i' 0] ++ sortB (ltDay h) (a.drop (i' + 1) ++ b.drop j'), ()))) := fun hi hle => by
  refine ⟨⟨by omega, by omega, by omega, h3, by simp; omega, h44, h5, h6, h7, h8⟩, ?_⟩
  have e := sortB_left (lt := ltDay h) (key := dayOf h) (x := a.getD i' 0) (a := a.drop (i' + 1)) (b := b.drop j') (ltDay_ltK _ _) (by rw [← drop_at hi]; exact sortK_drop h7 i') (fun y hy => by
   have hj : j' < b.length := by
    rcases Nat.lt_or_ge j' b.length with h | h
    ·exact h
    ·rw [List.drop_eq_nil_of_le h] at hy; simp at hy
   have hs := sortK_drop h8 j'
   rw [drop_at hj] at hs hy
   rcases List.mem_cons.1 hy with rfl | hy
   ·exact hle hj
   ·exact Int.le_trans (hle hj) ((List.pairwise_cons.1 hs).1 y hy))
  rw [drop_at hi, e] at hq
  simpa using hq
 have takeB : j' < b.length -> (i' < a.length -> ¬ dayOf h (a.getD i' 0) <= dayOf h (b.getD j' 0)) ->
   InvMrg a b (i' : Int) ((j' + 1 : Nat) : Int) h (l ++ [b.getD j' 0]) /\ Q (Rd.out ((), (l ++ [b.getD j' 0] ++ sortB (ltDay h) (a.drop i' ++ b.drop (j' + 1)), ()))) := fun hj hlt => by
  refine ⟨⟨by omega, by omega, h2, by omega, by simp; omega, h44, h5, h6, h7, h8⟩, ?_⟩
  have e := sortB_right (lt := ltDay h) (key := dayOf h) (y := b.getD j' 0) (a := a.drop i') (b := b.drop (j' + 1)) (ltDay_ltK _ _) (by rw [← drop_at hj]; exact sortK_drop h8 j') (fun x hx => by
   have hi : i' < a.length := by
    rcases Nat.lt_or_ge i' a.length with h | h
    ·exact h
    ·rw [List.drop_eq_nil_of_le h] at hx; simp at hx
   have hs := sortK_drop h7 i'
   rw [drop_at hi] at hs hx
   have hl := hlt hi
   rcases List.mem_cons.1 hx with rfl | hx
   ·omega
   ·have := (List.pairwise_cons.1 hs).1 x hx
    omega)
  rw [drop_at hj, e] at hq
  simpa using hq
 have w1 : i' < a.length -> IntKind.i64.wrap ((i' : Int) + 1) = (i' + 1 : Nat) := fun h => succ_nat (by omega)
 have w2 : j' < b.length -> IntKind.i64.wrap ((j' : Int) + 1) = (j' + 1 : Nat) := fun h => succ_nat (by omega)
 have fin : ∀ (p : Bool) (hp : p = true -> i' < a.length /\ (j' < b.length -> dayOf h (a.getD i' 0) <= dayOf h (b.getD j' 0))) (hp' : p = false -> j' < b.length /\ (i' < a.length -> ¬ dayOf h (a.getD i' 0) <= dayOf h (b.getD j' 0))), True := fun _ _ _ => trivial
 by_cases hi : i' < a.length
 ·have di : decide ((i' : Int) < (a.length : Int)) = true := decide_eq_true (by omega)
  rw [di]
  by_cases hj : j' < b.length
  ·have dj : ((j' : Int) == (b.length : Int)) = false := by rw [beq_eq_false_iff_ne]; omega
   rw [dj]
   refine ⟨fun _ => ⟨fun _ _ => ⟨by omega, by omega⟩, fun _ _ => h5 _ (hA hi), fun _ _ => ⟨by omega, by omega⟩, fun _ _ => h6 _ (hB hj), fun hc => ?_, fun hc => ?_⟩, fun hc => by cases hc⟩
   ·have hle : dayOf h (a.getD i' 0) <= dayOf h (b.getD j' 0) := of_decide_eq_true hc
    obtain ⟨k1, k2⟩ := takeA hi (fun _ => hle)
    rw [w1 hi]
    refine ⟨⟨by omega, by omega⟩, ⟨by simp only [maxLen]; omega, by omega⟩, k1, by omega, k1, k2⟩
   ·have hle : ¬ dayOf h (a.getD i' 0) <= dayOf h (b.getD j' 0) := of_decide_eq_false hc
    obtain ⟨k1, k2⟩ := takeB hj (fun _ => hle)
    rw [w2 hj]
    refine ⟨⟨by omega, by omega⟩, ⟨by simp only [maxLen]; omega, by omega⟩, k1, by omega, k1, k2⟩
  ·have dj : ((j' : Int) == (b.length : Int)) = true := by rw [beq_iff_eq]; omega
   rw [dj]
   refine ⟨fun _ => ⟨fun _ hc => (by cases hc), fun _ hc => (by cases hc), fun _ hc => (by cases hc), fun _ hc => (by cases hc), fun _ => ?_, fun hc => by cases hc⟩, fun hc => by cases hc⟩
   obtain ⟨k1, k2⟩ := takeA hi (fun h => absurd h hj)
   rw [w1 hi]
   refine ⟨⟨by omega, by omega⟩, ⟨by simp only [maxLen]; omega, by omega⟩, k1, by omega, k1, k2⟩
 ·have di : decide ((i' : Int) < (a.length : Int)) = false := decide_eq_false (by omega)
  rw [di]
  by_cases hj : j' < b.length
  ·have dj : ((j' : Int) == (b.length : Int)) = false := by rw [beq_eq_false_iff_ne]; omega
   rw [dj]
   refine ⟨fun _ => ⟨fun hc => (by cases hc), fun hc => (by cases hc), fun hc => (by cases hc), fun hc => (by cases hc), fun hc => (by cases hc), fun _ => ?_⟩, fun hc => ?_⟩
   ·obtain ⟨k1, k2⟩ := takeB hj (fun h => absurd h hi)
    rw [w2 hj]
    refine ⟨⟨by omega, by omega⟩, ⟨by simp only [maxLen]; omega, by omega⟩, k1, by omega, k1, k2⟩
   ·have : ¬ (j' : Int) < (b.length : Int) := of_decide_eq_false hc
    omega
  ·have dj : decide ((j' : Int) < (b.length : Int)) = false := decide_eq_false (by omega)
   rw [dj]
   refine ⟨fun hc => (by cases hc), fun _ => ?_⟩
   rw [List.drop_eq_nil_of_le (by omega), List.drop_eq_nil_of_le (by omega)] at hq
   simpa [sortB] using hq
theorem loopMrg : Does Tryz.prog (.loop (loopF Tryz.f137 0)) pt_mrg.M pt_mrg FMrg := by
 refine Does.loop (n := 70) (id := 0) sem_mrg (inv := fun x => InvMrg x.1.1 x.1.2.1 x.1.2.2.1 x.1.2.2.2.1 x.2.1 x.2.2.1) (μ := fun x => ((List.length (α := Int) x.1.1 : Int) - x.1.2.2.1).toNat + ((List.length (α := Int) x.1.2.1 : Int) - x.1.2.2.2.1).toNat) ?_ (fun x Q h => h.1)
 rintro ⟨⟨a, b, i, j, _⟩, ⟨h, l, _⟩⟩ hinv Q hq
 exact lawMrg a b i j h l hinv Q hq.2
noncomputable def ΛMrg : Nat -> St -> Option Tr := fun _ => pt_mrg.han CM0.Γ pt_mrg.M FMrg
def fr_merge (x : denP [.d histT, .d ints, .d ints]) : Fr (denL [.sl i64]) :=
 Fr.need (InvMrg x.2.1 x.2.2.1 0 0 x.1 []) (Fr.val ([] ++ sortB (ltDay x.1) (x.2.1.drop (0 : Int).toNat ++ x.2.2.1.drop (0 : Int).toNat), ()))
structure MrgOk (h : histT.den) (a b : List Int) : Prop where
 inA : ∀ x ∈ a, 0 <= x /\ x < ((chL h).length : Int)
 inB : ∀ x ∈ b, 0 <= x /\ x < ((chL h).length : Int)
 sA : SortK (dayOf h) a
 sB : SortK (dayOf h) b
 room : (a.length : Int) + b.length <= 1000000
def cMerge : Ct := ⟨[.d histT, .d ints, .d ints], [.sl i64], fun x => (sortB (ltDay x.1) (x.2.1 ++ x.2.2.1), ()), fun x => [MrgOk x.1 x.2.1 x.2.2.1]⟩
theorem merge_ok : SoundCt Tryz.prog 137 cMerge :=
 conv (fn_sound CM0_ok (Λ := ΛMrg) (fn := Tryz.f137) (fr := fr_merge) (ps := [.d histT, .d ints, .d ints]) (rs := [.sl i64]) (dfP [.d histT, .d ints, .d ints]) (by kernel_rfl)
  (fun c E hc => lam1f hc (by kernel_rfl) (b := loopF Tryz.f137 0) (by kernel_rfl) (Does.han CM0_ok rfl loopMrg)) (fun x => by kernel_rfl)) _ _ fun _ _ x _ _ hok => by
  obtain ⟨h, a, b, rfl⟩ : ∃ (h : histT.den) (a b : List Int), x = (h, a, b, ()) := ⟨x.1, x.2.1, x.2.2.1, rfl⟩
  have hok' : MrgOk h a b := hok
  obtain ⟨h1, h2, h3, h4, h5⟩ := hok'
  exact ⟨⟨⟨Int.le_refl _, Int.le_refl _, by omega, by omega, by simp; omega, h5, h1, h2, h3, h4⟩, trivial⟩, rfl⟩
def rangeFT (a b : Nat) : List Int := (List.range' a (b - a)).map fun i : Nat => (i : Int)
theorem rangeFT_split {a m b : Nat} (h1 : a <= m) (h2 : m <= b) : rangeFT a m ++ rangeFT m b = rangeFT a b := by
 unfold rangeFT
 rw [← List.map_append]
 congr 1
 rw [show List.range' m (b - m) = List.range' (a + (m - a)) (b - m) by congr 1; omega, List.range'_append_1]
 congr 1
 omega
theorem rangeFT_mem {a b : Nat} {x : Int} (h : x ∈ rangeFT a b) : (a : Int) <= x /\ x < b := by
 simp only [rangeFT, List.mem_map, List.mem_range'_1] at h
 obtain ⟨i, hi, rfl⟩ := h
 omega
theorem rangeFT_zero (n : Nat) : rangeFT 0 n = rangeI n := by simp [rangeFT, rangeI, List.range_eq_range']
theorem rangeFT_length (a b : Nat) : (rangeFT a b).length = b - a := by simp [rangeFT]
structure OrdOk (n : Nat) (h : histT.den) (a b : Int) : Prop where
 a0 : 0 <= a
 ab : a <= b
 bl : b <= ((chL h).length : Int)
 big : ((chL h).length : Int) <= 1000000
 size : b - a < n
def cOrderR (n : Nat) : Ct := ⟨[.d histT, .d i64, .d i64], [.sl i64], fun x => (sortB (ltDay x.1) (rangeFT x.2.1.toNat x.2.2.1.toNat), ()), fun x => [OrdOk n x.1 x.2.1 x.2.2.1]⟩
noncomputable def CM1 (n : Nat) : Cx := cx [(137, cMerge), (100, cOrderR n)] []
def halfI (a b : Int) : Int := IntKind.i64.wrap ((IntKind.i64.wrap (a + b)).tdiv 2)
def fr_orderR (n : Nat) (x : denP [.d histT, .d i64, .d i64]) : Fr (denL [.sl i64]) :=
 let h := x.1; let a : Int := x.2.1; let b : Int := x.2.2.1
 Fr.br (decide (IntKind.i64.wrap (b - a) < 1)) (Fr.val ([], ()))
  (Fr.br (IntKind.i64.wrap (b - a) == 1) (Fr.val ([a], ()))
   (Fr.need ((2 : Int) ≠ 0)
    (Fr.need (OrdOk n h a (halfI a b))
     (Fr.need (OrdOk n h (halfI a b) b)
      (Fr.need (MrgOk h ((cOrderR n).f (h, a, halfI a b, ())).1 ((cOrderR n).f (h, halfI a b, b, ())).1)
       (Fr.val ((cMerge.f (h, ((cOrderR n).f (h, a, halfI a b, ())).1, ((cOrderR n).f (h, halfI a b, b, ())).1, ())).1, ())))))))
theorem run_orderR (n : Nat) (x : denP [.d histT, .d i64, .d i64]) : runFn Tryz.prog (CM1 n) lam0 Tryz.f100 [.d histT, .d i64, .d i64] [.sl i64] x = some (fr_orderR n x) := by kernel_rfl
theorem orderR_plain (n : Nat) (h : histT.den) (a b : Int) (hok : OrdOk (n + 1) h a b) : (fr_orderR n (h, a, b, ())).ok /\ (fr_orderR n (h, a, b, ())).get = (sortB (ltDay h) (rangeFT a.toNat b.toNat), ()) := by
 obtain ⟨h0, h1, h2, h3, h4⟩ := hok
 obtain ⟨a', rfl⟩ : ∃ n : Nat, a = n := ⟨a.toNat, by omega⟩
 obtain ⟨b', rfl⟩ : ∃ n : Nat, b = n := ⟨b.toNat, by omega⟩
 have w1 : IntKind.i64.wrap ((b' : Int) - a') = (b' - a' : Nat) := sub_nat (by omega) (by omega)
 have w2 : halfI a' b' = ((a' + b') / 2 : Nat) := by
  unfold halfI
  rw [add_nat (by omega), Int.tdiv_eq_ediv_of_nonneg (by omega), IntWalk.i64_in _ (by omega)]
  omega
 dsimp only [fr_orderR]
 rw [w1, w2]
 simp only [Int.toNat_natCast]
 by_cases c1 : b' - a' < 1
 ·have hd : decide (((b' - a' : Nat) : Int) < 1) = true := decide_eq_true (by omega)
  rw [hd]
  refine ⟨⟨fun _ => trivial, fun hc => by cases hc⟩, ?_⟩
  show ([], ()) = (sortB (ltDay h) (rangeFT a' b'), ())
  have : rangeFT a' b' = [] := List.eq_nil_of_length_eq_zero (by rw [rangeFT_length]; omega)
  rw [this]
  rfl
 ·have hd : decide (((b' - a' : Nat) : Int) < 1) = false := decide_eq_false (by omega)
  rw [hd]
  by_cases c2 : b' - a' = 1
  ·have hd : (((b' - a' : Nat) : Int) == 1) = true := by rw [c2]; rfl
   rw [hd]
   refine ⟨⟨fun hc => (by cases hc), fun _ => ⟨fun _ => trivial, fun hc => by cases hc⟩⟩, ?_⟩
   show ([(a' : Int)], ()) = (sortB (ltDay h) (rangeFT a' b'), ())
   have : rangeFT a' b' = [(a' : Int)] := by simp [rangeFT, c2]
   rw [this]
   rfl
  ·have hd : (((b' - a' : Nat) : Int) == 1) = false := by rw [beq_eq_false_iff_ne]; omega
   rw [hd]
   have q1 : OrdOk n h (a' : Int) ((a' + b') / 2 : Nat) := ⟨h0, by omega, by omega, h3, by omega⟩
   have q2 : OrdOk n h ((a' + b') / 2 : Nat) (b' : Int) := ⟨by omega, by omega, h2, h3, by omega⟩
   have s1 := sortB_sort (l := rangeFT a' ((a' + b') / 2)) (ltDay_ltK h _)
   have s2 := sortB_sort (l := rangeFT ((a' + b') / 2) b') (ltDay_ltK h _)
   have q3 : MrgOk h (sortB (ltDay h) (rangeFT a' ((a' + b') / 2))) (sortB (ltDay h) (rangeFT ((a' + b') / 2) b')) :=
    ⟨fun x hx => (by have := rangeFT_mem (sortB_mem.1 hx); omega), fun x hx => (by have := rangeFT_mem (sortB_mem.1 hx); omega), s1.1, s2.1, by rw [sortB_length, sortB_length, rangeFT_length, rangeFT_length]; omega⟩
   refine ⟨⟨fun hc => (by cases hc), fun _ => ⟨fun hc => (by cases hc), fun _ => ⟨by decide, q1, q2, q3, trivial⟩⟩⟩, ?_⟩
   show (sortB (ltDay h) (sortB (ltDay h) (rangeFT a' ((a' + b') / 2)) ++ sortB (ltDay h) (rangeFT ((a' + b') / 2) b')), ()) = _
   rw [sortB_two (ltDay_ltK h _), rangeFT_split (by omega) (by omega)]
theorem orderR_ok : (n : Nat) -> SoundCt Tryz.prog 100 (cOrderR n)
 | 0 => by
  have hf : Tryz.prog.funcs[100]? = some Tryz.f100 := by kernel_rfl
  obtain ⟨c, hb⟩ : ∃ c, Tryz.f100.body = some c := ⟨_, rfl⟩
  refine ⟨enters hf hb (by kernel_rfl), fun w F xs vs _ _ hok => ?_⟩
  have h : OrdOk 0 xs.1 xs.2.1 xs.2.2.1 := hok
  have h1 := h.ab
  have h2 := h.size
  omega
 | n + 1 => by
  have hC : CxOK Tryz.prog (CM1 n) := cx_ok mixed ⟨merge_ok, orderR_ok n, trivial⟩ trivial
  refine conv (fn_sound hC (Λ := lam0) (fn := Tryz.f100) (fr := fr_orderR n) (ps := [.d histT, .d i64, .d i64]) (rs := [.sl i64]) (dfP [.d histT, .d i64, .d i64]) (by kernel_rfl) (fun c E _ => lam0_ok c 0) (run_orderR n)) _ _ fun _ _ x _ _ hok => ?_
  obtain ⟨h, a, b, rfl⟩ : ∃ (h : histT.den) (a b : Int), x = (h, a, b, ()) := ⟨x.1, x.2.1, x.2.2.1, rfl⟩
  exact orderR_plain n h a b hok
noncomputable def CM2 : Cx := cx [(100, cOrderR 1000001)] []
theorem CM2_ok : CxOK Tryz.prog CM2 := cx_ok mixed ⟨orderR_ok _, trivial⟩ trivial
def cOrder11 : Ct := ⟨[.d histT], [.sl i64], fun x => (orderL x.1, ()), fun x => [((chL x.1).length : Int) <= 1000000]⟩
def fr_order11 (x : denP [.d histT]) : Fr (denL [.sl i64]) :=
 Fr.need (OrdOk 1000001 x.1 0 ((chL x.1).length : Int)) (Fr.val (((cOrderR 1000001).f (x.1, 0, ((chL x.1).length : Int), ())).1, ()))
theorem order11_ok : SoundCt Tryz.prog 63 cOrder11 :=
 conv (fn_sound CM2_ok (Λ := lam0) (fn := Tryz.f63) (fr := fr_order11) (ps := [.d histT]) (rs := [.sl i64]) (dfP [.d histT]) (by kernel_rfl) (fun c E _ => lam0_ok c 0) (fun x => by kernel_rfl)) _ _ fun _ _ x _ _ hok => by
  obtain ⟨h, rfl⟩ : ∃ h : histT.den, x = (h, ()) := ⟨x.1, rfl⟩
  have hok' : ((chL h).length : Int) <= 1000000 := hok
  have ho : OrdOk 1000001 h 0 ((chL h).length : Int) := ⟨Int.le_refl _, by omega, Int.le_refl _, hok', by omega⟩
  refine ⟨⟨ho, trivial⟩, ?_⟩
  show (sortB (ltDay h) (rangeFT 0 (chL h).length), ()) = (orderL h, ())
  rw [rangeFT_zero]
  rfl
end Go.Proofs.YtplkgghjldndkaaGreat
namespace Go.Proofs.YtplkgghjldndkaaGreat
open Go Go.Ab Go.RowKit Go.Proofs
def doesC (s : sliceT.den) (c : changeT.den) : sliceT.den :=
 if c.2.2.1 = 1 then (s.1, s.2.1, c.2.2.2.1, s.2.2.2.1, s.2.2.2.2.1, ())
 else if c.2.2.1 = 2 then (s.1, s.2.1, s.2.2.1, c.2.2.2.2.1, s.2.2.2.2.1, ())
 else if c.2.2.1 = 3 then (s.1, false, s.2.2.1, s.2.2.2.1, s.2.2.2.2.1, ())
 else if c.2.2.1 = 4 then (s.1, true, s.2.2.1, s.2.2.2.1, s.2.2.2.2.1, ())
 else s
def chAt (h : histT.den) (i : Int) : changeT.den := (chL h).getD i.toNat changeT.dflt
def holdF (h : histT.den) (day : Int) : List Int -> sliceT.den -> sliceT.den
 | [], s => s
 | i :: l, s => holdF h day l (if dayOf h i > day then s else doesC s (chAt h i))
def firstS (h : histT.den) : sliceT.den := ((0, 0, ()), true, h.2.2.1.2.1, h.2.2.1.2.2.1, 0, ())
abbrev pt_hld : Pt := ⟨54, 0, ⟨[(1, .d ints), (2, .d i64), (8, .d i64)], [.x 3 31 histT, .r 3 3 0, .x 6 80 sliceT, .r 6 6 0, .x 7 80 sliceT, .r 7 7 0]⟩,
 ⟨[], [.x 6 80 sliceT, .r 6 6 0, .x 7 80 sliceT, .r 7 7 0]⟩, ⟨[], []⟩⟩
def fr_hld (x : pt_hld.M.X) : Fr pt_hld.Out :=
 let l : List Int := x.1.1; let day : Int := x.1.2.1; let i : Int := x.1.2.2.1; let h : histT.den := x.2.1; let r : sliceT.den := x.2.2.1; let s : sliceT.den := x.2.2.2.1
 let c : changeT.den := chAt h (l.getD i.toNat i64.dflt)
 Fr.br (decide (i < (l.length : Int)))
  (Fr.need (0 <= i /\ i < (l.length : Int))
   (Fr.need (0 <= l.getD i.toNat i64.dflt /\ l.getD i.toNat i64.dflt < ((chL h).length : Int))
    (Fr.br (decide (dayOf h (l.getD i.toNat i64.dflt) > day))
     (Fr.val (Rd.next ((l, day, IntKind.i64.wrap (i + 1), ()), (h, r, s, ()))))
     (Fr.br (c.2.2.1 == 1)
      (Fr.val (Rd.next ((l, day, IntKind.i64.wrap (i + 1), ()), (h, r, (s.1, s.2.1, c.2.2.2.1, s.2.2.2.1, s.2.2.2.2.1, ()), ()))))
      (Fr.br (c.2.2.1 == 2)
       (Fr.val (Rd.next ((l, day, IntKind.i64.wrap (i + 1), ()), (h, r, (s.1, s.2.1, s.2.2.1, c.2.2.2.2.1, s.2.2.2.2.1, ()), ()))))
       (Fr.br (c.2.2.1 == 3)
        (Fr.val (Rd.next ((l, day, IntKind.i64.wrap (i + 1), ()), (h, r, (s.1, false, s.2.2.1, s.2.2.2.1, s.2.2.2.2.1, ()), ()))))
        (Fr.br (c.2.2.1 == 4)
         (Fr.val (Rd.next ((l, day, IntKind.i64.wrap (i + 1), ()), (h, r, (s.1, true, s.2.2.1, s.2.2.2.1, s.2.2.2.2.1, ()), ()))))
         (Fr.val (Rd.next ((l, day, IntKind.i64.wrap (i + 1), ()), (h, r, s, ())))))))))))
  (Fr.val (Rd.out ((), (r, s, ()))))
theorem sem_hld : Does Tryz.prog (loopF Tryz.f79 0) pt_hld.M pt_hld fr_hld :=
 Does.of_run CM0_ok (bs := 0) (Λ := lam0) rfl rfl rfl (fun E => lam0_ok _ 0) (fun x => by kernel_rfl)
structure InvHld (l : List Int) (i : Int) (h : histT.den) : Prop where
 i0 : 0 <= i
 il : i <= l.length
 big : (l.length : Int) <= 9223372036854775807
 inl : ∀ x ∈ l, 0 <= x /\ x < ((chL h).length : Int)
def FHld (x : pt_hld.M.X) : Fr pt_hld.Out :=
 let l : List Int := x.1.1; let day : Int := x.1.2.1; let i : Int := x.1.2.2.1; let h : histT.den := x.2.1; let r : sliceT.den := x.2.2.1; let s : sliceT.den := x.2.2.2.1
 Fr.need (InvHld l i h) (Fr.val (Rd.out ((), (r, holdF h day (l.drop i.toNat) s, ()))))
theorem lawHld (l : List Int) (day i : Int) (h : histT.den) (r s : sliceT.den) (hinv : InvHld l i h) (Q : pt_hld.Out -> Prop)
  (hq : Q (Rd.out ((), (r, holdF h day (l.drop i.toNat) s, ())))) : (fr_hld ((l, day, i, ()), (h, r, s, ()))).satP fun
   | .next x' => InvHld x'.1.1 x'.1.2.2.1 x'.2.1 /\ ((List.length (α := Int) x'.1.1 : Int) - x'.1.2.2.1).toNat < ((l.length : Int) - i).toNat /\ (FHld x').satP Q
   | .out y => Q (.out y)
   | .back z => Q (.back z)
   | .pan p => Q (.pan p) := by
 obtain ⟨h0, h1, h2, h3⟩ := hinv
 obtain ⟨i', rfl⟩ : ∃ n : Nat, i = n := ⟨i.toNat, by omega⟩
 simp only [Int.toNat_natCast] at hq
 dsimp only [fr_hld, Fr.satP, Ty.den, PT.den]
 simp only [Int.toNat_natCast]
 refine ⟨fun hi => ?_, fun hi => ?_⟩
 ·have hlt : i' < l.length := by have : (i' : Int) < (l.length : Int) := of_decide_eq_true hi; omega
  have w : IntKind.i64.wrap ((i' : Int) + 1) = (i' + 1 : Nat) := succ_nat (by omega)
  rw [w]
  have hI : InvHld l ((i' + 1 : Nat) : Int) h := ⟨by omega, by omega, h2, h3⟩
  have hm := h3 _ (getD_mem (d := (0 : Int)) hlt)
  rw [drop_at hlt] at hq
  simp only [holdF] at hq
  have hdone : ∀ s', s' = (if dayOf h (l.getD i' 0) > day then s else doesC s (chAt h (l.getD i' 0))) -> InvHld l ((i' + 1 : Nat) : Int) h /\ ((List.length (α := Int) l : Int) - ((i' + 1 : Nat) : Int)).toNat < ((l.length : Int) - (i' : Int)).toNat /\
    (FHld ((l, day, ((i' + 1 : Nat) : Int), ()), (h, r, s', ()))).satP Q := fun s' hs => ⟨hI, by omega, hI, by subst hs; exact hq⟩
  refine ⟨⟨by omega, by omega⟩, hm, fun hc => ?_, fun hc => ?_⟩
  ·have hc' : dayOf h (l.getD i' 0) > day := of_decide_eq_true hc
   exact hdone s (by rw [if_pos hc'])
  ·have hc' : ¬ dayOf h (l.getD i' 0) > day := of_decide_eq_false hc
   rw [if_neg hc'] at hdone
   unfold doesC at hdone
   refine ⟨fun k => ?_, fun k => ⟨fun k2 => ?_, fun k2 => ⟨fun k3 => ?_, fun k3 => ⟨fun k4 => ?_, fun k4 => ?_⟩⟩⟩⟩
   ·have k' : (chAt h (l.getD i' 0)).2.2.1 = 1 := eq_of_beq (α := Int) k
    exact hdone _ (by rw [if_pos k']; rfl)
   ·have k' : ¬ (chAt h (l.getD i' 0)).2.2.1 = 1 := ne_of_beq_false (α := Int) k
    have k2' : (chAt h (l.getD i' 0)).2.2.1 = 2 := eq_of_beq (α := Int) k2
    exact hdone _ (by rw [if_neg k', if_pos k2']; rfl)
   ·have k' : ¬ (chAt h (l.getD i' 0)).2.2.1 = 1 := ne_of_beq_false (α := Int) k
    have k2' : ¬ (chAt h (l.getD i' 0)).2.2.1 = 2 := ne_of_beq_false (α := Int) k2
    have k3' : (chAt h (l.getD i' 0)).2.2.1 = 3 := eq_of_beq (α := Int) k3
    exact hdone _ (by rw [if_neg k', if_neg k2', if_pos k3'])
   ·have k' : ¬ (chAt h (l.getD i' 0)).2.2.1 = 1 := ne_of_beq_false (α := Int) k
    have k2' : ¬ (chAt h (l.getD i' 0)).2.2.1 = 2 := ne_of_beq_false (α := Int) k2
    have k3' : ¬ (chAt h (l.getD i' 0)).2.2.1 = 3 := ne_of_beq_false (α := Int) k3
    have k4' : (chAt h (l.getD i' 0)).2.2.1 = 4 := eq_of_beq (α := Int) k4
    exact hdone _ (by rw [if_neg k', if_neg k2', if_neg k3', if_pos k4'])
   ·have k' : ¬ (chAt h (l.getD i' 0)).2.2.1 = 1 := ne_of_beq_false (α := Int) k
    have k2' : ¬ (chAt h (l.getD i' 0)).2.2.1 = 2 := ne_of_beq_false (α := Int) k2
    have k3' : ¬ (chAt h (l.getD i' 0)).2.2.1 = 3 := ne_of_beq_false (α := Int) k3
    have k4' : ¬ (chAt h (l.getD i' 0)).2.2.1 = 4 := ne_of_beq_false (α := Int) k4
    exact hdone _ (by rw [if_neg k', if_neg k2', if_neg k3', if_neg k4'])
 ·have hge : ¬ i' < l.length := by have : ¬ (i' : Int) < (l.length : Int) := of_decide_eq_false hi; omega
  rw [List.drop_eq_nil_of_le (by omega)] at hq
  exact hq
theorem loopHld : Does Tryz.prog (.loop (loopF Tryz.f79 0)) pt_hld.M pt_hld FHld := by
 refine Does.loop (n := 54) (id := 0) sem_hld (inv := fun x => InvHld x.1.1 x.1.2.2.1 x.2.1) (μ := fun x => ((List.length (α := Int) x.1.1 : Int) - x.1.2.2.1).toNat) ?_ (fun x Q h => h.1)
 rintro ⟨⟨l, day, i, _⟩, ⟨h, r, s, _⟩⟩ hinv Q hq
 exact lawHld l day i h r s hinv Q hq.2
noncomputable def ΛHld : Nat -> St -> Option Tr := fun _ => pt_hld.han CM0.Γ pt_hld.M FHld
def fr_holds (x : denP [.d histT, .d ints, .d i64]) : Fr (denL [sliceT]) :=
 Fr.need (InvHld x.2.1 0 x.1) (Fr.val (holdF x.1 x.2.2.1 (x.2.1.drop (0 : Int).toNat) (firstS x.1), ()))
def cHoldF : Ct := ⟨[.d histT, .d ints, .d i64], [sliceT], fun x => (holdF x.1 x.2.2.1 x.2.1 (firstS x.1), ()), fun x => [∀ i ∈ x.2.1, 0 <= i /\ i < ((chL x.1).length : Int)]⟩
theorem holds12_ok : SoundCt Tryz.prog 79 cHoldF :=
 conv (fn_sound CM0_ok (Λ := ΛHld) (fn := Tryz.f79) (fr := fr_holds) (ps := [.d histT, .d ints, .d i64]) (rs := [sliceT]) (dfP [.d histT, .d ints, .d i64]) (by kernel_rfl)
  (fun c E hc => lam1f hc (by kernel_rfl) (b := loopF Tryz.f79 0) (by kernel_rfl) (Does.han CM0_ok rfl loopHld)) (fun x => by kernel_rfl)) _ _ fun w F x vs hr hok => by
  obtain ⟨h, l, day, rfl⟩ : ∃ (h : histT.den) (l : List Int) (day : Int), x = (h, l, day, ()) := ⟨x.1, x.2.1, x.2.2.1, rfl⟩
  obtain ⟨_, _, _, _, v, vs', _, hv, _⟩ := hr
  have hlen : (l.length : Int) <= 9223372036854775807 := wf_len hv
  exact ⟨⟨⟨Int.le_refl _, by omega, hlen, hok⟩, trivial⟩, rfl⟩
abbrev Core : Type := Bool × riskT.den × List coverT.den
def coreS (s : sliceT.den) : Core := (s.2.1, s.2.2.1, s.2.2.2.1)
theorem riskEq_iff {a b : riskT.den} : riskEq a b = true ↔ a = b := by
 obtain ⟨a1, a2, a3, a4, _⟩ := a
 obtain ⟨b1, b2, b3, b4, _⟩ := b
 constructor
 ·intro h
  simp only [riskEq, Bool.and_eq_true, beq_iff_eq] at h
  obtain ⟨h1, h2, h3, h4, _⟩ := h
  rw [h1, h2, h3, h4]
 ·intro h
  cases h
  simp [riskEq]
theorem holdsB_iff {a b : sliceT.den} : holdsB a b = true ↔ coreS a = coreS b := by
 unfold holdsB coreS
 simp only [Bool.and_eq_true, beq_iff_eq, riskEq_iff, sameC_iff, Prod.mk.injEq]
def Runs (st : Int -> Core) (b : Int) : Int -> List sliceT.den -> Prop
 | a, [] => a = b
 | a, s :: l => s.1.1 = a /\ a < s.1.2.1 /\ s.2.2.2.2.1 = (0 : Int) /\ (∀ d, a <= d -> d < s.1.2.1 -> coreS s = st d) /\ (∀ t ∈ l.head?, coreS s ≠ coreS t) /\ Runs st b s.1.2.1 l
theorem Runs.le {st : Int -> Core} {b : Int} : {a : Int} -> {l : List sliceT.den} -> Runs st b a l -> a <= b
 | a, [], h => Int.le_of_eq h
 | a, s :: l, h => Int.le_trans (Int.le_of_lt h.2.1) (Runs.le h.2.2.2.2.2)
theorem Runs.at_ {st : Int -> Core} {b : Int} {s : sliceT.den} {l : List sliceT.den} {a : Int} (h : Runs st b a (s :: l)) : coreS s = st a := h.2.2.2.1 a (Int.le_refl a) h.2.1
theorem slice_ext {s t : sliceT.den} (h1 : s.1.1 = t.1.1) (h2 : s.1.2.1 = t.1.2.1) (h3 : coreS s = coreS t) (h4 : s.2.2.2.2.1 = t.2.2.2.2.1) : s = t := by
 obtain ⟨⟨a, b, _⟩, o, r, c, y, _⟩ := s
 obtain ⟨⟨a', b', _⟩, o', r', c', y', _⟩ := t
 have e : (o, r, c) = ((o', r', c') : Core) := h3
 have e1 : a = a' := h1
 have e2 : b = b' := h2
 have e4 : y = y' := h4
 cases e
 rw [e1, e2, e4]
theorem Runs.uniq {st : Int -> Core} {b : Int} : {a : Int} -> {l m : List sliceT.den} -> Runs st b a l -> Runs st b a m -> l = m
 | a, [], [], _, _ => rfl
 | a, [], t :: m, h, k => by
  have h0 : a = b := h
  have h2 : t.1.2.1 <= b := Runs.le k.2.2.2.2.2
  have h1 : a < t.1.2.1 := k.2.1
  exact absurd (Int.lt_of_lt_of_le h1 h2) (by rw [h0]; exact Int.lt_irrefl _)
 | a, s :: l, [], h, k => by
  have h0 : a = b := k
  have h2 : s.1.2.1 <= b := Runs.le h.2.2.2.2.2
  have h1 : a < s.1.2.1 := h.2.1
  exact absurd (Int.lt_of_lt_of_le h1 h2) (by rw [h0]; exact Int.lt_irrefl _)
 | a, s :: l, t :: m, h, k => by
  have hc : coreS s = coreS t := h.at_.trans k.at_.symm
  have key : ∀ {s t : sliceT.den} {l m : List sliceT.den}, Runs st b a (s :: l) -> Runs st b a (t :: m) -> coreS s = coreS t -> ¬ s.1.2.1 < t.1.2.1 := by
   intro s t l m h k hc hlt
   cases l with
   | nil =>
    have h1 : s.1.2.1 = b := h.2.2.2.2.2
    have h2 : t.1.2.1 <= b := Runs.le k.2.2.2.2.2
    rw [h1] at hlt
    exact absurd (Int.lt_of_lt_of_le hlt h2) (Int.lt_irrefl _)
   | cons x l =>
    have h1 := h.2.2.2.2.1 x (by simp)
    have h2 := Runs.at_ h.2.2.2.2.2
    have h3 := k.2.2.2.1 s.1.2.1 (Int.le_of_lt h.2.1) hlt
    exact h1 (hc.trans (h3.trans h2.symm))
  have h1 := key h k hc
  have h2 := key k h hc.symm
  have he : s.1.2.1 = t.1.2.1 := Int.le_antisymm (Int.not_lt.1 h2) (Int.not_lt.1 h1)
  have hst : s = t := slice_ext (h.1.trans k.1.symm) he hc (h.2.2.1.trans k.2.2.1.symm)
  subst hst
  rw [Runs.uniq h.2.2.2.2.2 k.2.2.2.2.2]
def pushR : List sliceT.den -> sliceT.den -> List sliceT.den
 | [], s => [s]
 | [x], s => if holdsB x s = true then [((x.1.1, s.1.2.1, ()), x.2)] else [x, s]
 | x :: y :: r, s => x :: pushR (y :: r) s
theorem pushR_head (s : sliceT.den) : (y : sliceT.den) -> (r : List sliceT.den) -> ∃ y' r', pushR (y :: r) s = y' :: r' /\ coreS y' = coreS y
 | y, [] => by
  unfold pushR
  split
  ·exact ⟨_, _, rfl, rfl⟩
  ·exact ⟨_, _, rfl, rfl⟩
 | y, z :: r => ⟨y, _, rfl, rfl⟩
theorem Runs.push {st : Int -> Core} {m n : Int} {s : sliceT.den} (hs : s.1.1 = m /\ s.1.2.1 = n /\ s.2.2.2.2.1 = (0 : Int)) (hmn : m < n) (hst : ∀ d, m <= d -> d < n -> coreS s = st d) : {a : Int} -> {l : List sliceT.den} -> Runs st m a l -> Runs st n a (pushR l s)
 | a, [], h => by
  have h0 : a = m := h
  subst h0
  refine ⟨hs.1, by rw [hs.2.1]; exact hmn, hs.2.2, fun d h1 h2 => hst d h1 (by rw [hs.2.1] at h2; exact h2), fun t ht => (by cases ht), hs.2.1⟩
 | a, [x], h => by
  have hx : x.1.2.1 = m := h.2.2.2.2.2
  unfold pushR
  by_cases hh : holdsB x s = true
  ·rw [if_pos hh]
   have hc := holdsB_iff.1 hh
   refine ⟨h.1, ?_, h.2.2.1, fun d h1 h2 => ?_, fun t ht => (by cases ht), ?_⟩
   ·show a < s.1.2.1
    rw [hs.2.1]
    have h1 : a < x.1.2.1 := h.2.1
    rw [hx] at h1
    exact Int.lt_trans h1 hmn
   ·have h2' : d < n := by
     have : d < s.1.2.1 := h2
     rw [hs.2.1] at this
     exact this
    show coreS x = st d
    by_cases hd : d < m
    ·exact h.2.2.2.1 d h1 (by rw [hx]; exact hd)
    ·exact hc.trans (hst d (Int.not_lt.1 hd) h2')
   ·exact hs.2.1
  ·rw [if_neg hh]
   have hc : coreS x ≠ coreS s := fun e => hh (holdsB_iff.2 e)
   refine ⟨h.1, h.2.1, h.2.2.1, h.2.2.2.1, fun t ht => ?_, ?_⟩
   ·simp at ht
    subst ht
    exact hc
   ·rw [hx]
    exact ⟨hs.1, by rw [hs.2.1]; exact hmn, hs.2.2, fun d h1 h2 => hst d h1 (by rw [hs.2.1] at h2; exact h2), fun t ht => (by cases ht), hs.2.1⟩
 | a, x :: y :: r, h => by
  refine ⟨h.1, h.2.1, h.2.2.1, h.2.2.2.1, fun t ht => ?_, Runs.push hs hmn hst h.2.2.2.2.2⟩
  obtain ⟨y', r', e, hc⟩ := pushR_head s y r
  rw [e] at ht
  simp at ht
  subst ht
  rw [hc]
  exact h.2.2.2.2.1 y (by simp)
def doesK (k : Core) (c : changeT.den) : Core :=
 if c.2.2.1 = 1 then (k.1, c.2.2.2.1, k.2.2) else if c.2.2.1 = 2 then (k.1, k.2.1, c.2.2.2.2.1) else if c.2.2.1 = 3 then (false, k.2) else if c.2.2.1 = 4 then (true, k.2) else k
theorem coreS_does (s : sliceT.den) (c : changeT.den) : coreS (doesC s c) = doesK (coreS s) c := by
 unfold doesC doesK
 split
 ·rfl
 ·split
  ·rfl
  ·split
   ·rfl
   ·split <;> rfl
def holdK (d : Int) : List changeT.den -> Core -> Core
 | [], k => k
 | c :: l, k => holdK d l (if c.2.1 > d then k else doesK k c)
theorem holdK_append (d : Int) (k : Core) (m : List changeT.den) : (l : List changeT.den) -> (k : Core) -> holdK d (l ++ m) k = holdK d m (holdK d l k)
 | [], k => rfl
 | c :: l, k => holdK_append d k m l _
theorem holdK_none {d : Int} : {l : List changeT.den} -> (∀ c ∈ l, c.2.1 > d) -> (k : Core) -> holdK d l k = k
 | [], _, _ => rfl
 | c :: l, h, k => by
  unfold holdK
  rw [if_pos (h c (by simp))]
  exact holdK_none (fun x hx => h x (by simp [hx])) k
theorem holdK_all {d d' : Int} : {l : List changeT.den} -> (∀ c ∈ l, c.2.1 <= d) -> (∀ c ∈ l, c.2.1 <= d') -> (k : Core) -> holdK d l k = holdK d' l k
 | [], _, _, _ => rfl
 | c :: l, h, h', k => by
  unfold holdK
  rw [if_neg (Int.not_lt.2 (h c (by simp))), if_neg (Int.not_lt.2 (h' c (by simp)))]
  exact holdK_all (fun x hx => h x (by simp [hx])) (fun x hx => h' x (by simp [hx])) _
theorem holdF_core (h : histT.den) (d : Int) : (l : List Int) -> (s : sliceT.den) -> coreS (holdF h d l s) = holdK d (l.map (chAt h)) (coreS s)
 | [], s => rfl
 | i :: l, s => by
  unfold holdF
  rw [holdF_core h d l]
  simp only [List.map_cons, holdK]
  congr 1
  show coreS (if dayOf h i > d then s else doesC s (chAt h i)) = if dayOf h i > d then coreS s else doesK (coreS s) (chAt h i)
  split
  ·rfl
  ·exact coreS_does _ _
def chsO (h : histT.den) : List changeT.den := (orderL h).map (chAt h)
def stOf (h : histT.den) (d : Int) : Core := holdK d (chsO h) (true, h.2.2.1.2.1, h.2.2.1.2.2.1)
def endS (now : sliceT.den) (out : List sliceT.den) (day : Int) : List sliceT.den :=
 if now.1.1 = day then out else pushR out ((now.1.1, day, ()), now.2)
def goCut : List changeT.den -> sliceT.den -> List sliceT.den -> sliceT.den × List sliceT.den
 | [], now, out => (now, out)
 | c :: l, now, out => goCut l (doesC ((c.2.1, now.1.2.1, ()), now.2) c) (endS now out c.2.1)
def nowS (h : histT.den) : sliceT.den := ((h.2.2.1.1.1, 0, ()), true, h.2.2.1.2.1, h.2.2.1.2.2.1, 0, ())
def cutL (h : histT.den) : List sliceT.den := endS (goCut (chsO h) (nowS h) []).1 (goCut (chsO h) (nowS h) []).2 h.2.2.1.1.2.1
theorem does_span (s : sliceT.den) (c : changeT.den) : (doesC s c).1 = s.1 /\ (doesC s c).2.2.2.2.1 = s.2.2.2.2.1 := by
 unfold doesC
 split
 ·exact ⟨rfl, rfl⟩
 ·split
  ·exact ⟨rfl, rfl⟩
  ·split
   ·exact ⟨rfl, rfl⟩
   ·split <;> exact ⟨rfl, rfl⟩
theorem endS_runs {st : Int -> Core} {a n : Int} {now : sliceT.den} {out : List sliceT.den} (h : Runs st now.1.1 a out) (hle : now.1.1 <= n) (hy : now.2.2.2.2.1 = (0 : Int)) (hst : ∀ d, now.1.1 <= d -> d < n -> coreS now = st d) : Runs st n a (endS now out n) := by
 unfold endS
 by_cases he : now.1.1 = n
 ·rw [if_pos he, ← he]
  exact h
 ·rw [if_neg he]
  have hlt : now.1.1 < n := Int.lt_iff_le_and_ne.2 ⟨hle, he⟩
  exact Runs.push (s := ((now.1.1, n, ()), now.2)) ⟨rfl, rfl, hy⟩ hlt hst h
theorem goCut_runs {all : List changeT.den} {k0 : Core} {a b : Int} (hb : ∀ c ∈ all, c.2.1 <= b) : (l p : List changeT.den) -> p ++ l = all -> l.Pairwise (fun x y => x.2.1 <= y.2.1) -> (now : sliceT.den) -> (out : List sliceT.den) -> (∀ c ∈ p, c.2.1 <= now.1.1) -> (∀ c ∈ l, now.1.1 <= c.2.1) ->
  now.1.1 <= b -> now.2.2.2.2.1 = (0 : Int) -> coreS now = holdK now.1.1 p k0 -> Runs (fun d => holdK d all k0) now.1.1 a out ->
  Runs (fun d => holdK d all k0) b a (endS (goCut l now out).1 (goCut l now out).2 b)
 | [], p, hall, _, now, out, hp, _, hnb, hy, hc, hr => by
  rw [List.append_nil] at hall
  subst hall
  show Runs (fun d => holdK d p k0) b a (endS now out b)
  refine endS_runs hr hnb hy fun d h1 h2 => ?_
  rw [hc]
  exact holdK_all hp (fun c h => Int.le_trans (hp c h) h1) k0
 | c :: l, p, hall, hs, now, out, hp, hl, hnb, hy, hc, hr => by
  rw [List.pairwise_cons] at hs
  have hce : now.1.1 <= c.2.1 := hl c (by simp)
  have hr' : Runs (fun d => holdK d all k0) c.2.1 a (endS now out c.2.1) := by
   refine endS_runs hr hce hy fun d h1 h2 => ?_
   rw [hc]
   show _ = holdK d all k0
   rw [← hall, holdK_append d k0, holdK_none (l := c :: l) (fun x hx => ?_)]
   ·exact holdK_all hp (fun c h => Int.le_trans (hp c h) h1) k0
   ·rcases List.mem_cons.1 hx with rfl | hx
    ·exact h2
    ·exact Int.lt_of_lt_of_le h2 (hs.1 x hx)
  have hd := does_span ((c.2.1, now.1.2.1, ()), now.2) c
  have hf : (doesC ((c.2.1, now.1.2.1, ()), now.2) c).1.1 = c.2.1 := by rw [hd.1]
  refine goCut_runs hb l (p ++ [c]) (by simp [hall]) hs.2 _ _ (fun x hx => ?_) (fun x hx => ?_) ?_ ?_ ?_ ?_
  ·rw [hf]
   rcases List.mem_append.1 hx with hx | hx
   ·exact Int.le_trans (hp x hx) hce
   ·simp at hx
    subst hx
    exact Int.le_refl _
  ·rw [hf]; exact hs.1 x hx
  ·rw [hf]; exact hb c (by rw [← hall]; simp)
  ·rw [hd.2]; exact hy
  ·rw [hf, coreS_does, holdK_append _ k0]
   show doesK (coreS now) c = holdK c.2.1 [c] (holdK c.2.1 p k0)
   simp only [holdK]
   rw [if_neg (Int.lt_irrefl _), hc, holdK_all hp (fun x h => Int.le_trans (hp x h) hce)]
  ·rw [hf]; exact hr'
end Go.Proofs.YtplkgghjldndkaaGreat
namespace Go.Proofs.YtplkgghjldndkaaGreat
open Go Go.Ab Go.RowKit Go.Proofs Go.Shelf
theorem vers_cells {w : World} {F : Nat -> Prop} {l : List verT.den} {v : Value} (h : RepT w F (.sl verT) l (fun _ u => u = v)) :
  ∃ (A : Option Addr) (cap : Nat) (b off : Nat) (c : Nat -> VC), v = .slice A l.length cap /\ (0 < l.length -> A = some ⟨b, off, none⟩ /\ F b) /\
   (∀ k j u, k < l.length -> (arr9 (c k))[j]? = some u -> w.cell? ⟨b, off + (k * 9 + j), none⟩ = some u) /\ ∀ k x, l[k]? = some x -> (c k).p 0 = x.1 /\ RepV w F verT x (agg9 (c k)) := by
 obtain ⟨A, cap, h0, h1, h2, h3⟩ := h
 by_cases hp : 0 < l.length
 ·obtain ⟨ad, hA, hF, hc⟩ := h3 0 l[0] (List.getElem?_eq_getElem hp)
  have hsp : ad.spot = none := by
   have hc' : w.cell? (ad.add (0 * verT.size + 0)) = some (.int .i64 l[0].1) := hc.1.1
   have he : ad.add (0 * verT.size + 0) = ad := by simp [Addr.add]
   rw [he] at hc'
   unfold World.cell? at hc'
   split at hc'
   ·split at hc'
    ·cases hc'
    ·rename_i hsp
     cases hsp2 : ad.spot with
     | none => rfl
     | some _ => rw [hsp2] at hsp; exact absurd rfl hsp
   ·cases hc'
  obtain ⟨b, off, sp⟩ := ad
  simp only at hsp
  subst hsp
  have hall : ∀ k, ∃ d : VC, ∀ x, l[k]? = some x -> (∀ j u, (arr9 d)[j]? = some u -> w.cell? ⟨b, off + (k * 9 + j), none⟩ = some u) /\ d.p 0 = x.1 /\ RepV w F verT x (agg9 d) := by
   intro k
   cases hk : l[k]? with
   | none => exact ⟨⟨fun _ => 0, fun _ => none, fun _ => 0, fun _ => 0⟩, fun x hx => by cases hx⟩
   | some x =>
    obtain ⟨ad', hA', _, hr⟩ := h3 k x hk
    rw [hA] at hA'
    cases hA'
    obtain ⟨d, hd, hd0⟩ := ver_cells hr
    refine ⟨d, fun y hy => ?_⟩
    cases hy
    have hcell : ∀ j u, (arr9 d)[j]? = some u -> w.cell? ⟨b, off + (k * 9 + j), none⟩ = some u := fun j u hj => by
     have := hd j u hj
     rw [show verT.size = 9 from rfl] at this
     have e : (⟨b, off, none⟩ : Addr).add (k * 9 + j) = ⟨b, off + (k * 9 + j), none⟩ := by unfold Addr.add; split <;> simp_all
     rw [e] at this
     exact this
    refine ⟨hcell, hd0, rfl, ⟨fun _ => ⟨_, rfl⟩, fun _ => rfl⟩, ?_⟩
    refine hr.mono (fun _ h => h) (fun _ _ => rfl) fun j u hj hu => ?_
    have hj9 : j < (arr9 d).size := hj
    have h2 := hd j (arr9 d)[j] (Array.getElem?_eq_getElem hj9)
    have h3 : some u = some (arr9 d)[j] := hu.symm.trans h2
    show (arr9 d)[j]? = some u
    rw [Array.getElem?_eq_getElem hj9]
    exact h3.symm
  obtain ⟨c, hcc⟩ := Classical.axiomOfChoice hall
  refine ⟨A, cap, b, off, c, h0.symm, fun _ => ⟨hA, hF⟩, fun k j u hk hj => (hcc k l[k] (List.getElem?_eq_getElem hk)).1 j u hj, fun k x hx => (hcc k x hx).2⟩
 ·refine ⟨A, cap, 0, 0, fun _ => ⟨fun _ => 0, fun _ => none, fun _ => 0, fun _ => 0⟩, h0.symm, fun h => absurd h hp, fun k j u hk => absurd hk (by omega), fun k x hx => ?_⟩
  have := (List.getElem?_eq_some_iff.1 hx).1
  omega
theorem verAt_app (day : Int) (b : List verT.den) : (a : List verT.den) -> (∀ v ∈ a, ¬ v.1 <= day) -> verAt day (a ++ b) = verAt day b
 | [], _ => rfl
 | v :: a, h => by
  have hv : ¬ v.1 <= day := h v (by simp)
  have : verAt day (v :: a ++ b) = verAt day (a ++ b) := if_neg hv
  rw [this]
  exact verAt_app day b a fun x hx => h x (by simp [hx])
theorem verAt_no {day : Int} {l : List verT.den} (h : ∀ v ∈ l, ¬ v.1 <= day) : verAt day l.reverse = (noVer, 7) := by
 have := verAt_app day [] l.reverse fun v hv => h v (List.mem_reverse.1 hv)
 rw [List.append_nil] at this
 exact this
theorem verAt_yes {day : Int} {l : List verT.den} {k : Nat} {x : verT.den} (hk : l[k]? = some x) (hx : x.1 <= day) (h : ∀ j y, k < j -> l[j]? = some y -> ¬ y.1 <= day) : verAt day l.reverse = (x, 0) := by
 obtain ⟨hlt, rfl⟩ := List.getElem?_eq_some_iff.1 hk
 have hsplit : l = l.take k ++ l[k] :: l.drop (k + 1) := by
  rw [← List.drop_eq_getElem_cons hlt, List.take_append_drop]
 have hr : l.reverse = (l.drop (k + 1)).reverse ++ (l[k] :: (l.take k).reverse) := by
  conv => lhs; rw [hsplit]
  simp
 rw [hr, verAt_app]
 ·exact if_pos hx
 ·intro v hv
  obtain ⟨j, hj⟩ := List.getElem?_of_mem (List.mem_reverse.1 hv)
  rw [List.getElem?_drop] at hj
  exact h _ v (by omega) hj
def fewT (t : tarT.den) : Prop := t.1.length <= 1000000 /\ ∀ v ∈ t.1, verFew v
def cTarAt : Ct := ⟨[.d tarT, .d i64], [verT, i64], fun x => ((verAt x.2.1 x.1.1.reverse).1, (verAt x.2.1 x.1.1.reverse).2, ()), fun x => [fewT x.1]⟩
theorem noVer_rep (w : World) (F : Nat -> Prop) : RepV w F verT noVer (.agg zero9) := by
 have h0 : inR .i64 0 := ⟨by decide, by decide⟩
 refine ⟨rfl, ⟨fun _ => ⟨_, rfl⟩, fun _ => rfl⟩, ⟨rfl, h0⟩, ⟨⟨rfl, h0⟩, ⟨rfl, h0⟩, ⟨rfl, h0⟩, ⟨rfl, h0⟩, trivial⟩, ?_, ?_, ?_, ⟨rfl, h0⟩, trivial⟩
 all_goals exact ⟨none, 0, rfl, Nat.le_refl _, Nat.zero_le _, fun i x hx => by simp [noVer] at hx⟩
theorem rep_pair2 {w : World} {F : Nat -> Prop} {x : verT.den} {n : Int} {u : Value} (h : RepV w F verT x u) (hn : -9223372036854775808 <= n /\ n <= 9223372036854775807) : RepR w F [verT, i64] (x, n, ()) (.tuple #[u, .int .i64 n]) :=
 ⟨_, rfl, _, _, rfl, h, _, _, rfl, ⟨rfl, ⟨fun h => (by cases h), fun ⟨cs, h⟩ => (by cases h)⟩, rfl, hn⟩, rfl⟩
theorem tarAt_ok : SoundCt Tryz.prog 53 cTarAt := by
 refine ⟨enters (fn := Tryz.f53) (by kernel_rfl) rfl rfl, fun w F xs vs hbd hr hok => ?_⟩
 obtain ⟨⟨l, ut⟩, day, _⟩ := xs
 obtain ⟨va, vs', rfl, hva, vb, vs'', rfl, hvb, hn⟩ := hr
 cases hn
 have hva' : RepV w F tarT (l, ut) va := hva
 have hvb' : RepV w F i64 day vb := hvb
 have hb2 : vb = .int .i64 day := by
  have h : RepA Tryz.prog w F (fun _ _ => True) (encV i64 day) vb := encV_rep hvb'
  exact h.2.1
 subst hb2
 obtain ⟨cs, rfl⟩ := hva'.2.1.1 rfl
 have hs : cs.size = 1 := hva'.1
 obtain ⟨hsl, _⟩ : RepT w F (.sl verT) l (fun j u => cs[j]? = some u) /\ True := ⟨hva'.2.2.1, trivial⟩
 have hcs : cs = #[cs.getD 0 undef] := by
  apply Array.ext
  ·simp [hs]
  ·intro i h1 h2
   have : i = 0 := by omega
   subst this
   simp [Array.getD, hs]
 rw [hcs]
 have hsl' : RepT w F (.sl verT) l (fun _ u => u = cs.getD 0 undef) := by
  obtain ⟨A, c, h1, h2⟩ := hsl
  refine ⟨A, c, ?_, h2⟩
  simp [Array.getD, hs]
  rw [Array.getElem?_eq_getElem (by omega)] at h1
  exact (Option.some.inj h1).symm
 obtain ⟨A, cap, b, off, c, e1, hA, hc, hx⟩ := vers_cells hsl'
 rw [e1]
 obtain ⟨hfew1, hfew2⟩ : fewT (l, ut) := hok
 have key := at_in b off l.length cap day c (fun k => l.getD k verT.dflt) F w hfew1 A (fun h => ⟨(hA h).1, hbd b (hA h).2⟩) hbd hc (fun k W hk hW => by
  obtain ⟨_, h2⟩ := hx k l[k] (List.getElem?_eq_getElem hk)
  have e : l.getD k verT.dflt = l[k] := by rw [List.getD_eq_getElem?_getD, List.getElem?_eq_getElem hk]; rfl
  rw [e]
  exact own_calls hbd hW h2 (hfew2 _ (List.getElem_mem hk)))
 refine (callsIn_wide.1 key).mono ?_
 rintro e w' ⟨he, hbel⟩
 rcases he with ⟨rfl, hno⟩ | ⟨k, d, F', hk, hday, hafter, rfl, hrep, hF'⟩
 ·have hv : verAt day l.reverse = (noVer, 7) := verAt_no fun v hv => by
   obtain ⟨j, hj⟩ := List.getElem?_of_mem hv
   have := hno j (List.getElem?_eq_some_iff.1 hj).1
   dsimp only at this
   rw [(hx j v hj).1] at this
   exact this
  refine ⟨_, F, rfl, hbel, fun _ h => h, fun b hb => ⟨.inl hb, Nat.lt_of_lt_of_le (hbd b hb) hbel.size⟩, ?_⟩
  show RepR w' F [verT, i64] ((verAt day l.reverse).1, (verAt day l.reverse).2, ()) _
  rw [hv]
  exact rep_pair2 (noVer_rep _ _) (n := 7) (by decide)
 ·have hlk : l[k]? = some l[k] := List.getElem?_eq_getElem hk
  have hv : verAt day l.reverse = (l[k], 0) := verAt_yes hlk (by dsimp only at hday; rw [(hx k _ hlk).1] at hday; exact hday) fun j y hj hy => by
   have := hafter j hj (List.getElem?_eq_some_iff.1 hy).1
   dsimp only at this
   rw [(hx j y hy).1] at this
   exact this
  have e : l.getD k verT.dflt = l[k] := by rw [List.getD_eq_getElem?_getD, hlk]; rfl
  dsimp only at hrep
  rw [e] at hrep
  refine ⟨_, fun b => F b ∨ F' b, rfl, hbel, fun _ h => .inl h, fun b hb => ?_, ?_⟩
  ·rcases hb with h | h
   ·exact ⟨.inl h, Nat.lt_of_lt_of_le (hbd b h) hbel.size⟩
   ·exact hF' b h
  ·show RepR w' _ [verT, i64] ((verAt day l.reverse).1, (verAt day l.reverse).2, ()) _
   rw [hv]
   exact rep_pair2 (hrep.mono (fun _ h => .inr h) (fun _ _ => rfl)) (n := 0) (by decide)
attribute [local go_sem] Oper.semAt_some
theorem all1_run (Bn Ba Bo : Nat) (k : Int) (A : Option Addr) (len cap : Nat) (w : World) (hn : Boxed w Bn 3 (.int .i64 k)) (ha : Boxed w Ba 176 (.slice A len cap)) (ho : Boxed w Bo 4 (.bool false)) :
  CallsD Tryz.prog 152 #[.pointer (some ⟨Bn, 0, none⟩), .pointer (some ⟨Ba, 0, none⟩), .pointer (some ⟨Bo, 0, none⟩)] .returning w fun e u' w' =>
   u' = .returning /\ (∃ v, e = .returned v) /\ w' = w.setCell ⟨Bo, 0, none⟩ (.bool (decide (k = len))) := by
 have c1 := hn.cell
 have c2 := ha.cell
 have c3 := ho.cell
 have f3 := ho.frozen
 go_enter_d Tryz.func152, Tryz.ntmps152
 go_wp2
 go_end0
 exact ⟨⟨_, rfl⟩, by rw [Bool.beq_eq_decide_eq]⟩
structure AllI (w : World) (b off cap : Nat) (bs : Nat -> Bool) (k : Nat) (W : World) : Prop where
 x0 : Boxed W w.heap.size 176 (.slice (some ⟨b, off, none⟩) 4 cap)
 x1 : Boxed W (w.heap.size + 1) 4 (.bool false)
 x2 : Boxed W (w.heap.size + 2) 3 (.int .i64 k)
 bel : Below w.heap.size w W
 sz : w.heap.size + 3 <= W.heap.size
 yes : ∀ j, j < k -> bs j = true
structure FourFn (w : World) (b off : Nat) (g : Nat -> Nat) (caps : Nat -> Array Value) (bs : Nat -> Bool) : Prop where
 blk : b < w.heap.size
 cell : ∀ k, k < 4 -> w.cell? ⟨b, off + k, none⟩ = some (.func (.func (g k)) #[] (caps k))
 enter : ∀ k, k < 4 -> ∀ args w, (callFunc (g k) args).run Tryz.prog w = .ok (.enter (g k) args) w
 call : ∀ k, k < 4 -> ∀ W, Below w.heap.size w W -> Calls Tryz.prog (g k) (caps k) W fun e W' => e = .returned (.bool (bs k)) /\ Below W.heap.size W W'
theorem all_end {w W : World} {b off cap : Nat} {bs : Nat -> Bool} {k : Nat} {r : Bool} {a0 a4 a5 a7 a8 a9 a10 a11 a12 a13 a14 a15 a16 a17 a18 : Value} (hi : AllI w b off cap bs k W) (hr : decide ((k : Int) = (4 : Nat)) = r) :
    bodyPostD Tryz.prog Tryz.f118 (fun e w' => e = .returned (.bool r) /\ Below w.heap.size w w') .ret
      { tmps := #[a0, .pointer (some ⟨w.heap.size, 0, none⟩), .pointer (some ⟨w.heap.size + 1, 0, none⟩), .pointer (some ⟨w.heap.size + 1 + 1, 0, none⟩), a4, a5, .func (.func 152) #[] #[.pointer (some ⟨w.heap.size + 1 + 1, 0, none⟩), .pointer (some ⟨w.heap.size, 0, none⟩), .pointer (some ⟨w.heap.size + 1, 0, none⟩)], a7, a8, a9, a10, a11, a12, a13, a14, a15, a16, a17, a18],
        defers := [{ target := .fn (.func 152) #[.pointer (some ⟨w.heap.size + 1 + 1, 0, none⟩), .pointer (some ⟨w.heap.size, 0, none⟩), .pointer (some ⟨w.heap.size + 1, 0, none⟩)], args := #[] }] } W := by
  refine leaves_cons (f := 152) (args := #[.pointer (some ⟨w.heap.size + 2, 0, none⟩), .pointer (some ⟨w.heap.size, 0, none⟩), .pointer (some ⟨w.heap.size + 1, 0, none⟩)]) (by simp) (by simp [go_sem]) ?_
  refine (all1_run (w.heap.size + 2) w.heap.size (w.heap.size + 1) k _ 4 cap W hi.x2 hi.x0 hi.x1).mono ?_
  rintro e u' w'' ⟨rfl, ⟨v, rfl⟩, rfl⟩
  have c := (hi.x1.set (.bool (decide ((k : Int) = (4 : Nat))))).cell
  have hb := hi.bel.setCell (p := ⟨w.heap.size + 1, 0, none⟩) (by show w.heap.size <= w.heap.size + 1; omega) (.bool (decide ((k : Int) = (4 : Nat))))
  rw [hr] at c hb ⊢
  refine ⟨.bool r, ?_, rfl, hb⟩
  simp [results, Tryz.results118, go_sem, c]
set_option maxRecDepth 100000 in
set_option maxHeartbeats 1000000 in
theorem all_run (b off cap : Nat) (g : Nat -> Nat) (caps : Nat -> Array Value) (bs : Nat -> Bool) (w : World) (h : FourFn w b off g caps bs) :
    Calls Tryz.prog 118 #[.slice (some ⟨b, off, none⟩) 4 cap] w fun e w' => e = .returned (.bool (bs 0 && (bs 1 && (bs 2 && bs 3)))) /\ Below w.heap.size w w' := by
  have hmf : ∀ (fn : Fn) (first cap : Array Value) (w : World), (Instr.makeFunc fn first cap).run Tryz.prog w = .ok (.func fn first cap) w := fun _ _ _ _ => rfl
  go_enter_defers Tryz.func118, Tryz.ntmps118
  go_wp2
  have z0 := (Below.heap_alloc ((w.alloc (.cells #[.slice (some ⟨b, off, none⟩) 4 cap] 176)).alloc (.cells #[.bool false] 4)) (.cells #[.int .i64 0] 3) w.heap.size (by simp only [World.size_alloc]; omega)).trans ((Below.heap_alloc _ _ _ (by simp only [World.size_alloc]; omega)).trans (World.alloc_heap_new w (.cells #[.slice (some ⟨b, off, none⟩) 4 cap] 176)))
  have z1' := World.alloc_heap_new (w.alloc (.cells #[.slice (some ⟨b, off, none⟩) 4 cap] 176)) (.cells #[.bool false] 4)
  rw [World.size_alloc] at z1'
  have z1 := (Below.heap_alloc ((w.alloc (.cells #[.slice (some ⟨b, off, none⟩) 4 cap] 176)).alloc (.cells #[.bool false] 4)) (.cells #[.int .i64 0] 3) (w.heap.size + 1) (by simp only [World.size_alloc]; omega)).trans z1'
  have z2 : (((w.alloc (.cells #[.slice (some ⟨b, off, none⟩) 4 cap] 176)).alloc (.cells #[.bool false] 4)).alloc (.cells #[.int .i64 0] 3)).heap[w.heap.size + 2]? = some (.cells #[.int .i64 0] 3 (0, 0)) := by
    have := World.alloc_heap_new ((w.alloc (.cells #[.slice (some ⟨b, off, none⟩) 4 cap] 176)).alloc (.cells #[.bool false] 4)) (.cells #[.int .i64 0] 3)
    rwa [World.size_alloc, World.size_alloc] at this
  have hbel : Below w.heap.size w (((w.alloc (.cells #[.slice (some ⟨b, off, none⟩) 4 cap] 176)).alloc (.cells #[.bool false] 4)).alloc (.cells #[.int .i64 0] 3)) := (((Below.refl _ w).alloc (Nat.le_refl _) _).alloc (by simp) _).alloc (by simp; omega) _
  have hsz : (((w.alloc (.cells #[.slice (some ⟨b, off, none⟩) 4 cap] 176)).alloc (.cells #[.bool false] 4)).alloc (.cells #[.int .i64 0] 3)).heap.size = w.heap.size + 3 := by simp
  have hI0 : AllI w b off cap bs 0 (((w.alloc (.cells #[.slice (some ⟨b, off, none⟩) 4 cap] 176)).alloc (.cells #[.bool false] 4)).alloc (.cells #[.int .i64 0] 3)) := ⟨z0, z1, z2, hbel, by omega, fun j hj => by omega⟩
  go_loopw [9] (fun i wr => ∃ k : Nat, k <= 4 /\ i = .int .i64 k /\ AllI w b off cap bs k wr)
    (fun i _ => 4 - (intOf i).toNat)
  case atStart => exact ⟨0, by omega, rfl, hI0⟩
  case round =>
    obtain ⟨k, hk, rfl, hi⟩ := hrel
    by_cases hlt : k < 4
    · have hc : wr.cell? ⟨b, off + k, none⟩ = some (.func (.func (g k)) #[] (caps k)) := (hi.bel.cell (p := ⟨b, off + k, none⟩) h.blk).trans (h.cell k hlt)
      have he := h.enter k hlt
      have c2 := hi.x2.cell
      have f2 := hi.x2.frozen
      go_wp2
      refine (h.call k hlt wr hi.bel).mono ?_
      rintro e w1 ⟨rfl, hb1⟩
      have hs := hi.sz
      have y0 : Boxed w1 _ _ _ := (hb1.block _ (by omega)).trans hi.x0
      have y1 : Boxed w1 _ _ _ := (hb1.block (w.heap.size + 1) (by omega)).trans hi.x1
      have y2 : Boxed w1 _ _ _ := (hb1.block (w.heap.size + 2) (by omega)).trans hi.x2
      have hi1 : AllI w b off cap bs k w1 := ⟨y0, y1, y2, hi.bel.trans (hb1.mono hi.bel.size), Nat.le_trans hi.sz hb1.size, hi.yes⟩
      have d2 := y2.cell
      have e2 := y2.frozen
      clear hc he c2 f2
      cases hbk : bs k with
      | false =>
        go_wp2
        refine all_end hi1 ?_
        have h4 : ¬ ((k : Int) = (4 : Nat)) := by omega
        rw [decide_eq_false h4]
        have : k = 0 ∨ k = 1 ∨ k = 2 ∨ k = 3 := by omega
        rcases this with rfl | rfl | rfl | rfl <;> rw [hbk] <;> simp
      | true =>
        go_wp2
        go_roundw
        case rel => exact ⟨k + 1, by omega, by simp, y0.other (by omega) _, y1.other (by omega) _, y2.set _, hi1.bel.setCell (p := ⟨w.heap.size + 2, 0, none⟩) (by show w.heap.size <= w.heap.size + 2; omega) _, by simp; exact hi1.sz, fun j hj => by
          by_cases hjk : j = k
          · rw [hjk]; exact hbk
          · exact hi.yes j (by omega)⟩
        case measure => simp [intOf]; omega
    · obtain rfl : k = 4 := by omega
      go_wp2
      refine all_end hi ?_
      rw [hi.yes 0 (by omega), hi.yes 1 (by omega), hi.yes 2 (by omega), hi.yes 3 (by omega)]
      rfl
end Go.Proofs.YtplkgghjldndkaaGreat
namespace Go.Proofs.YtplkgghjldndkaaGreat
open Go Go.Ab Go.RowKit Go.Proofs Go.Shelf
attribute [local go_sem] Oper.semAt_some
noncomputable def CI23 : Cx := cx [(58, cRightS), (121, cManyS), (123, cRisk), (125, cCovers)] []
theorem CI23_ok : CxOK Tryz.prog CI23 := cx_ok mixed ⟨rightS_ok, manyS_ok, risk_ok, terms_Covers_ok, trivial⟩ trivial
def tq (k : Nat) (t : termsT.den) : Bool := match k with
 | 0 => (cRightS.f (t.1, ())).1
 | 1 => bif decide ((cManyS.f (t.1, ())).1 ≥ 1) then decide ((cManyS.f (t.1, ())).1 <= 1100) else false
 | 2 => (cRisk.f (t.2.1, ())).1
 | _ => (cCovers.f (t.2.2.1, ())).1
def cTq (k : Nat) : Ct := ⟨[.ptr termsT], [.bool], fun x => (tq k x.1, ()), fun _ => []⟩
theorem tq0_ok : SoundCt Tryz.prog 119 (cTq 0) :=
 convF (fn_sound CI23_ok (Λ := lam0) (fn := Tryz.f119) (fr := fun x => Fr.val (tq 0 x.1, ())) (ps := [.ptr termsT]) (rs := [.bool]) (termsT.dflt, ()) (by kernel_rfl) (fun c E _ => lam0_ok c 0) (fun x => by kernel_rfl)) _ _ (fun _ _ _ _ _ _ => ⟨trivial, rfl⟩)
theorem tq1_ok : SoundCt Tryz.prog 120 (cTq 1) :=
 convF (fn_sound CI23_ok (Λ := lam0) (fn := Tryz.f120) (fr := fun x => Fr.val (tq 1 x.1, ())) (ps := [.ptr termsT]) (rs := [.bool]) (termsT.dflt, ()) (by kernel_rfl) (fun c E _ => lam0_ok c 0) (fun x => by kernel_rfl)) _ _ (fun _ _ _ _ _ _ => ⟨trivial, rfl⟩)
theorem tq2_ok : SoundCt Tryz.prog 122 (cTq 2) :=
 convF (fn_sound CI23_ok (Λ := lam0) (fn := Tryz.f122) (fr := fun x => Fr.val (tq 2 x.1, ())) (ps := [.ptr termsT]) (rs := [.bool]) (termsT.dflt, ()) (by kernel_rfl) (fun c E _ => lam0_ok c 0) (fun x => by kernel_rfl)) _ _ (fun _ _ _ _ _ _ => ⟨trivial, rfl⟩)
theorem tq3_ok : SoundCt Tryz.prog 124 (cTq 3) :=
 convF (fn_sound CI23_ok (Λ := lam0) (fn := Tryz.f124) (fr := fun x => Fr.val (tq 3 x.1, ())) (ps := [.ptr termsT]) (rs := [.bool]) (termsT.dflt, ()) (by kernel_rfl) (fun c E _ => lam0_ok c 0) (fun x => by kernel_rfl)) _ _ (fun _ _ _ _ _ _ => ⟨trivial, rfl⟩)
def tqF : Nat -> Nat
 | 0 => 119
 | 1 => 120
 | 2 => 122
 | _ => 124
theorem tqF_ok : (k : Nat) -> k < 4 -> SoundCt Tryz.prog (tqF k) (cTq k)
 | 0, _ => tq0_ok
 | 1, _ => tq1_ok
 | 2, _ => tq2_ok
 | 3, _ => tq3_ok
 | n + 4, h => absurd h (by omega)
theorem tq_span {a b : Int} (hf : fullS (a, b, ()) = true) : rightS (a, b, ()) = true /\ decide (b - a ≥ 1) = true := by
 obtain ⟨h1, h2, h3⟩ := fullS_iff.1 hf
 refine ⟨?_, ?_⟩
 ·have h2' : a <= b := Int.le_of_lt h2
  simp only [rightS, Bool.and_eq_true, decide_eq_true_eq]
  exact ⟨h1, h2', h3⟩
 ·simp; omega
theorem terms_tq (t : termsT.den) : (tq 0 t && (tq 1 t && (tq 2 t && tq 3 t))) = termsB t := by
 obtain ⟨⟨a, b, _⟩, r, cs, _⟩ := t
 show (rightS (a, b, ()) && ((bif decide (manyS a b ≥ 1) then decide (manyS a b <= 1100) else false) && (riskB r.1 r.2.1 r.2.2.1 r.2.2.2.1 && coversL cs))) = (fullS (a, b, ()) && (decide (b - a <= 1100) && (riskB r.1 r.2.1 r.2.2.1 r.2.2.2.1 && coversL cs)))
 by_cases hf : fullS (a, b, ()) = true
 ·have hm : manyS a b = b - a := if_pos hf
  obtain ⟨hr, hge⟩ := tq_span hf
  rw [hm, hr, hf, hge]
  rfl
 ·have hm : manyS a b = 0 := if_neg hf
  have hf' : fullS (a, b, ()) = false := by simpa using hf
  rw [hm, hf']
  simp
set_option maxRecDepth 100000 in
set_option maxHeartbeats 1000000 in
theorem terms_run (c0 c1 c2 c3 c4 c5 c6 : Value) (R : Ending -> World -> Prop) (w : World)
  (hall : ∀ cap, Calls Tryz.prog 118 #[.slice (some ⟨w.heap.size + 1, 0, none⟩) 4 cap] ((w.alloc (.cells #[c0, c1, c2, c3, c4, c5, c6] 28)).alloc (.cells #[.func (.func (tqF 0)) #[] #[.pointer (some ⟨w.heap.size, 0, none⟩)], .func (.func (tqF 1)) #[] #[.pointer (some ⟨w.heap.size, 0, none⟩)], .func (.func (tqF 2)) #[] #[.pointer (some ⟨w.heap.size, 0, none⟩)], .func (.func (tqF 3)) #[] #[.pointer (some ⟨w.heap.size, 0, none⟩)]] 38)) R)
  (hR : ∀ e w', R e w' -> ∃ r, e = .returned (.bool r)) :
  Calls Tryz.prog 87 #[.agg #[c0, c1, c2, c3, c4, c5, c6]] w R := by
 have hmf : ∀ (fn : Fn) (first cap : Array Value) (w : World), (Instr.makeFunc fn first cap).run Tryz.prog w = .ok (.func fn first cap) w := fun _ _ _ _ => rfl
 go_enter Tryz.func87, Tryz.ntmps87
 go_wp2_with (go_at_call 118; refine (hall 4).mono ?_; rintro e w' hRe; obtain ⟨r, rfl⟩ := hR e w' hRe)
 exact hRe
theorem tRight_ok : SoundCt Tryz.prog 87 cTerms := by
 refine ⟨enters (fn := Tryz.f87) (by kernel_rfl) rfl rfl, fun w F xs vs hbd hr _ => ?_⟩
 obtain ⟨t, _⟩ := xs
 obtain ⟨va, vs', rfl, hva, hn⟩ := hr
 cases hn
 have hva' : RepV w F termsT t va := hva
 obtain ⟨cs, rfl⟩ := hva'.2.1.1 rfl
 have hs : cs.size = 7 := hva'.1
 obtain ⟨c0, c1, c2, c3, c4, c5, c6, rfl⟩ : ∃ c0 c1 c2 c3 c4 c5 c6, cs = #[c0, c1, c2, c3, c4, c5, c6] := by
  refine ⟨cs[0], cs[1], cs[2], cs[3], cs[4], cs[5], cs[6], ?_⟩
  apply Array.ext
  ·simp [hs]
  ·intro i h1 h2
   have : i < 7 := by omega
   match i, this with
   | 0, _ | 1, _ | 2, _ | 3, _ | 4, _ | 5, _ | 6, _ => rfl
 have hsz : ((w.alloc (.cells #[c0, c1, c2, c3, c4, c5, c6] 28)).alloc (.cells #[.func (.func (tqF 0)) #[] #[.pointer (some ⟨w.heap.size, 0, none⟩)], .func (.func (tqF 1)) #[] #[.pointer (some ⟨w.heap.size, 0, none⟩)], .func (.func (tqF 2)) #[] #[.pointer (some ⟨w.heap.size, 0, none⟩)], .func (.func (tqF 3)) #[] #[.pointer (some ⟨w.heap.size, 0, none⟩)]] 38)).heap.size = w.heap.size + 2 := by simp
 have z0 := (Below.heap_alloc (w.alloc (.cells #[c0, c1, c2, c3, c4, c5, c6] 28)) (.cells #[.func (.func (tqF 0)) #[] #[.pointer (some ⟨w.heap.size, 0, none⟩)], .func (.func (tqF 1)) #[] #[.pointer (some ⟨w.heap.size, 0, none⟩)], .func (.func (tqF 2)) #[] #[.pointer (some ⟨w.heap.size, 0, none⟩)], .func (.func (tqF 3)) #[] #[.pointer (some ⟨w.heap.size, 0, none⟩)]] 38) w.heap.size (by simp only [World.size_alloc]; omega)).trans (World.alloc_heap_new w (.cells #[c0, c1, c2, c3, c4, c5, c6] 28))
 have z1 := World.alloc_heap_new (w.alloc (.cells #[c0, c1, c2, c3, c4, c5, c6] 28)) (.cells #[.func (.func (tqF 0)) #[] #[.pointer (some ⟨w.heap.size, 0, none⟩)], .func (.func (tqF 1)) #[] #[.pointer (some ⟨w.heap.size, 0, none⟩)], .func (.func (tqF 2)) #[] #[.pointer (some ⟨w.heap.size, 0, none⟩)], .func (.func (tqF 3)) #[] #[.pointer (some ⟨w.heap.size, 0, none⟩)]] 38)
 have hbel : Below w.heap.size w ((w.alloc (.cells #[c0, c1, c2, c3, c4, c5, c6] 28)).alloc (.cells #[.func (.func (tqF 0)) #[] #[.pointer (some ⟨w.heap.size, 0, none⟩)], .func (.func (tqF 1)) #[] #[.pointer (some ⟨w.heap.size, 0, none⟩)], .func (.func (tqF 2)) #[] #[.pointer (some ⟨w.heap.size, 0, none⟩)], .func (.func (tqF 3)) #[] #[.pointer (some ⟨w.heap.size, 0, none⟩)]] 38)) := ((Below.refl _ w).alloc (Nat.le_refl _) _).alloc (by simp) _
 refine (terms_run c0 c1 c2 c3 c4 c5 c6 (fun e w' => e = .returned (.bool (termsB t)) /\ Below w.heap.size w w') w (fun cap => ?_) (fun e w' h => ⟨_, h.1⟩)).mono ?_
 ·rw [World.size_alloc] at z1
  generalize ((w.alloc (.cells #[c0, c1, c2, c3, c4, c5, c6] 28)).alloc (.cells #[.func (.func (tqF 0)) #[] #[.pointer (some ⟨w.heap.size, 0, none⟩)], .func (.func (tqF 1)) #[] #[.pointer (some ⟨w.heap.size, 0, none⟩)], .func (.func (tqF 2)) #[] #[.pointer (some ⟨w.heap.size, 0, none⟩)], .func (.func (tqF 3)) #[] #[.pointer (some ⟨w.heap.size, 0, none⟩)]] 38)) = W0 at *
  have hf : FourFn W0 (w.heap.size + 1) 0 tqF (fun _ => #[.pointer (some ⟨w.heap.size, 0, none⟩)]) (fun k => tq k t) := by
   refine ⟨by omega, fun k hk => ?_, fun k hk => (tqF_ok k hk).1, fun k hk W hW => ?_⟩
   ·rw [Nat.zero_add, cell_of_block z1 k]
    match k, hk with
    | 0, _ | 1, _ | 2, _ | 3, _ => rfl
   ·have hz : W.heap[w.heap.size]? = _ := (hW.block _ (by omega)).trans z0
    have hrep : RepT W (fun b => F b ∨ b = w.heap.size) termsT t (fun j u => W.cell? ((⟨w.heap.size, 0, none⟩ : Addr).add j) = some u) := by
     refine hva'.2.2.mono (fun _ h => .inl h) (fun b hb => (hW.block b (by have := hbd b hb; omega)).trans (hbel.block b (hbd b hb))) fun j u _ hu => ?_
     have e : (⟨w.heap.size, 0, none⟩ : Addr).add j = ⟨w.heap.size, j, none⟩ := by unfold Addr.add; split <;> simp_all
     rw [e, cell_of_block hz j]
     exact hu
    refine ((tqF_ok k hk).2 W (fun b => F b ∨ b = w.heap.size) (t, ()) [.pointer (some ⟨w.heap.size, 0, none⟩)] (fun b hb => ?_) ⟨_, [], rfl, ⟨⟨w.heap.size, 0, none⟩, rfl, .inr rfl, hrep⟩, rfl⟩ trivial).mono ?_
    ·have := hW.size
     rcases hb with h | h
     ·have := hbd b h; omega
     ·omega
    ·rintro e W' ⟨v, F', rfl, hb', _, _, hv⟩
     have hv' : RepA Tryz.prog W' F' (fun _ _ => True) (encV .bool (tq k t)) v := encV_rep hv
     exact ⟨by rw [show v = .bool (tq k t) from hv'.2], hb'⟩
  refine (all_run (w.heap.size + 1) 0 cap tqF _ (fun k => tq k t) W0 hf).mono ?_
  rintro e w' ⟨rfl, hb⟩
  rw [terms_tq]
  exact ⟨rfl, hbel.trans (hb.mono (by omega))⟩
 ·rintro e w' ⟨rfl, hb⟩
  exact ⟨_, F, rfl, hb, fun _ h => h, fun b h => ⟨.inl h, Nat.lt_of_lt_of_le (hbd b h) hb.size⟩, rfl, ⟨fun h => (by cases h), fun ⟨cs, h⟩ => (by cases h)⟩, rfl⟩
end Go.Proofs.YtplkgghjldndkaaGreat
namespace Go.Proofs.YtplkgghjldndkaaGreat
open Go Go.Ab Go.RowKit Go.Proofs
attribute [local go_sem] Oper.semAt_some
abbrev chkL : List (Int × Nat) := [(1, 140), (2, 141), (3, 142), (4, 143)]
def FnMap (w : World) (r : Nat) (es : List (Int × Nat)) : Prop := ∃ arr ck, w.heap[r]? = some (.map arr ck) /\ arr.toList.map (fun e => (e.key, e.val)) = es.map (fun x => (Value.int .i64 x.1, Value.func (.func x.2) #[] #[]))
theorem insert_new {P : Program} {w : World} {t kt et : TypeId} {r f : Nat} {es : List (Int × Nat)} {n : Int} (ht : P.underlying t = some (.map kt et)) (hk : P.underlying kt = some (.int .i64))
  (h : FnMap w r es) (hn : es.find? (fun x => x.1 == n) = none) :
  ∃ w', (Instr.mapUpdate t (.map (some r)) (.int .i64 n) (.func (.func f) #[] #[])).run P w = .ok () w' /\ FnMap w' r (es ++ [(n, f)]) /\ w'.heap.size = w.heap.size /\ (∀ b, b ≠ r -> w'.heap[b]? = w.heap[b]?) /\ w'.os = w.os /\ w'.tape = w.tape /\ w'.output = w.output := by
 obtain ⟨arr, ck, hr, he⟩ := h
 obtain ⟨j, hj⟩ := findNow_run (n := n) arr.toList es 0 he
 rw [hn] at hj
 have hck : (Instr.checkKey false 10000 kt (.int .i64 n)).run P w = .ok () w := checkKey_int hk false 9999 n
 have hob : (getObj r).run P w = .ok (.map arr ck) w := by simp [getObj, Sem.run, hr]
 have hlt : r < w.heap.size := (Array.getElem?_eq_some_iff.1 hr).1
 refine ⟨{ w with heap := w.heap.setIfInBounds r (.map (arr.push { key := .int .i64 n, val := .func (.func f) #[] #[], born := ck }) (ck + 1)) }, ?_, ?_, ?_, ?_, rfl, rfl, rfl⟩
 ·simp [Instr.mapUpdate, run_underlying ht, hob, hck, Instr.findKey, run_underlying hk, hj, Go.MapKept.run_setObj_map _ hr]
 ·refine ⟨_, _, by simp [hlt]; exact ⟨rfl, rfl⟩, ?_⟩
  simp [he]
 ·simp
 ·intro b hb
  simp [Array.getElem?_setIfInBounds, Ne.symm hb]
theorem under_ck : Tryz.prog.underlying 142 = some (.map 3 109) := by kernel_rfl
theorem under_i : Tryz.prog.underlying 3 = some (.int .i64) := by kernel_rfl
set_option maxRecDepth 100000 in
set_option maxHeartbeats 1000000 in
theorem checks_run (w : World) : Calls Tryz.prog 104 #[] w fun e w' => e = .returned (.map (some w.heap.size)) /\ FnMap w' w.heap.size chkL /\ Below w.heap.size w w' /\ w'.heap.size = w.heap.size + 1 := by
 have hmm := @run_makeMap Tryz.prog
 have s0 : FnMap (w.alloc (.map #[] 0)) w.heap.size [] := ⟨#[], 0, by show (w.heap.push _)[w.heap.size]? = _; exact Array.getElem?_push_size, rfl⟩
 go_enter Tryz.func104, Tryz.ntmps104
 obtain ⟨w1, r1, m1, z1, o1, a1, b1, c1⟩ := insert_new (n := 1) (f := 140) under_ck under_i s0 rfl
 obtain ⟨w2, r2, m2, z2, o2, a2, b2, c2⟩ := insert_new (n := 2) (f := 141) under_ck under_i m1 rfl
 obtain ⟨w3, r3, m3, z3, o3, a3, b3, c3⟩ := insert_new (n := 3) (f := 142) under_ck under_i m2 rfl
 obtain ⟨w4, r4, m4, z4, o4, a4, b4, c4⟩ := insert_new (n := 4) (f := 143) under_ck under_i m3 rfl
 go_wp2
 go_ret
 refine ⟨rfl, m4, ⟨?_, ?_, ?_, ?_, ?_⟩, ?_⟩
 ·rw [a4, a3, a2, a1]; rfl
 ·rw [b4, b3, b2, b1]; rfl
 ·rw [c4, c3, c2, c1]; rfl
 ·rw [z4, z3, z2, z1, World.alloc, Array.size_push]; omega
 ·intro b hb
  rw [o4 b (by omega), o3 b (by omega), o2 b (by omega), o1 b (by omega), World.alloc]
  rw [Array.getElem?_push_lt hb, Array.getElem?_eq_getElem hb]
 ·rw [z4, z3, z2, z1, World.alloc, Array.size_push]
def cChecks : Ct := ⟨[], [.fm chkL], fun _ => ((), ()), fun _ => []⟩
theorem checks_ok : SoundCt Tryz.prog 104 cChecks := by
 refine ⟨enters (fn := Tryz.f104) (by kernel_rfl) rfl rfl, fun w F xs vs hb hr _ => ?_⟩
 have hv : vs = [] := hr
 subst hv
 refine (checks_run w).mono ?_
 rintro e w' ⟨rfl, ⟨arr, ck, hr, he⟩, hbel, hsz⟩
 refine ⟨_, fun b => F b ∨ b = w.heap.size, rfl, hbel, fun b h => .inl h, fun b h => ⟨h.elim .inl (fun h => .inr (by omega)), h.elim (fun h => by have := hb b h; omega) (fun h => by omega)⟩, ?_⟩
 refine ⟨rfl, ⟨fun h => (by cases h), fun ⟨cs, h⟩ => (by cases h)⟩, w.heap.size, arr, ck, rfl, .inr rfl, hr, he⟩
end Go.Proofs.YtplkgghjldndkaaGreat
namespace Go.Proofs.YtplkgghjldndkaaGreat
open Go Go.Ab Go.RowKit Go.Proofs
noncomputable def CI13 : Cx := cx [(104, cChecks), (105, cDay), (140, cCk1), (141, cCk2), (142, cCk3), (143, cCk4)] []
theorem CI13_ok : CxOK Tryz.prog CI13 := cx_ok mixed ⟨checks_ok, day_ok, ck1_ok, ck2_ok, ck3_ok, ck4_ok, trivial⟩ trivial
def chG (c : changeT.den) : Bool := bif bif (chkL.find? (fun x => x.1 == c.2.2.1)).isSome then (cDay.f (c.1, ())).1 else false then (cDay.f (c.2.1, ())).1 else false
def fr_chR (x : denP [.d changeT]) : Fr (denL [.bool]) :=
 Fr.need (chG x.1 = true -> x.1.2.2.1 = 1 -> True)
  (Fr.need (chG x.1 = true -> x.1.2.2.1 ≠ 1 -> (x.1.2.2.1 = 2 -> True) /\ (x.1.2.2.1 ≠ 2 -> (x.1.2.2.1 = 3 -> True) /\ (x.1.2.2.1 ≠ 3 -> x.1.2.2.1 = 4)))
   (Fr.val (bif chG x.1 then (bif x.1.2.2.1 == 1 then cCk1.f (x.1, ()) else bif x.1.2.2.1 == 2 then cCk2.f (x.1, ()) else bif x.1.2.2.1 == 3 then cCk3.f (x.1, ()) else cCk4.f (x.1, ())).1 else false, ())))
theorem chk_some (k : Int) : (chkL.find? (fun x => x.1 == k)).isSome = decide (k = 1 ∨ k = 2 ∨ k = 3 ∨ k = 4) := by
 rw [Bool.eq_iff_iff]
 simp only [List.find?_isSome, chkL, List.mem_cons, List.not_mem_nil, or_false, beq_iff_eq, decide_eq_true_eq]
 constructor
 ·rintro ⟨x, rfl | rfl | rfl | rfl, h⟩
  ·exact .inl h.symm
  ·exact .inr (.inl h.symm)
  ·exact .inr (.inr (.inl h.symm))
  ·exact .inr (.inr (.inr h.symm))
 ·rintro (h | h | h | h)
  ·exact ⟨(1, 140), .inl rfl, h.symm⟩
  ·exact ⟨(2, 141), .inr (.inl rfl), h.symm⟩
  ·exact ⟨(3, 142), .inr (.inr (.inl rfl)), h.symm⟩
  ·exact ⟨(4, 143), .inr (.inr (.inr rfl)), h.symm⟩
theorem chR_eq (c : changeT.den) : (fr_chR (c, ())).ok /\ (fr_chR (c, ())).get = (changeB c, ()) := by
 have hk := chk_some c.2.2.1
 have hg : chG c = true -> c.2.2.1 = 1 ∨ c.2.2.1 = 2 ∨ c.2.2.1 = 3 ∨ c.2.2.1 = 4 := by
  intro h
  unfold chG at h
  rw [hk] at h
  by_cases hd : c.2.2.1 = 1 ∨ c.2.2.1 = 2 ∨ c.2.2.1 = 3 ∨ c.2.2.1 = 4
  ·exact hd
  ·rw [decide_eq_false hd] at h
   cases h
 refine ⟨⟨fun _ _ => trivial, fun h hn => ⟨fun _ => trivial, fun h2 => ⟨fun _ => trivial, fun h3 => ?_⟩⟩, trivial⟩, ?_⟩
 ·rcases hg h with h1 | h1 | h1 | h1
  ·exact absurd h1 hn
  ·exact absurd h1 h2
  ·exact absurd h1 h3
  ·exact h1
 ·show (bif chG c then (bif c.2.2.1 == 1 then (ck1 c, ()) else bif c.2.2.1 == 2 then (ck2 c, ()) else bif c.2.2.1 == 3 then (ck3 c, ()) else (ck4 c, ())).1 else false, ()) = (changeB c, ())
  unfold chG changeB kindB
  rw [hk]
  show ((bif bif bif _ then dayB c.1 else false then dayB c.2.1 else false then _ else false), ()) = _
  by_cases h1 : c.2.2.1 = 1
  ·simp only [h1, true_or, decide_true, cond_true, beq_self_eq_true, if_true]
   cases dayB c.1 <;> cases dayB c.2.1 <;> rfl
  ·by_cases h2 : c.2.2.1 = 2
   ·simp [h2]
    cases dayB c.1 <;> cases dayB c.2.1 <;> rfl
   ·by_cases h3 : c.2.2.1 = 3
    ·simp [h3]
     cases dayB c.1 <;> cases dayB c.2.1 <;> rfl
    ·by_cases h4 : c.2.2.1 = 4
     ·simp [h4]
      cases dayB c.1 <;> cases dayB c.2.1 <;> rfl
     ·simp [h1, h2, h3, h4]
theorem chRight_ok : SoundCt Tryz.prog 71 cChange :=
 conv (fn_sound CI13_ok (Λ := lam0) (fn := Tryz.f71) (fr := fr_chR) (ps := [.d changeT]) (rs := [.bool]) ((changeT.dflt, ())) (by kernel_rfl) (fun c E _ => lam0_ok c 0) (fun x => by kernel_rfl)) _ _
  (fun _ _ x _ _ _ => by
   obtain ⟨c, _⟩ := x
   obtain ⟨h1, h2⟩ := chR_eq c
   exact ⟨h1, h2⟩)
noncomputable def CHR : Cx := cx [(71, cChange), (87, cTerms), (67, cIn)] []
theorem CHR_ok : CxOK Tryz.prog CHR := cx_ok mixed ⟨chRight_ok, tRight_ok, inS_ok, trivial⟩ trivial
abbrev pt_slices_right : Pt := ⟨34, 0, ⟨[(8, .d i64), (7, .d i64), (6, .d (.sl changeT))], [.x 1 31 histT, .r 1 1 0]⟩, ⟨[], [.x 1 31 histT, .r 1 1 0]⟩, ⟨[(2, .d .bool)], []⟩⟩
def fr_slices_right (x : pt_slices_right.M.X) : Fr pt_slices_right.Out :=
 Fr.br (decide (x.1.1 < x.1.2.1)) (Fr.need (0 <= x.1.1 /\ x.1.1 < ((List.length x.1.2.2.1) : Int)) (Fr.br (bif !(cChange.f (((List.getD x.1.2.2.1 (Int.toNat x.1.1) changeT.dflt).1, (List.getD x.1.2.2.1 (Int.toNat x.1.1) changeT.dflt).2.1, (List.getD x.1.2.2.1 (Int.toNat x.1.1) changeT.dflt).2.2.1, ((List.getD x.1.2.2.1 (Int.toNat x.1.1) changeT.dflt).2.2.2.1.1, (List.getD x.1.2.2.1 (Int.toNat x.1.1) changeT.dflt).2.2.2.1.2.1, (List.getD x.1.2.2.1 (Int.toNat x.1.1) changeT.dflt).2.2.2.1.2.2.1, (List.getD x.1.2.2.1 (Int.toNat x.1.1) changeT.dflt).2.2.2.1.2.2.2.1, ()), (List.getD x.1.2.2.1 (Int.toNat x.1.1) changeT.dflt).2.2.2.2.1, (List.getD x.1.2.2.1 (Int.toNat x.1.1) changeT.dflt).2.2.2.2.2.1, ()), ())).1 then true else !(cIn.f ((x.2.1.2.2.1.1.1, x.2.1.2.2.1.1.2.1, ()), (List.getD x.1.2.2.1 (Int.toNat x.1.1) changeT.dflt).2.1, ())).1) (Fr.val (Rd.back ((false, ()), ()))) (Fr.val (Rd.next ((IntKind.i64.wrap (x.1.1 + 1), x.1.2.1, x.1.2.2.1, ()), (x.2.1.1, x.2.1.2.1, ((x.2.1.2.2.1.1.1, x.2.1.2.2.1.1.2.1, ()), (x.2.1.2.2.1.2.1.1, x.2.1.2.2.1.2.1.2.1, x.2.1.2.2.1.2.1.2.2.1, x.2.1.2.2.1.2.1.2.2.2.1, ()), x.2.1.2.2.1.2.2.1, ()), x.2.1.2.2.2.1, ()), ()))))) (Fr.val (Rd.out ((), (x.2.1.1, x.2.1.2.1, ((x.2.1.2.2.1.1.1, x.2.1.2.2.1.1.2.1, ()), (x.2.1.2.2.1.2.1.1, x.2.1.2.2.1.2.1.2.1, x.2.1.2.2.1.2.1.2.2.1, x.2.1.2.2.1.2.1.2.2.2.1, ()), x.2.1.2.2.1.2.2.1, ()), x.2.1.2.2.2.1, ()), ())))
theorem sem_slices_right : Does Tryz.prog (loopF Tryz.f52 0) pt_slices_right.M pt_slices_right fr_slices_right :=
 Does.of_run CHR_ok (bs := 0) (Λ := lam0) rfl rfl rfl (fun E => lam0_ok _ 0) (fun x => by kernel_rfl)
abbrev st_slices_right : Type := denP [] × denM [.x 1 31 histT, .r 1 1 0]
def step_slices_right (e : changeT.den) (s : st_slices_right) : Fr (st_slices_right ⊕ pt_slices_right.R.X) :=
 Fr.br (bif !(cChange.f ((e.1, e.2.1, e.2.2.1, (e.2.2.2.1.1, e.2.2.2.1.2.1, e.2.2.2.1.2.2.1, e.2.2.2.1.2.2.2.1, ()), e.2.2.2.2.1, e.2.2.2.2.2.1, ()), ())).1 then true else !(cIn.f ((s.2.1.2.2.1.1.1, s.2.1.2.2.1.1.2.1, ()), e.2.1, ())).1) (Fr.val (.inr ((false, ()), ()))) (Fr.val (.inl ((), (s.2.1.1, s.2.1.2.1, ((s.2.1.2.2.1.1.1, s.2.1.2.2.1.1.2.1, ()), (s.2.1.2.2.1.2.1.1, s.2.1.2.2.1.2.1.2.1, s.2.1.2.2.1.2.1.2.2.1, s.2.1.2.2.1.2.1.2.2.2.1, ()), s.2.1.2.2.1.2.2.1, ()), s.2.1.2.2.2.1, ()), ())))
def un_slices_right (x : pt_slices_right.M.X) : Int × List changeT.den × st_slices_right := (x.1.1, x.1.2.2.1, x.1.2.2.2, x.2)
def good_slices_right (x : pt_slices_right.M.X) : Prop := x.1.2.1 = (x.1.2.2.1.length : Int)
def out_slices_right (s : st_slices_right) : pt_slices_right.E.X := ((), (s.2.1.1, s.2.1.2.1, ((s.2.1.2.2.1.1.1, s.2.1.2.2.1.1.2.1, ()), (s.2.1.2.2.1.2.1.1, s.2.1.2.2.1.2.1.2.1, s.2.1.2.2.1.2.1.2.2.1, s.2.1.2.2.1.2.1.2.2.2.1, ()), s.2.1.2.2.1.2.2.1, ()), s.2.1.2.2.2.1, ()), ())
def dS_slices_right : st_slices_right := (dfP _, dfM _)
def dR_slices_right : pt_slices_right.R.X := (dfP _, dfM _)
theorem loop_slices_right : Does Tryz.prog (.loop (loopF Tryz.f52 0)) pt_slices_right.M pt_slices_right (FL step_slices_right un_slices_right good_slices_right out_slices_right Rd.back dS_slices_right dR_slices_right) := by
 refine Does.list sem_slices_right step_slices_right un_slices_right good_slices_right out_slices_right Rd.back dS_slices_right dR_slices_right ?_ ?_
 ·rintro ⟨⟨i, n, l, s⟩, m⟩ hg h0 h1 hb e he Q h
  have hg : n = (l.length : Int) := hg
  subst hg
  have h0 : 0 <= i := h0
  have h1 : i < (l.length : Int) := h1
  have hb : (l.length : Int) <= 9223372036854775807 := hb
  have hd : l.getD i.toNat changeT.dflt = e := getD_of he
  have hw := wrap_next h0 h1 hb
  dsimp only [un_slices_right, step_slices_right, fr_slices_right, Fr.satP] at h ⊢
  simp only [hd, hw] at h ⊢
  refine ⟨fun _ => ?_, fun hn => absurd h1 (of_decide_eq_false hn)⟩
  repeat' first
   | exact h
   | exact ⟨h0, h1⟩
   | exact fun _ => ⟨h0, h1⟩
   | exact h _ rfl rfl
   | refine ⟨?_, ?_⟩
   | (intro (hc : _ = true); replace h := h.1 hc)
   | (intro (hc : _ = false); replace h := h.2 hc)
 ·rintro ⟨⟨i, n, l, s⟩, m⟩ hg h1 Q h
  have hg : n = (l.length : Int) := hg
  subst hg
  exact ⟨fun hn => absurd (of_decide_eq_true hn) h1, fun _ => h⟩
def Λ_slices_right (Γ : FuncId -> Option Ct) : St -> Option Tr := pt_slices_right.han Γ pt_slices_right.M (FL step_slices_right un_slices_right good_slices_right out_slices_right Rd.back dS_slices_right dR_slices_right)
def res_slices_right (y : pt_slices_right.M.X) : st_slices_right ⊕ pt_slices_right.R.X := goL step_slices_right ((un_slices_right y).2.1.drop (un_slices_right y).1.toNat) (un_slices_right y).2.2
def okr_slices_right (y : pt_slices_right.M.X) : Prop := okL step_slices_right ((un_slices_right y).2.1.drop (un_slices_right y).1.toNat) (un_slices_right y).2.2
def ff_slices_right (x : denP [.d histT]) : Fr (denL [.bool]) :=
 Fr.need (InL (good_slices_right ((0, ((List.length x.1.2.2.2.1) : Int), x.1.2.2.2.1, ()), (x.1.1, x.1.2.1, ((x.1.2.2.1.1.1, x.1.2.2.1.1.2.1, ()), (x.1.2.2.1.2.1.1, x.1.2.2.1.2.1.2.1, x.1.2.2.1.2.1.2.2.1, x.1.2.2.1.2.1.2.2.2.1, ()), x.1.2.2.1.2.2.1, ()), x.1.2.2.2.1, ()), ())) (un_slices_right ((0, ((List.length x.1.2.2.2.1) : Int), x.1.2.2.2.1, ()), (x.1.1, x.1.2.1, ((x.1.2.2.1.1.1, x.1.2.2.1.1.2.1, ()), (x.1.2.2.1.2.1.1, x.1.2.2.1.2.1.2.1, x.1.2.2.1.2.1.2.2.1, x.1.2.2.1.2.1.2.2.2.1, ()), x.1.2.2.1.2.2.1, ()), x.1.2.2.2.1, ()), ()))) (Fr.need (okr_slices_right ((0, ((List.length x.1.2.2.2.1) : Int), x.1.2.2.2.1, ()), (x.1.1, x.1.2.1, ((x.1.2.2.1.1.1, x.1.2.2.1.1.2.1, ()), (x.1.2.2.1.2.1.1, x.1.2.2.1.2.1.2.1, x.1.2.2.1.2.1.2.2.1, x.1.2.2.1.2.1.2.2.2.1, ()), x.1.2.2.1.2.2.1, ()), x.1.2.2.2.1, ()), ())) (Fr.br (isL (res_slices_right ((0, ((List.length x.1.2.2.2.1) : Int), x.1.2.2.2.1, ()), (x.1.1, x.1.2.1, ((x.1.2.2.1.1.1, x.1.2.2.1.1.2.1, ()), (x.1.2.2.1.2.1.1, x.1.2.2.1.2.1.2.1, x.1.2.2.1.2.1.2.2.1, x.1.2.2.1.2.1.2.2.2.1, ()), x.1.2.2.1.2.2.1, ()), x.1.2.2.2.1, ()), ()))) (Fr.val (bif (cTerms.f ((((out_slices_right (getL dS_slices_right (res_slices_right ((0, ((List.length x.1.2.2.2.1) : Int), x.1.2.2.2.1, ()), (x.1.1, x.1.2.1, ((x.1.2.2.1.1.1, x.1.2.2.1.1.2.1, ()), (x.1.2.2.1.2.1.1, x.1.2.2.1.2.1.2.1, x.1.2.2.1.2.1.2.2.1, x.1.2.2.1.2.1.2.2.2.1, ()), x.1.2.2.1.2.2.1, ()), x.1.2.2.2.1, ()), ())))).2.1.2.2.1.1.1, (out_slices_right (getL dS_slices_right (res_slices_right ((0, ((List.length x.1.2.2.2.1) : Int), x.1.2.2.2.1, ()), (x.1.1, x.1.2.1, ((x.1.2.2.1.1.1, x.1.2.2.1.1.2.1, ()), (x.1.2.2.1.2.1.1, x.1.2.2.1.2.1.2.1, x.1.2.2.1.2.1.2.2.1, x.1.2.2.1.2.1.2.2.2.1, ()), x.1.2.2.1.2.2.1, ()), x.1.2.2.2.1, ()), ())))).2.1.2.2.1.1.2.1, ()), ((out_slices_right (getL dS_slices_right (res_slices_right ((0, ((List.length x.1.2.2.2.1) : Int), x.1.2.2.2.1, ()), (x.1.1, x.1.2.1, ((x.1.2.2.1.1.1, x.1.2.2.1.1.2.1, ()), (x.1.2.2.1.2.1.1, x.1.2.2.1.2.1.2.1, x.1.2.2.1.2.1.2.2.1, x.1.2.2.1.2.1.2.2.2.1, ()), x.1.2.2.1.2.2.1, ()), x.1.2.2.2.1, ()), ())))).2.1.2.2.1.2.1.1, (out_slices_right (getL dS_slices_right (res_slices_right ((0, ((List.length x.1.2.2.2.1) : Int), x.1.2.2.2.1, ()), (x.1.1, x.1.2.1, ((x.1.2.2.1.1.1, x.1.2.2.1.1.2.1, ()), (x.1.2.2.1.2.1.1, x.1.2.2.1.2.1.2.1, x.1.2.2.1.2.1.2.2.1, x.1.2.2.1.2.1.2.2.2.1, ()), x.1.2.2.1.2.2.1, ()), x.1.2.2.2.1, ()), ())))).2.1.2.2.1.2.1.2.1, (out_slices_right (getL dS_slices_right (res_slices_right ((0, ((List.length x.1.2.2.2.1) : Int), x.1.2.2.2.1, ()), (x.1.1, x.1.2.1, ((x.1.2.2.1.1.1, x.1.2.2.1.1.2.1, ()), (x.1.2.2.1.2.1.1, x.1.2.2.1.2.1.2.1, x.1.2.2.1.2.1.2.2.1, x.1.2.2.1.2.1.2.2.2.1, ()), x.1.2.2.1.2.2.1, ()), x.1.2.2.2.1, ()), ())))).2.1.2.2.1.2.1.2.2.1, (out_slices_right (getL dS_slices_right (res_slices_right ((0, ((List.length x.1.2.2.2.1) : Int), x.1.2.2.2.1, ()), (x.1.1, x.1.2.1, ((x.1.2.2.1.1.1, x.1.2.2.1.1.2.1, ()), (x.1.2.2.1.2.1.1, x.1.2.2.1.2.1.2.1, x.1.2.2.1.2.1.2.2.1, x.1.2.2.1.2.1.2.2.2.1, ()), x.1.2.2.1.2.2.1, ()), x.1.2.2.2.1, ()), ())))).2.1.2.2.1.2.1.2.2.2.1, ()), (out_slices_right (getL dS_slices_right (res_slices_right ((0, ((List.length x.1.2.2.2.1) : Int), x.1.2.2.2.1, ()), (x.1.1, x.1.2.1, ((x.1.2.2.1.1.1, x.1.2.2.1.1.2.1, ()), (x.1.2.2.1.2.1.1, x.1.2.2.1.2.1.2.1, x.1.2.2.1.2.1.2.2.1, x.1.2.2.1.2.1.2.2.2.1, ()), x.1.2.2.1.2.2.1, ()), x.1.2.2.2.1, ()), ())))).2.1.2.2.1.2.2.1, ()), ())).1 then decide (((List.length (out_slices_right (getL dS_slices_right (res_slices_right ((0, ((List.length x.1.2.2.2.1) : Int), x.1.2.2.2.1, ()), (x.1.1, x.1.2.1, ((x.1.2.2.1.1.1, x.1.2.2.1.1.2.1, ()), (x.1.2.2.1.2.1.1, x.1.2.2.1.2.1.2.1, x.1.2.2.1.2.1.2.2.1, x.1.2.2.1.2.1.2.2.2.1, ()), x.1.2.2.1.2.2.1, ()), x.1.2.2.2.1, ()), ())))).2.1.2.2.2.1) : Int) <= 2000) else false, ())) (Fr.val ((getR dR_slices_right (res_slices_right ((0, ((List.length x.1.2.2.2.1) : Int), x.1.2.2.2.1, ()), (x.1.1, x.1.2.1, ((x.1.2.2.1.1.1, x.1.2.2.1.1.2.1, ()), (x.1.2.2.1.2.1.1, x.1.2.2.1.2.1.2.1, x.1.2.2.1.2.1.2.2.1, x.1.2.2.1.2.1.2.2.2.1, ()), x.1.2.2.1.2.2.1, ()), x.1.2.2.2.1, ()), ()))).1.1, ()))))
theorem ff_slices_right_ok : SoundCt Tryz.prog 52 ⟨[.d histT], [.bool], fun xs => (ff_slices_right xs).get, fun xs => [(ff_slices_right xs).ok]⟩ :=
 fn_sound CHR_ok (Λ := (fun _ => Λ_slices_right CHR.Γ)) (fn := Tryz.f52) (dfP [.d histT]) (by kernel_rfl) (fun c E hc => lam1f hc (by kernel_rfl) (b := loopF Tryz.f52 0) (by kernel_rfl) (Does.han CHR_ok rfl loop_slices_right)) (fun x => by kernel_rfl)
theorem sr_step (e : changeT.den) (s : st_slices_right) : (step_slices_right e s).get = if (changeB e && inB s.2.1.2.2.1.1.1 s.2.1.2.2.1.1.2.1 e.2.1) = true then .inl s else .inr ((false, ()), ()) := by
 show (if (bif !(changeB e) then true else !(inB s.2.1.2.2.1.1.1 s.2.1.2.2.1.1.2.1 e.2.1)) = true then _ else _) = _
 cases changeB e <;> cases inB s.2.1.2.2.1.1.1 s.2.1.2.2.1.1.2.1 e.2.1 <;> rfl
theorem endF_id {T σ : Type} (l : List T) (s : σ) : endF (fun (_ : T) (s : σ) => s) l s = s := by
 induction l with
 | nil => rfl
 | cons e r ih => exact ih
theorem sRight_ok : SoundCt Tryz.prog 52 cHist :=
 conv ff_slices_right_ok _ _ (fun w F x vs hr _ => by
  obtain ⟨h, _⟩ := x
  obtain ⟨v, vs', rfl, hv, _⟩ := hr
  have hwf := RepT.wf hv.2.2
  have hlen : (h.2.2.2.1.length : Int) <= 9223372036854775807 := len_big hwf.2.2.2.1.1
  refine ⟨⟨⟨rfl, Int.le_refl _, Int.natCast_nonneg _, hlen⟩, okL_of (step := step_slices_right) (fun e s => ⟨fun _ => trivial, fun _ => trivial⟩) _ _, fun _ => trivial, fun _ => trivial⟩, ?_⟩
  have hres := bool_loop (f := fun _ s => s) sr_step h.2.2.2.1 ((), (h, ()))
  rw [allF_keep2, endF_id] at hres
  have hres' : res_slices_right ((0, (h.2.2.2.1.length : Int), h.2.2.2.1, ()), (h, ())) = if (h.2.2.2.1.all fun c => changeB c && inB h.2.2.1.1.1 h.2.2.1.1.2.1 c.2.1) = true then .inl ((), (h, ())) else .inr ((false, ()), ()) := hres
  show (if isL (res_slices_right ((0, (h.2.2.2.1.length : Int), h.2.2.2.1, ()), (h, ()))) = true then
   ((bif termsB (out_slices_right (getL dS_slices_right (res_slices_right ((0, (h.2.2.2.1.length : Int), h.2.2.2.1, ()), (h, ()))))).2.1.2.2.1 then decide (((out_slices_right (getL dS_slices_right (res_slices_right ((0, (h.2.2.2.1.length : Int), h.2.2.2.1, ()), (h, ()))))).2.1.2.2.2.1.length : Int) <= 2000) else false, ()) : Bool × Unit)
   else ((getR dR_slices_right (res_slices_right ((0, (h.2.2.2.1.length : Int), h.2.2.2.1, ()), (h, ())))).1.1, ())) = (histB h, ())
  rw [hres']
  unfold histB
  cases ha : (h.2.2.2.1.all fun c => changeB c && inB h.2.2.1.1.1 h.2.2.1.1.2.1 c.2.1) with
  | false =>
   show ((false, ()) : Bool × Unit) = _
   rw [Bool.and_false]
  | true =>
   show ((bif termsB h.2.2.1 then decide ((h.2.2.2.1.length : Int) <= 2000) else false, ()) : Bool × Unit) = _
   rw [Bool.and_true]
   have : decide ((h.2.2.2.1.length : Int) <= 2000) = decide (h.2.2.2.1.length <= 2000) := by
    rw [Bool.eq_iff_iff]
    simp only [decide_eq_true_eq]
    omega
   rw [this]
   cases termsB h.2.2.1 <;> rfl)
abbrev bitsW : List (FuncId × Ct) := [(147, cMul), (148, cDivW)]
theorem bitsW_ok : AllCt Tryz.prog bitsW := ⟨mul_ok, divW_ok, trivial⟩
noncomputable def CW1 : Cx := cx bitsW []
noncomputable def CW2 : Cx := cxK bitsW [] (inlK Tryz.prog CW1 XiN)
noncomputable def CW3 : Cx := cxK bitsW [] (inlK Tryz.prog CW2 XiO)
theorem CW1_ok : CxOK Tryz.prog CW1 := cx_ok mixed bitsW_ok trivial
theorem CW2_ok : CxOK Tryz.prog CW2 := cxK_ok mixed bitsW_ok trivial (inlK_ok CW1_ok XiN_ok)
theorem CW3_ok : CxOK Tryz.prog CW3 := cxK_ok mixed bitsW_ok trivial (inlK_ok CW2_ok XiO_ok)
def evDW (h l c : Int) : Fr (denL [i64, i64]) :=
 Fr.br (decide (h ≥ c)) (Fr.val (0, 5, ())) (Fr.need ((h = 0 /\ 0 < c) ∨ (c = 10000 /\ h < 10000)) (evT (cDivW.f (h, l, c, ())).1 (cDivW.f (h, l, c, ())).2.1 c))
def frEvenW (x : denP [.d i64, .d i64, .d i64]) : Fr (denL [i64, i64]) :=
 Fr.br (bif bif decide (x.1 < 0) then true else decide (x.2.1 < 0) then true else decide (x.2.2.1 < 0)) (Fr.val (0, 1, ()))
  (Fr.br (x.2.2.1 == 0) (Fr.val (0, 6, ()))
   (evDW (cMul.f (IntKind.u64.wrap x.1, IntKind.u64.wrap x.2.1, ())).1 (cMul.f (IntKind.u64.wrap x.1, IntKind.u64.wrap x.2.1, ())).2.1 (IntKind.u64.wrap x.2.2.1)))
theorem evDW_eq {p c : Int} (hp : 0 <= p) (hc : 0 < c) (hc2 : c <= 9223372036854775807) (h : p < 18446744073709551616 ∨ c = 10000) :
  (evDW (p / 18446744073709551616) (p % 18446744073709551616) c).ok /\ (evDW (p / 18446744073709551616) (p % 18446744073709551616) c).get = if evenQ p c > 4000000000000000000 then (0, 5, ()) else (evenQ p c, 0, ()) := by
 have hsum : p / 18446744073709551616 * 18446744073709551616 + p % 18446744073709551616 = p := by omega
 have hr1 := Int.emod_nonneg p (b := c) (by omega)
 have hr2 := Int.emod_lt_of_pos p hc
 have hq := Int.ediv_nonneg hp (Int.le_of_lt hc)
 unfold evDW
 by_cases hge : p / 18446744073709551616 ≥ c
 ·refine Fr.br_t (decide_eq_true hge) ⟨trivial, ?_⟩
  rcases h with h | h
  ·omega
  ·subst h
   have : evenQ p 10000 > 4000000000000000000 := by
    unfold evenQ
    split <;> omega
   rw [if_pos this]
   rfl
 ·have hneed : (p / 18446744073709551616 = 0 /\ 0 < c) ∨ (c = 10000 /\ p / 18446744073709551616 < 10000) := by
   rcases h with h | h
   ·exact .inl ⟨by omega, hc⟩
   ·exact .inr ⟨h, by omega⟩
  refine Fr.br_f (decide_eq_false hge) (Fr.need_ hneed ?_)
  show (evT ((p / 18446744073709551616 * 18446744073709551616 + p % 18446744073709551616) / c) ((p / 18446744073709551616 * 18446744073709551616 + p % 18446744073709551616) % c) c).ok /\ (evT ((p / 18446744073709551616 * 18446744073709551616 + p % 18446744073709551616) / c) ((p / 18446744073709551616 * 18446744073709551616 + p % 18446744073709551616) % c) c).get = _
  rw [hsum]
  have key := evT_eq (q := p / c) (r := p % c) (c := c) ⟨hr1, hr2⟩ hc2 hq
  refine ⟨key.1, ?_⟩
  rw [key.2]
  rfl
theorem evenW_plain {a b c : Int} (ha : -9223372036854775808 <= a /\ a <= 9223372036854775807) (hb : -9223372036854775808 <= b /\ b <= 9223372036854775807) (hc : -9223372036854775808 <= c /\ c <= 9223372036854775807)
  (hp : 0 <= a -> 0 <= b -> a * b < 18446744073709551616 ∨ c = 10000) : (frEvenW (a, b, c, ())).ok /\ (frEvenW (a, b, c, ())).get = ((evenF a b c).1, (evenF a b c).2, ()) := by
 unfold frEvenW
 simp only [bif3]
 by_cases hn : a < 0 ∨ b < 0 ∨ c < 0
 ·have hd : (decide (a < 0) || (decide (b < 0) || decide (c < 0))) = true := by simpa using hn
  refine Fr.br_t hd ⟨trivial, ?_⟩
  unfold evenF
  rw [if_pos hn]
  rfl
 ·have hd : (decide (a < 0) || (decide (b < 0) || decide (c < 0))) = false := by simpa using hn
  have ha0 : 0 <= a := by omega
  have hb0 : 0 <= b := by omega
  have hc0 : 0 <= c := by omega
  have hab0 : 0 <= a * b := Int.mul_nonneg ha0 hb0
  refine Fr.br_f hd ?_
  rw [show IntKind.u64.wrap a = a from u64w (by omega), show IntKind.u64.wrap b = b from u64w (by omega), show IntKind.u64.wrap c = c from u64w (by omega)]
  unfold evenF
  rw [if_neg hn]
  by_cases hz : c = 0
  ·refine Fr.br_t (by simpa using hz) ⟨trivial, ?_⟩
   rw [if_pos hz]
   rfl
  ·refine Fr.br_f (by simpa using hz) ?_
   rw [if_neg hz]
   have key := evDW_eq (p := a * b) (c := c) hab0 (by omega) hc.2 (hp ha0 hb0)
   refine ⟨key.1, ?_⟩
   show (evDW (a * b / 18446744073709551616) (a * b % 18446744073709551616) c).get = _
   rw [key.2]
   split <;> rfl
def cEvenW : Ct := ⟨[.d i64, .d i64, .d i64], [i64, i64], fun x => ((evenF x.1 x.2.1 x.2.2.1).1, (evenF x.1 x.2.1 x.2.2.1).2, ()), fun x => [0 <= x.1 -> 0 <= x.2.1 -> x.1 * x.2.1 < 18446744073709551616 ∨ x.2.2.1 = 10000]⟩
theorem evenW_ok : SoundCt Tryz.prog 76 cEvenW :=
 flat (ps := [.d i64, .d i64, .d i64]) (rs := [i64, i64]) CW3_ok (fn := Tryz.f76) (fr := frEvenW) (0, 0, 0, ()) (by kernel_rfl) (fun x => by kernel_rfl) _ _
  (fun w F x vs hr hok => by
   obtain ⟨a, b, c, u⟩ := x
   obtain ⟨v1, vs1, rfl, h1, v2, vs2, rfl, h2, v3, vs3, rfl, h3, _⟩ := hr
   exact evenW_plain (i64_of h1) (i64_of h2) (i64_of h3) hok)
def bpF (m b : Int) : Int × Int := evenF m b 10000
def cBp : Ct := ⟨[.d i64, .d i64], [i64, i64], fun x => ((bpF x.1 x.2.1).1, (bpF x.1 x.2.1).2, ()), fun _ => []⟩
noncomputable def CW4 : Cx := cx [(76, cEvenW)] []
theorem CW4_ok : CxOK Tryz.prog CW4 := cx_ok mixed ⟨evenW_ok, trivial⟩ trivial
theorem bp_ok : SoundCt Tryz.prog 47 cBp :=
 flat (ps := [.d i64, .d i64]) (rs := [i64, i64]) CW4_ok (fn := Tryz.f47) (fr := fun x => Fr.need (0 <= x.1 -> 0 <= x.2.1 -> x.1 * x.2.1 < 18446744073709551616 ∨ (10000 : Int) = 10000) (Fr.val (cEvenW.f (x.1, x.2.1, 10000, ())))) (0, 0, ()) (by kernel_rfl) (fun x => by kernel_rfl) _ _
  (fun w F x vs hr hok => ⟨⟨fun _ _ => .inr rfl, trivial⟩, rfl⟩)
abbrev fiveT : Ty := .pair i64 (.pair i64 (.pair i64 (.pair i64 (.pair i64 .unit))))
def f5 (f : fiveT.den) : List Int := [f.1, f.2.1, f.2.2.1, f.2.2.2.1, f.2.2.2.2.1]
def bpGo : List Int -> Int -> Int × Int
 | [], m => (m, 0)
 | b :: r, m => if (bpF m b).2 = 0 then bpGo r (bpF m b).1 else bpF m b
noncomputable def CQ : Cx := cx [(131, cVer), (123, cRisk), (132, cCover), (133, cBand), (47, cBp)] []
theorem CQ_ok : CxOK Tryz.prog CQ := cx_ok mixed ⟨tVer_ok, risk_ok, cover_ok, band_ok, bp_ok, trivial⟩ trivial
def MQ : LS := ⟨[(8, .d i64), (9, .d i64), (59, .d fiveT), (60, .d i64)], [.x 3 71 verT, .r 3 3 0]⟩
def EQ : LS := ⟨[(8, .d i64), (9, .d i64)], [.x 3 71 verT, .r 3 3 0]⟩
def ptQ : Pt := ⟨79, 1, MQ, EQ, ⟨[], []⟩⟩
def fQ (x : MQ.X) : Fr ptQ.Out :=
 Fr.br (decide (x.1.2.2.2.1 < 5))
  (Fr.need (0 <= x.1.2.2.2.1 /\ x.1.2.2.2.1 < ((5 : Nat) : Int))
   (Fr.br ((cBp.f (x.1.1, (f5 x.1.2.2.1).getD x.1.2.2.2.1.toNat 0, ())).2.1 != 0)
    (Fr.val (Rd.out (((cBp.f (x.1.1, (f5 x.1.2.2.1).getD x.1.2.2.2.1.toNat 0, ())).1, (cBp.f (x.1.1, (f5 x.1.2.2.1).getD x.1.2.2.2.1.toNat 0, ())).2.1, ()), x.2)))
    (Fr.val (Rd.next (((cBp.f (x.1.1, (f5 x.1.2.2.1).getD x.1.2.2.2.1.toNat 0, ())).1, (cBp.f (x.1.1, (f5 x.1.2.2.1).getD x.1.2.2.2.1.toNat 0, ())).2.1, x.1.2.2.1, IntKind.i64.wrap (x.1.2.2.2.1 + 1), ()), x.2)))))
  (Fr.val (Rd.out ((x.1.1, x.1.2.1, ()), x.2)))
theorem semQ : Does Tryz.prog (loopF Tryz.f94 0) MQ ptQ fQ := Does.of_run CQ_ok (bs := 0) rfl rfl rfl (fun _ => lam0_ok _ 0) (fun x => by kernel_rfl)
def InQ (i e : Int) : Prop := 0 <= i /\ i <= 5 /\ e = 0
def FQ (x : MQ.X) : Fr ptQ.Out := Fr.need (InQ x.1.2.2.2.1 x.1.2.1) (Fr.val (.out (((bpGo ((f5 x.1.2.2.1).drop x.1.2.2.2.1.toNat) x.1.1).1, (bpGo ((f5 x.1.2.2.1).drop x.1.2.2.2.1.toNat) x.1.1).2, ()), x.2)))
theorem lawQ (m e i : Int) (f : fiveT.den) (y : denM [.x 3 71 verT, .r 3 3 0]) (hinv : InQ i e) (Q : ptQ.Out -> Prop) (hq : Q (.out (((bpGo ((f5 f).drop i.toNat) m).1, (bpGo ((f5 f).drop i.toNat) m).2, ()), y))) :
  (fQ ((m, e, f, i, ()), y)).satP fun
   | .next x' => InQ x'.1.2.2.2.1 x'.1.2.1 /\ (5 - x'.1.2.2.2.1).toNat < (5 - i).toNat /\ (FQ x').satP Q
   | .out y => Q (.out y)
   | .back z => Q (.back z)
   | .pan p => Q (.pan p) := by
 obtain ⟨h1, h2, rfl⟩ := hinv
 refine ⟨fun hi => ?_, fun hi => ?_⟩
 ·have hi' : i < 5 := of_decide_eq_true hi
  obtain ⟨k, rfl⟩ : ∃ k : Nat, i = k := ⟨i.toNat, by omega⟩
  have hl : k < (f5 f).length := by show k < 5; omega
  have hw : IntKind.i64.wrap ((k : Int) + 1) = k + 1 := IntWalk.i64_in _ (by omega)
  have g1 : (f5 f).getD (k : Int).toNat 0 = (f5 f)[k] := by
   rw [show (k : Int).toNat = k by omega, List.getD_eq_getElem?_getD, List.getElem?_eq_getElem hl]; rfl
  have hd : (f5 f).drop (k : Int).toNat = (f5 f)[k] :: (f5 f).drop (k + 1) := by
   rw [show (k : Int).toNat = k by omega]
   exact List.drop_eq_getElem_cons hl
  rw [hd] at hq
  dsimp only [fQ, Fr.satP]
  rw [g1, hw]
  show (0 <= (k : Int) /\ (k : Int) < ((5 : Nat) : Int)) /\ (((bpF m (f5 f)[k]).2 != 0) = true -> Q (.out (((bpF m (f5 f)[k]).1, (bpF m (f5 f)[k]).2, ()), y))) /\ (((bpF m (f5 f)[k]).2 != 0) = false -> InQ (k + 1) (bpF m (f5 f)[k]).2 /\ (5 - ((k : Int) + 1)).toNat < (5 - (k : Int)).toNat /\ (FQ (((bpF m (f5 f)[k]).1, (bpF m (f5 f)[k]).2, f, (k : Int) + 1, ()), y)).satP Q)
  refine ⟨⟨by omega, by omega⟩, fun hb => ?_, fun hb => ?_⟩
  ·have hb' : ¬ (bpF m (f5 f)[k]).2 = 0 := by simpa using hb
   have e : bpGo ((f5 f)[k] :: (f5 f).drop (k + 1)) m = bpF m (f5 f)[k] := if_neg hb'
   rw [e] at hq
   exact hq
  ·have hb' : (bpF m (f5 f)[k]).2 = 0 := by simpa using hb
   have e : bpGo ((f5 f)[k] :: (f5 f).drop (k + 1)) m = bpGo ((f5 f).drop (k + 1)) (bpF m (f5 f)[k]).1 := if_pos hb'
   rw [e] at hq
   have hI : InQ ((k : Int) + 1) (bpF m (f5 f)[k]).2 := ⟨by omega, by omega, hb'⟩
   refine ⟨hI, by omega, hI, ?_⟩
   have : ((k : Int) + 1).toNat = k + 1 := by omega
   show Q (.out (((bpGo ((f5 f).drop ((k : Int) + 1).toNat) (bpF m (f5 f)[k]).1).1, (bpGo ((f5 f).drop ((k : Int) + 1).toNat) (bpF m (f5 f)[k]).1).2, ()), y))
   rw [this]
   exact hq
 ·have hi' : ¬ i < 5 := of_decide_eq_false hi
  have : i = 5 := by omega
  subst this
  exact hq
theorem loopQ : Does Tryz.prog (.loop (loopF Tryz.f94 0)) MQ ptQ FQ := by
 refine Does.loop (n := 79) (id := 1) semQ (inv := fun x => InQ x.1.2.2.2.1 x.1.2.1) (μ := fun x => (5 - x.1.2.2.2.1).toNat) ?_ (fun x Q h => h.1)
 rintro ⟨⟨m, e, f, i, _⟩, y⟩ hinv Q hq
 exact lawQ m e i f y hinv Q hq.2
def oneL (v : verT.den) (r : riskT.den) (c : coverT.den) : List Int :=
 [([v.2.1.1, v.2.1.2.1, v.2.1.2.2.1, v.2.1.2.2.2.1] : List Int).getD r.1.toNat 0, bandD r.2.2.1 v.2.2.1 10000, v.2.2.2.1.getD r.2.2.2.1.toNat 0, v.2.2.2.2.1.getD c.1.toNat 0, c.2.2.2.2.1]
def oneF (v : verT.den) (r : riskT.den) (c : coverT.den) : Int × Int :=
 if (verB v && (riskB r.1 r.2.1 r.2.2.1 r.2.2.2.1 && coverB c.1 c.2.1 c.2.2.1 c.2.2.2.1 c.2.2.2.2.1)) = true then
  if r.2.2.2.1 ≥ v.2.2.2.1.length then (0, 7) else
   if (bpGo (oneL v r c) r.2.1).2 = 0 then (if (bpGo (oneL v r c) r.2.1).1 < v.2.2.2.2.2.1 then v.2.2.2.2.2.1 else (bpGo (oneL v r c) r.2.1).1, 0) else (0, (bpGo (oneL v r c) r.2.1).2)
 else (0, 1)
def cOne : Ct := ⟨[.d verT, .d riskT, .d coverT], [i64, i64], fun x => ((oneF x.1 x.2.1 x.2.2.1).1, (oneF x.1 x.2.1 x.2.2.1).2, ()), fun _ => []⟩
def frOne (x : denP [.d verT, .d riskT, .d coverT]) : Fr (denL [i64, i64]) :=
 Fr.br (bif bif !(cVer.f (x.1, ())).1 then true else !(cRisk.f (x.2.1, ())).1 then true else !(cCover.f (x.2.2.1, ())).1) (Fr.val (0, 1, ()))
  (Fr.br (decide (x.2.1.2.2.2.1 ≥ x.1.2.2.2.1.length)) (Fr.val (0, 7, ()))
   (Fr.need (0 <= x.2.1.1 /\ x.2.1.1 < ((4 : Nat) : Int))
    (Fr.need (0 <= x.2.1.2.2.2.1 /\ x.2.1.2.2.2.1 < x.1.2.2.2.1.length)
     (Fr.need (0 <= x.2.2.1.1 /\ x.2.2.1.1 < x.1.2.2.2.2.1.length)
      (Fr.need (InQ 0 0)
       (Fr.br ((bpGo (oneL x.1 x.2.1 x.2.2.1) x.2.1.2.1).2 != 0) (Fr.val (0, (bpGo (oneL x.1 x.2.1 x.2.2.1) x.2.1.2.1).2, ()))
        (Fr.val (if (bpGo (oneL x.1 x.2.1 x.2.2.1) x.2.1.2.1).1 < x.1.2.2.2.2.2.1 then x.1.2.2.2.2.2.1 else (bpGo (oneL x.1 x.2.1 x.2.2.1) x.2.1.2.1).1, 0, ()))))))))
theorem one_run : SoundCt Tryz.prog 94 ⟨[.d verT, .d riskT, .d coverT], [i64, i64], fun xs => (frOne xs).get, fun xs => [(frOne xs).ok]⟩ :=
 fn_sound CQ_ok (Λ := fun _ => ptQ.han CQ.Γ MQ FQ) (fn := Tryz.f94) (fr := frOne) (ps := [.d verT, .d riskT, .d coverT]) (rs := [i64, i64]) (verT.dflt, riskT.dflt, coverT.dflt, ()) (by kernel_rfl)
  (fun c E hc => lam1f hc (by kernel_rfl) (b := loopF Tryz.f94 0) (by kernel_rfl) (Does.han CQ_ok rfl loopQ)) (fun x => by kernel_rfl)
theorem not3 (a b c : Bool) : (bif bif !a then true else !b then true else !c) = !(a && (b && c)) := by cases a <;> cases b <;> cases c <;> rfl
theorem verB_peril {v : verT.den} (h : verB v = true) : v.2.2.2.2.1.length = 8 := by
 unfold verB at h
 rw [Bool.and_eq_true] at h
 have h1 := of_decide_eq_true h.1
 exact h1.2.2.2.2.2.2.2
theorem riskB_kind {k v a z : Int} (h : riskB k v a z = true) : 0 <= k /\ k < 4 /\ 0 <= z := by
 have h1 := of_decide_eq_true h
 exact ⟨h1.1, h1.2.1, h1.2.2.2.2.2.2.1⟩
theorem coverB_peril {p l g d s : Int} (h : coverB p l g d s = true) : 0 <= p /\ p < 8 := by
 have h1 := of_decide_eq_true h
 exact ⟨h1.1, h1.2.1⟩
theorem one_eq (v : verT.den) (k val a z : Int) (c : coverT.den) : (frOne (v, (k, val, a, z, ()), c, ())).ok /\ (frOne (v, (k, val, a, z, ()), c, ())).get = ((oneF v (k, val, a, z, ()) c).1, (oneF v (k, val, a, z, ()) c).2, ()) := by
 obtain ⟨p, l, g, d, s, _⟩ := c
 unfold frOne oneF
 have e0 : (bif bif !(cVer.f (v, ())).1 then true else !(cRisk.f ((k, val, a, z, ()), ())).1 then true else !(cCover.f ((p, l, g, d, s, ()), ())).1) = !(verB v && (riskB k val a z && coverB p l g d s)) := not3 _ _ _
 by_cases h : (verB v && (riskB k val a z && coverB p l g d s)) = true
 ·rw [if_pos h]
  refine Fr.br_f (by rw [e0, h]; rfl) ?_
  rw [Bool.and_eq_true, Bool.and_eq_true] at h
  obtain ⟨h1, h2, h3⟩ := h
  obtain ⟨r1, r2, r3⟩ := riskB_kind h2
  obtain ⟨c1, c2⟩ := coverB_peril h3
  have hp := verB_peril h1
  by_cases hz : z ≥ (v.2.2.2.1.length : Int)
  ·rw [if_pos hz]
   exact Fr.br_t (decide_eq_true hz) ⟨trivial, rfl⟩
  ·rw [if_neg hz]
   have hz' : z < (v.2.2.2.1.length : Int) := Int.not_le.1 hz
   refine Fr.br_f (decide_eq_false hz) (Fr.need_ ⟨r1, by omega⟩ (Fr.need_ ⟨r3, hz'⟩ (Fr.need_ ⟨c1, ?_⟩ (Fr.need_ ⟨by omega, by omega, rfl⟩ ?_))))
   ·show p < (v.2.2.2.2.1.length : Int)
    rw [hp]
    exact c2
   ·by_cases hb : (bpGo (oneL v (k, val, a, z, ()) (p, l, g, d, s, ())) val).2 = 0
    ·have hb' : ((bpGo (oneL v (k, val, a, z, ()) (p, l, g, d, s, ())) val).2 != 0) = false := by rw [hb]; rfl
     rw [if_pos hb]
     exact Fr.br_f hb' ⟨trivial, rfl⟩
    ·have hb' : ((bpGo (oneL v (k, val, a, z, ()) (p, l, g, d, s, ())) val).2 != 0) = true := bne_iff_ne.2 hb
     rw [if_neg hb]
     exact Fr.br_t hb' ⟨trivial, rfl⟩
 ·rw [if_neg h]
  simp only [Bool.not_eq_true] at h
  exact Fr.br_t (by rw [e0, h]; rfl) ⟨trivial, rfl⟩
theorem one_ok : SoundCt Tryz.prog 94 cOne :=
 convF one_run _ _ (fun _ _ x _ _ _ => by
  obtain ⟨v, ⟨k, val, a, z, _⟩, c, _⟩ := x
  exact one_eq v k val a z c)
noncomputable def CY1 : Cx := cx [] []
theorem CY1_ok : CxOK Tryz.prog CY1 := cx_ok (cs := []) (ps := []) mixed trivial trivial
noncomputable def XiY : FuncId -> Option (Func × (Nat -> St -> Option Tr)) := envF [(93, (Tryz.f93, lam0)), (130, (Tryz.f130, lam0))]
theorem XiY_ok : ∀ f fn Λ, XiY f = some (fn, Λ) -> Tryz.prog.funcs[f]? = some fn /\ ∀ c E', fn.body = some c -> LamOK Tryz.prog E' Λ c 0 := fun f fn Λ h => by
 simp only [XiY, envF] at h
 split at h
 ·rename_i hf
  subst hf
  cases h
  exact ⟨by kernel_rfl, fun c E' _ => lam0_ok c 0⟩
 ·split at h
  ·rename_i hf
   subst hf
   cases h
   exact ⟨by kernel_rfl, fun c E' _ => lam0_ok c 0⟩
  ·cases h
noncomputable def CY : Cx := cxK [(94, cOne)] [] (inlK Tryz.prog CY1 XiY)
theorem CY_ok : CxOK Tryz.prog CY := cxK_ok mixed ⟨one_ok, trivial⟩ trivial (inlK_ok CY1_ok XiY_ok)
def MY : LS := ⟨[(16, .d (.sl coverT)), (17, .d i64), (18, .d i64), (9, .d i64), (10, .d .bool)], [.x 3 71 verT, .r 3 3 0, .x 4 25 riskT, .r 4 4 0, .x 160001 3 i64, .g 8 130 [160001]]⟩
def EY : LS := ⟨[(9, .d i64), (10, .d .bool)], []⟩
def ptY : Pt := ⟨43, 0, MY, EY, ⟨[(6, .d i64), (7, .d i64)], []⟩⟩
def fY1 (v : verT.den) (r : riskT.den) (l : List coverT.den) (n i s : Int) (b : Bool) (q : Int) (c : coverT.den) : Fr ptY.Out :=
 Fr.br ((cOne.f (v, r, c, ())).2.1 != 0) (Fr.val (Rd.back ((0, (cOne.f (v, r, c, ())).2.1, ()), ())))
  (Fr.br b
   (Fr.br (decide ((cOne.f (v, r, c, ())).1 > IntKind.i64.wrap (4000000000000000000 - q)))
    (Fr.val (Rd.next ((l, n, IntKind.i64.wrap (i + 1), 0, false, ()), (v, r, q, ()))))
    (Fr.val (Rd.next ((l, n, IntKind.i64.wrap (i + 1), IntKind.i64.wrap (q + (cOne.f (v, r, c, ())).1), true, ()), (v, r, IntKind.i64.wrap (q + (cOne.f (v, r, c, ())).1), ())))))
   (Fr.val (Rd.next ((l, n, IntKind.i64.wrap (i + 1), s, b, ()), (v, r, q, ())))))
def fY (x : MY.X) : Fr ptY.Out :=
 Fr.br (decide (x.1.2.2.1 < x.1.2.1))
  (Fr.need (0 <= x.1.2.2.1 /\ x.1.2.2.1 < x.1.1.length) (fY1 x.2.1 x.2.2.1 x.1.1 x.1.2.1 x.1.2.2.1 x.1.2.2.2.1 x.1.2.2.2.2.1 x.2.2.2.1 (x.1.1.getD x.1.2.2.1.toNat coverT.dflt)))
  (Fr.val (Rd.out ((x.1.2.2.2.1, x.1.2.2.2.2.1, ()), ())))
theorem semY : Does Tryz.prog (loopF Tryz.f55 0) MY ptY fY := Does.of_run CY_ok (bs := 0) rfl rfl rfl (fun _ => lam0_ok _ 0) (fun x => by kernel_rfl)
def yrGo (v : verT.den) (r : riskT.den) : List coverT.den -> Int -> Bool -> Int × Bool × Int
 | [], q, b => (if b = true then q else 0, b, 0)
 | c :: l, q, b => if (oneF v r c).2 = 0 then
   (if b = true then (if (oneF v r c).1 > 4000000000000000000 - q then yrGo v r l q false else yrGo v r l (q + (oneF v r c).1) true) else yrGo v r l q false)
  else (0, false, (oneF v r c).2)
theorem oneF_pos {v : verT.den} {r : riskT.den} {c : coverT.den} (h : (oneF v r c).2 = 0) : 0 <= (oneF v r c).1 := by
 unfold oneF at h ⊢
 split
 ·rename_i h1
  rw [if_pos h1] at h
  split
  ·exact Int.le_refl 0
  ·rename_i h2
   rw [if_neg h2] at h
   split
   ·have hv : verB v = true := (Bool.and_eq_true_iff.1 h1).1
    have hmin : 0 <= v.2.2.2.2.2.1 := by
     unfold verB at hv
     rw [Bool.and_eq_true] at hv
     exact (of_decide_eq_true hv.1).2.2.1
    show 0 <= (if (bpGo (oneL v r c) r.2.1).1 < v.2.2.2.2.2.1 then v.2.2.2.2.2.1 else (bpGo (oneL v r c) r.2.1).1)
    split
    ·exact hmin
    ·rename_i h3
     exact Int.le_trans hmin (Int.not_lt.1 h3)
   ·exact Int.le_refl 0
 ·exact Int.le_refl 0
def InY (l : List coverT.den) (n i s : Int) (b : Bool) (q : Int) : Prop := 0 <= i /\ i <= n /\ n = l.length /\ n <= 9223372036854775807 /\ 0 <= q /\ q <= 4000000000000000000 /\ s = if b = true then q else 0
def outY (y : Int × Bool × Int) : Fr ptY.Out := Fr.br (y.2.2 != 0) (Fr.val (Rd.back ((0, y.2.2, ()), ()))) (Fr.val (Rd.out ((y.1, y.2.1, ()), ())))
def FY (x : MY.X) : Fr ptY.Out := Fr.need (InY x.1.1 x.1.2.1 x.1.2.2.1 x.1.2.2.2.1 x.1.2.2.2.2.1 x.2.2.2.1) (outY (yrGo x.2.1 x.2.2.1 (x.1.1.drop x.1.2.2.1.toNat) x.2.2.2.1 x.1.2.2.2.2.1))
theorem lawY (v : verT.den) (r : riskT.den) (l : List coverT.den) (n i s : Int) (b : Bool) (q : Int) (hinv : InY l n i s b q) (Q : ptY.Out -> Prop) (hq : (outY (yrGo v r (l.drop i.toNat) q b)).satP Q) :
  (fY ((l, n, i, s, b, ()), (v, r, q, ()))).satP fun
   | .next x' => InY x'.1.1 x'.1.2.1 x'.1.2.2.1 x'.1.2.2.2.1 x'.1.2.2.2.2.1 x'.2.2.2.1 /\ (x'.1.2.1 - x'.1.2.2.1).toNat < (n - i).toNat /\ (FY x').satP Q
   | .out y => Q (.out y)
   | .back z => Q (.back z)
   | .pan p => Q (.pan p) := by
 obtain ⟨h1, h2, rfl, h4, h5, h6, h7⟩ := hinv
 refine ⟨fun hi => ?_, fun hi => ?_⟩
 ·have hi' : i < (l.length : Int) := of_decide_eq_true hi
  obtain ⟨k, rfl⟩ : ∃ k : Nat, i = k := ⟨i.toNat, by omega⟩
  have hl : k < l.length := by omega
  have g1 : l.getD (k : Int).toNat coverT.dflt = l[k] := by
   rw [show (k : Int).toNat = k by omega, List.getD_eq_getElem?_getD, List.getElem?_eq_getElem hl]; rfl
  have hw : IntKind.i64.wrap ((k : Int) + 1) = k + 1 := IntWalk.i64_in _ (by omega)
  have hd : l.drop (k : Int).toNat = l[k] :: l.drop (k + 1) := by
   rw [show (k : Int).toNat = k by omega]
   exact List.drop_eq_getElem_cons hl
  have hn1 : ((k : Int) + 1).toNat = k + 1 := by omega
  rw [hd] at hq
  refine ⟨⟨by omega, hi'⟩, ?_⟩
  show (fY1 v r l l.length k s b q (l.getD (k : Int).toNat coverT.dflt)).satP _
  rw [g1]
  unfold fY1
  rw [hw]
  generalize l[k] = c at *
  have hμ : ((l.length : Int) - ((k : Int) + 1)).toNat < ((l.length : Int) - k).toNat := by omega
  refine ⟨fun he => ?_, fun he => ?_⟩
  ·have he' : ¬ (oneF v r c).2 = 0 := bne_iff_ne.1 he
   have e : yrGo v r (c :: l.drop (k + 1)) q b = (0, false, (oneF v r c).2) := if_neg he'
   rw [e] at hq
   exact hq.1 he
  ·have he' : (oneF v r c).2 = 0 := by
    have : ((oneF v r c).2 != 0) = false := he
    simpa using this
   have hpos := oneF_pos he'
   have e : yrGo v r (c :: l.drop (k + 1)) q b = (if b = true then (if (oneF v r c).1 > 4000000000000000000 - q then yrGo v r (l.drop (k + 1)) q false else yrGo v r (l.drop (k + 1)) (q + (oneF v r c).1) true) else yrGo v r (l.drop (k + 1)) q false) := if_pos he'
   rw [e] at hq
   have hw2 : IntKind.i64.wrap (4000000000000000000 - q) = 4000000000000000000 - q := IntWalk.i64_in _ (by omega)
   refine ⟨fun hb => ?_, fun hb => ?_⟩
   ·rw [if_pos hb] at hq
    rw [hw2]
    refine ⟨fun hg => ?_, fun hg => ?_⟩
    ·have hg' : (oneF v r c).1 > 4000000000000000000 - q := of_decide_eq_true hg
     rw [if_pos hg'] at hq
     have hI : InY l l.length ((k : Int) + 1) 0 false q := ⟨by omega, by omega, rfl, h4, h5, h6, rfl⟩
     refine ⟨hI, hμ, hI, ?_⟩
     show (outY (yrGo v r (l.drop ((k : Int) + 1).toNat) q false)).satP Q
     rw [hn1]
     exact hq
    ·have hg' : ¬ (oneF v r c).1 > 4000000000000000000 - q := of_decide_eq_false hg
     rw [if_neg hg'] at hq
     have hw3 : IntKind.i64.wrap (q + (cOne.f (v, r, c, ())).1) = q + (oneF v r c).1 := IntWalk.i64_in (q + (oneF v r c).1) (by omega)
     rw [hw3]
     have hI : InY l l.length ((k : Int) + 1) (q + (oneF v r c).1) true (q + (oneF v r c).1) := ⟨by omega, by omega, rfl, h4, by omega, by omega, rfl⟩
     refine ⟨hI, hμ, hI, ?_⟩
     show (outY (yrGo v r (l.drop ((k : Int) + 1).toNat) (q + (oneF v r c).1) true)).satP Q
     rw [hn1]
     exact hq
   ·subst hb
    rw [if_neg (by decide)] at hq
    have hI : InY l l.length ((k : Int) + 1) s false q := ⟨by omega, by omega, rfl, h4, h5, h6, h7⟩
    refine ⟨hI, hμ, hI, ?_⟩
    show (outY (yrGo v r (l.drop ((k : Int) + 1).toNat) q false)).satP Q
    rw [hn1]
    exact hq
 ·have hi' : ¬ i < (l.length : Int) := of_decide_eq_false hi
  have e : l.drop i.toNat = [] := List.drop_eq_nil_of_le (by omega)
  rw [e] at hq
  subst h7
  exact hq.2 rfl
theorem loopY : Does Tryz.prog (.loop (loopF Tryz.f55 0)) MY ptY FY := by
 refine Does.loop (n := 43) (id := 0) semY (inv := fun x => InY x.1.1 x.1.2.1 x.1.2.2.1 x.1.2.2.2.1 x.1.2.2.2.2.1 x.2.2.2.1) (μ := fun x => (x.1.2.1 - x.1.2.2.1).toNat) ?_ (fun x Q h => h.1)
 rintro ⟨⟨l, n, i, s, b, _⟩, v, r, q, _⟩ hinv Q hq
 exact lawY v r l n i s b q hinv Q hq.2
def yearF (v : verT.den) (r : riskT.den) (l : List coverT.den) : Int × Int :=
 if (yrGo v r l 0 true).2.2 = 0 then (if (yrGo v r l 0 true).2.1 = true then ((yrGo v r l 0 true).1, 0) else (0, 5)) else (0, (yrGo v r l 0 true).2.2)
def cYear : Ct := ⟨[.d verT, .d riskT, .d (.sl coverT)], [i64, i64], fun x => ((yearF x.1 x.2.1 x.2.2.1).1, (yearF x.1 x.2.1 x.2.2.1).2, ()), fun _ => []⟩
def frYear (x : denP [.d verT, .d riskT, .d (.sl coverT)]) : Fr (denL [i64, i64]) :=
 Fr.need (InY x.2.2.1 x.2.2.1.length 0 0 true 0)
  (Fr.br ((yrGo x.1 x.2.1 x.2.2.1 0 true).2.2 != 0) (Fr.val (0, (yrGo x.1 x.2.1 x.2.2.1 0 true).2.2, ()))
   (Fr.br (!(yrGo x.1 x.2.1 x.2.2.1 0 true).2.1) (Fr.val (0, 5, ())) (Fr.val ((yrGo x.1 x.2.1 x.2.2.1 0 true).1, 0, ()))))
theorem year_run : SoundCt Tryz.prog 55 ⟨[.d verT, .d riskT, .d (.sl coverT)], [i64, i64], fun xs => (frYear xs).get, fun xs => [(frYear xs).ok]⟩ :=
 fn_sound CY_ok (Λ := fun _ => ptY.han CY.Γ MY FY) (fn := Tryz.f55) (fr := frYear) (ps := [.d verT, .d riskT, .d (.sl coverT)]) (rs := [i64, i64]) (verT.dflt, riskT.dflt, [], ()) (by kernel_rfl)
  (fun c E hc => lam1f hc (by kernel_rfl) (b := loopF Tryz.f55 0) (by kernel_rfl) (Does.han CY_ok rfl loopY)) (fun x => by kernel_rfl)
theorem year_ok : SoundCt Tryz.prog 55 cYear :=
 convF year_run _ _ (fun w F x vs hr _ => by
  obtain ⟨v, r, l, _⟩ := x
  obtain ⟨v1, vs1, rfl, _, v2, vs2, rfl, _, v3, vs3, rfl, h3, _⟩ := hr
  have hlen : (l.length : Int) <= 9223372036854775807 := wf_len h3
  have hI : InY l l.length 0 0 true 0 := ⟨by omega, by omega, rfl, hlen, by decide, by decide, rfl⟩
  refine Fr.need_ hI ?_
  show (Fr.br ((yrGo v r l 0 true).2.2 != 0) (Fr.val (0, (yrGo v r l 0 true).2.2, ())) (Fr.br (!(yrGo v r l 0 true).2.1) (Fr.val (0, 5, ())) (Fr.val ((yrGo v r l 0 true).1, 0, ())))  : Fr (denL [i64, i64])).ok /\ (Fr.br ((yrGo v r l 0 true).2.2 != 0) (Fr.val (0, (yrGo v r l 0 true).2.2, ())) (Fr.br (!(yrGo v r l 0 true).2.1) (Fr.val (0, 5, ())) (Fr.val ((yrGo v r l 0 true).1, 0, ())))  : Fr (denL [i64, i64])).get = ((yearF v r l).1, (yearF v r l).2, ())
  unfold yearF
  generalize yrGo v r l 0 true = y
  obtain ⟨s, b, e⟩ := y
  by_cases he : e = 0
  ·subst he
   refine Fr.br_f rfl ?_
   cases b with
   | true => exact Fr.br_f rfl ⟨trivial, rfl⟩
   | false => exact Fr.br_t rfl ⟨trivial, rfl⟩
  ·rw [if_neg he]
   exact Fr.br_t (bne_iff_ne.2 he) ⟨trivial, rfl⟩)
noncomputable def CC1 : Cx := cx [(91, cHolds)] []
theorem CC1_ok : CxOK Tryz.prog CC1 := cx_ok (ps := []) mixed ⟨holds_ok, trivial⟩ trivial
noncomputable def XiC : FuncId -> Option (Func × (Nat -> St -> Option Tr)) := envF [(90, (Tryz.f90, lam0)), (92, (Tryz.f92, lam0))]
theorem XiC_ok : ∀ f fn Λ, XiC f = some (fn, Λ) -> Tryz.prog.funcs[f]? = some fn /\ ∀ c E', fn.body = some c -> LamOK Tryz.prog E' Λ c 0 := fun f fn Λ h => by
 simp only [XiC, envF] at h
 split at h
 ·rename_i hf
  subst hf
  cases h
  exact ⟨by kernel_rfl, fun c E' _ => lam0_ok c 0⟩
 ·split at h
  ·rename_i hf
   subst hf
   cases h
   exact ⟨by kernel_rfl, fun c E' _ => lam0_ok c 0⟩
  ·cases h
noncomputable def CC2 : Cx := cxK [(74, cOrder)] [] (inlK Tryz.prog CC1 XiC)
theorem CC2_ok : CxOK Tryz.prog CC2 := cxK_ok (ps := []) mixed ⟨order_ok, trivial⟩ trivial (inlK_ok CC1_ok XiC_ok)
abbrev msC : List MI := [.x 280001 31 histT, .r 1 280001 0, .x 280003 23 spanT, .r 3 280003 0, .x 280004 80 sliceT, .r 4 280004 0, .y 280005 58 [(some 80, sliceT)], .r 5 280005 0, .g 6 90 [280004, 280005], .x 6 71 verT, .r 10006 6 0]
def MC : LS := ⟨[(26, .d ints), (27, .d i64), (28, .d i64)], msC⟩
def EC : LS := ⟨[], msC⟩
def ptC5 : Pt := ⟨52, 0, MC, EC, ⟨[], []⟩⟩
def lastI (out : List sliceT.den) : Int := IntKind.i64.wrap ((out.length : Int) - 1)
def setTo (s : sliceT.den) (b : Int) : sliceT.den := ((s.1.1, b, ()), s.2)
def endT {α : Type} (s : sliceT.den) (out : List sliceT.den) (day : Int) (K : List sliceT.den -> Fr α) : Fr α :=
 Fr.br (s.1.1 == day) (K out)
  (Fr.need (decide (lastI out ≥ 0) = true -> 0 <= lastI out /\ lastI out < (out.length : Int))
   (Fr.need (decide (lastI out ≥ 0) = true -> (lastI out).toNat < out.length)
    (Fr.br (bif decide (lastI out ≥ 0) then (cHolds.f (out.getD (lastI out).toNat sliceT.dflt, setTo s day, ())).1 else false)
     (Fr.need (0 <= lastI out /\ lastI out < (out.length : Int)) (Fr.need ((lastI out).toNat < out.length) (K (out.set (lastI out).toNat (setTo (out.getD (lastI out).toNat sliceT.dflt) day)))))
     (Fr.need (out.length + [setTo s day].length <= maxLen /\ (out.length + [setTo s day].length) * 88 <= 140737488355328) (K (out ++ [setTo s day]))))))
def doesT {α : Type} (s : sliceT.den) (c : changeT.den) (K : sliceT.den -> Fr α) : Fr α :=
 Fr.br (c.2.2.1 == 1) (K (s.1, s.2.1, c.2.2.2.1, s.2.2.2.1, s.2.2.2.2.1, ()))
  (Fr.br (c.2.2.1 == 2) (Fr.need (([] : List coverT.den).length + c.2.2.2.2.1.length <= maxLen /\ (([] : List coverT.den).length + c.2.2.2.2.1.length) * 40 <= 140737488355328) (K (s.1, s.2.1, s.2.2.1, [] ++ c.2.2.2.2.1, s.2.2.2.2.1, ())))
   (Fr.br (c.2.2.1 == 3) (K (s.1, false, s.2.2.1, s.2.2.2.1, s.2.2.2.2.1, ()))
    (Fr.br (c.2.2.1 == 4) (K (s.1, true, s.2.2.1, s.2.2.2.1, s.2.2.2.2.1, ())) (K s))))
def frC5 (x : MC.X) : Fr ptC5.Out :=
 let l : List Int := x.1.1; let n : Int := x.1.2.1; let i : Int := x.1.2.2.1; let h : histT.den := x.2.1; let sp : spanT.den := x.2.2.1; let s : sliceT.den := x.2.2.2.1; let out : List sliceT.den := x.2.2.2.2.1.1; let v : verT.den := x.2.2.2.2.2.1
 let j : Int := l.getD i.toNat i64.dflt
 Fr.br (decide (i < n))
  (Fr.need (0 <= i /\ i < (l.length : Int))
   (Fr.need (0 <= j /\ j < ((chL h).length : Int))
    (endT s out (chAt h j).2.1 fun out' =>
     Fr.need (0 <= j /\ j < ((chL h).length : Int))
      (doesT (((chAt h j).2.1, s.1.2.1, ()), s.2) (chAt h j) fun s' => Fr.val (Rd.next ((l, n, IntKind.i64.wrap (i + 1), ()), (h, sp, s', (out', ()), v, ())))))))
  (Fr.val (Rd.out ((), (h, sp, s, (out, ()), v, ()))))
theorem semC5 : Does Tryz.prog (loopF Tryz.f54 0) MC ptC5 frC5 := Does.of_run CC2_ok (bs := 280000) rfl rfl rfl (fun _ => lam0_ok _ 0) (fun x => by kernel_rfl)
theorem pushR_eq (s : sliceT.den) : (out : List sliceT.den) -> 0 < out.length -> pushR out s = if holdsB (out.getD (out.length - 1) sliceT.dflt) s = true then out.set (out.length - 1) (setTo (out.getD (out.length - 1) sliceT.dflt) s.1.2.1) else out ++ [s]
 | [], h => absurd h (by decide)
 | [x], _ => rfl
 | x :: y :: r, _ => by
  have ih := pushR_eq s (y :: r) (by simp)
  have e1 : (x :: y :: r).length - 1 = ((y :: r).length - 1) + 1 := by simp
  have e2 : (x :: y :: r).getD ((x :: y :: r).length - 1) sliceT.dflt = (y :: r).getD ((y :: r).length - 1) sliceT.dflt := by
   rw [e1]
   rfl
  show x :: pushR (y :: r) s = _
  rw [ih, e2, e1]
  split
  ·rfl
  ·rfl
theorem pushR_length (s : sliceT.den) : (out : List sliceT.den) -> (pushR out s).length <= out.length + 1
 | [] => by simp [pushR]
 | [x] => by unfold pushR; split <;> simp
 | x :: y :: r => by
  have := pushR_length s (y :: r)
  simp only [pushR, List.length_cons] at this ⊢
  omega
theorem endS_length (s : sliceT.den) (out : List sliceT.den) (day : Int) : (endS s out day).length <= out.length + 1 := by
 unfold endS
 split
 ·omega
 ·exact pushR_length _ _
theorem lastI_eq {out : List sliceT.den} (h : out.length <= 1000000) : lastI out = (out.length : Int) - 1 := IntWalk.i64_in _ (by omega)
theorem endT_sat {α : Type} {s : sliceT.den} {out : List sliceT.den} {day : Int} {K : List sliceT.den -> Fr α} {Q : α -> Prop} (hl : out.length <= 1000000) (h : (K (endS s out day)).satP Q) : (endT s out day K).satP Q := by
 unfold endS at h
 have hw := lastI_eq hl
 have hm : out.length + 1 <= maxLen /\ (out.length + 1) * 88 <= 140737488355328 := ⟨by unfold maxLen; omega, by omega⟩
 refine ⟨fun hb => ?_, fun hb => ?_⟩
 ·have hb' : s.1.1 = day := eq_of_beq (α := Int) hb
  rw [if_pos hb'] at h
  exact h
 ·have hb' : ¬ s.1.1 = day := ne_of_beq_false (α := Int) hb
  rw [if_neg hb'] at h
  refine ⟨fun hd => ?_, fun hd => ?_, ?_⟩
  ·have := of_decide_eq_true hd
   omega
  ·have := of_decide_eq_true hd
   omega
  ·by_cases h0 : 0 < out.length
   ·have hge : decide (lastI out ≥ 0) = true := decide_eq_true (by omega)
    have ht : (lastI out).toNat = out.length - 1 := by omega
    have hp := pushR_eq (setTo s day) out h0
    rw [hge, ht]
    refine ⟨fun hh => ?_, fun hh => ?_⟩
    ·have hh' : holdsB (out.getD (out.length - 1) sliceT.dflt) (setTo s day) = true := hh
     rw [if_pos hh'] at hp
     refine ⟨⟨by omega, by omega⟩, by omega, ?_⟩
     have e : pushR out ((s.1.1, day, ()), s.2) = out.set (out.length - 1) (setTo (out.getD (out.length - 1) sliceT.dflt) day) := hp
     rw [e] at h
     exact h
    ·have hh' : ¬ holdsB (out.getD (out.length - 1) sliceT.dflt) (setTo s day) = true := by
      intro hx
      have : holdsB (out.getD (out.length - 1) sliceT.dflt) (setTo s day) = false := hh
      rw [hx] at this
      cases this
     rw [if_neg hh'] at hp
     have e : pushR out ((s.1.1, day, ()), s.2) = out ++ [setTo s day] := hp
     rw [e] at h
     exact ⟨hm, h⟩
   ·have h00 : out = [] := List.length_eq_zero_iff.1 (by omega)
    subst h00
    have hge : decide (lastI [] ≥ 0) = false := decide_eq_false (by rw [hw]; decide)
    rw [hge]
    exact ⟨fun hh => (by cases hh), fun _ => ⟨hm, h⟩⟩
theorem doesT_sat {α : Type} {s : sliceT.den} {c : changeT.den} {K : sliceT.den -> Fr α} {Q : α -> Prop} (hl : c.2.2.2.2.1.length <= 1000000) (h : (K (doesC s c)).satP Q) : (doesT s c K).satP Q := by
 unfold doesC at h
 have hm : ([] : List coverT.den).length + c.2.2.2.2.1.length <= maxLen /\ (([] : List coverT.den).length + c.2.2.2.2.1.length) * 40 <= 140737488355328 := by
  simp only [List.length_nil, Nat.zero_add]
  exact ⟨by unfold maxLen; omega, by omega⟩
 refine ⟨fun k => ?_, fun k => ⟨fun k2 => ?_, fun k2 => ⟨fun k3 => ?_, fun k3 => ⟨fun k4 => ?_, fun k4 => ?_⟩⟩⟩⟩
 ·have k' : c.2.2.1 = 1 := eq_of_beq (α := Int) k
  rw [if_pos k'] at h
  exact h
 ·have k' : ¬ c.2.2.1 = 1 := ne_of_beq_false (α := Int) k
  have k2' : c.2.2.1 = 2 := eq_of_beq (α := Int) k2
  rw [if_neg k', if_pos k2'] at h
  exact ⟨hm, h⟩
 ·have k' : ¬ c.2.2.1 = 1 := ne_of_beq_false (α := Int) k
  have k2' : ¬ c.2.2.1 = 2 := ne_of_beq_false (α := Int) k2
  have k3' : c.2.2.1 = 3 := eq_of_beq (α := Int) k3
  rw [if_neg k', if_neg k2', if_pos k3'] at h
  exact h
 ·have k' : ¬ c.2.2.1 = 1 := ne_of_beq_false (α := Int) k
  have k2' : ¬ c.2.2.1 = 2 := ne_of_beq_false (α := Int) k2
  have k3' : ¬ c.2.2.1 = 3 := ne_of_beq_false (α := Int) k3
  have k4' : c.2.2.1 = 4 := eq_of_beq (α := Int) k4
  rw [if_neg k', if_neg k2', if_neg k3', if_pos k4'] at h
  exact h
 ·have k' : ¬ c.2.2.1 = 1 := ne_of_beq_false (α := Int) k
  have k2' : ¬ c.2.2.1 = 2 := ne_of_beq_false (α := Int) k2
  have k3' : ¬ c.2.2.1 = 3 := ne_of_beq_false (α := Int) k3
  have k4' : ¬ c.2.2.1 = 4 := ne_of_beq_false (α := Int) k4
  rw [if_neg k', if_neg k2', if_neg k3', if_neg k4'] at h
  exact h
structure InvC5 (l : List Int) (n i : Int) (h : histT.den) (out : List sliceT.den) : Prop where
 i0 : 0 <= i
 il : i <= n
 nl : n = l.length
 few : l.length <= 500000
 inl : ∀ x ∈ l, 0 <= x /\ x < ((chL h).length : Int)
 cov : ∀ c ∈ chL h, c.2.2.2.2.1.length <= 1000000
 outs : (out.length : Int) <= i
def FC5 (x : MC.X) : Fr ptC5.Out :=
 let l : List Int := x.1.1; let n : Int := x.1.2.1; let i : Int := x.1.2.2.1; let h : histT.den := x.2.1; let sp : spanT.den := x.2.2.1; let s : sliceT.den := x.2.2.2.1; let out : List sliceT.den := x.2.2.2.2.1.1; let v : verT.den := x.2.2.2.2.2.1
 Fr.need (InvC5 l n i h out) (Fr.val (Rd.out ((), (h, sp, (goCut ((l.drop i.toNat).map (chAt h)) s out).1, ((goCut ((l.drop i.toNat).map (chAt h)) s out).2, ()), v, ()))))
theorem lawC5 (l : List Int) (n i : Int) (h : histT.den) (sp : spanT.den) (s : sliceT.den) (out : List sliceT.den) (v : verT.den) (hinv : InvC5 l n i h out) (Q : ptC5.Out -> Prop)
  (hq : Q (Rd.out ((), (h, sp, (goCut ((l.drop i.toNat).map (chAt h)) s out).1, ((goCut ((l.drop i.toNat).map (chAt h)) s out).2, ()), v, ())))) :
  (frC5 ((l, n, i, ()), (h, sp, s, (out, ()), v, ()))).satP fun
   | .next x' => InvC5 x'.1.1 x'.1.2.1 x'.1.2.2.1 x'.2.1 x'.2.2.2.2.1.1 /\ ((x'.1.2.1 : Int) - x'.1.2.2.1).toNat < (n - i).toNat /\ (FC5 x').satP Q
   | .out y => Q (.out y)
   | .back z => Q (.back z)
   | .pan p => Q (.pan p) := by
 obtain ⟨h0, h1, rfl, h2, h3, h4, h5⟩ := hinv
 obtain ⟨i', rfl⟩ : ∃ n : Nat, i = n := ⟨i.toNat, by omega⟩
 simp only [Int.toNat_natCast] at hq
 dsimp only [frC5, Fr.satP, Ty.den, PT.den]
 simp only [Int.toNat_natCast]
 refine ⟨fun hi => ?_, fun hi => ?_⟩
 ·have hlt : i' < l.length := by have : (i' : Int) < (l.length : Int) := of_decide_eq_true hi; omega
  have w : IntKind.i64.wrap ((i' : Int) + 1) = (i' + 1 : Nat) := succ_nat (by omega)
  rw [w]
  have hm := h3 _ (getD_mem (d := (0 : Int)) hlt)
  rw [drop_at hlt, List.map_cons] at hq
  have hcm : chAt h (l.getD i' 0) ∈ chL h := by
   unfold chAt
   exact getD_mem (by omega)
  have hE := endS_length s out (chAt h (l.getD i' 0)).2.1
  have hI : InvC5 l (l.length : Int) ((i' + 1 : Nat) : Int) h (endS s out (chAt h (l.getD i' 0)).2.1) := ⟨by omega, by omega, rfl, h2, h3, h4, by omega⟩
  have hμ : ((l.length : Int) - ((i' + 1 : Nat) : Int)).toNat < ((l.length : Int) - (i' : Int)).toNat := by omega
  refine ⟨⟨by omega, by omega⟩, hm, endT_sat (by omega) ⟨hm, doesT_sat (h4 _ hcm) ⟨hI, hμ, hI, hq⟩⟩⟩
 ·have hge : ¬ i' < l.length := by have : ¬ (i' : Int) < (l.length : Int) := of_decide_eq_false hi; omega
  rw [List.drop_eq_nil_of_le (by omega)] at hq
  exact hq
theorem loopC5 : Does Tryz.prog (.loop (loopF Tryz.f54 0)) MC ptC5 FC5 := by
 refine Does.loop (n := 52) (id := 0) semC5 (inv := fun x => InvC5 x.1.1 x.1.2.1 x.1.2.2.1 x.2.1 x.2.2.2.2.1.1) (μ := fun x => ((x.1.2.1 : Int) - x.1.2.2.1).toNat) ?_ (fun x Q h => h.1)
 rintro ⟨⟨l, n, i, _⟩, h, sp, s, ⟨out, _⟩, v, _⟩ hinv Q hq
 exact lawC5 l n i h sp s out v hinv Q hq.2
noncomputable def XiOf : FuncId -> Option (Func × (Nat -> St -> Option Tr)) := envF [(54, (Tryz.f54, fun _ => ptC5.han CC2.Γ MC FC5))]
theorem XiOf_ok : ∀ f fn Λ, XiOf f = some (fn, Λ) -> Tryz.prog.funcs[f]? = some fn /\ ∀ c E', fn.body = some c -> LamOK Tryz.prog E' Λ c 0 := fun f fn Λ h => by
 simp only [XiOf, envF] at h
 split at h
 ·rename_i hf
  subst hf
  cases h
  exact ⟨by kernel_rfl, fun c E' hc => lam1f hc (by kernel_rfl) (b := loopF Tryz.f54 0) (by kernel_rfl) (Does.han CC2_ok rfl loopC5)⟩
 ·cases h
noncomputable def COf : Cx := cxK [(52, cHist), (53, cTarAt), (55, cYear)] [] (inlK Tryz.prog CC2 XiOf)
theorem COf_ok : CxOK Tryz.prog COf := cxK_ok (ps := []) mixed ⟨sRight_ok, tarAt_ok, year_ok, trivial⟩ trivial (inlK_ok CC2_ok XiOf_ok)
def MO : LS := ⟨[(29, .d i64), (30, .d i64)], [.o 8 80 sliceT, .al 28 8, .x 6 71 verT, .r 6 6 0]⟩
def EO : LS := ⟨[], [.o 8 80 sliceT]⟩
def ptO : Pt := ⟨56, 0, MO, EO, ⟨[(4, .d slsT), (5, .d i64)], []⟩⟩
def yrS (v : verT.den) (s : sliceT.den) : Int × Int := yearF v s.2.2.1 s.2.2.2.1
def setY (s : sliceT.den) (y : Int) : sliceT.den := (s.1, s.2.1, s.2.2.1, s.2.2.2.1, y, ())
def fO (x : MO.X) : Fr ptO.Out :=
 let n : Int := x.1.1; let i : Int := x.1.2.1; let l : List sliceT.den := x.2.1; let v : verT.den := x.2.2.1
 let s : sliceT.den := l.getD i.toNat sliceT.dflt
 Fr.br (decide (i < n))
  (Fr.need (0 <= i /\ i < (l.length : Int)) (Fr.need (i.toNat < l.length)
   (Fr.br (!s.2.1) (Fr.val (Rd.next ((n, IntKind.i64.wrap (i + 1), ()), (l, v, ()))))
    (Fr.need (0 <= i /\ i < (l.length : Int)) (Fr.need (i.toNat < l.length)
     (Fr.br ((cYear.f (v, s.2.2.1, s.2.2.2.1, ())).2.1 != 0) (Fr.val (Rd.back (([], (cYear.f (v, s.2.2.1, s.2.2.2.1, ())).2.1, ()), ())))
      (Fr.val (Rd.next ((n, IntKind.i64.wrap (i + 1), ()), (l.set i.toNat (setY s (cYear.f (v, s.2.2.1, s.2.2.2.1, ())).1), v, ()))))))))))
  (Fr.val (Rd.out ((), (l, ()))))
theorem semO : Does Tryz.prog (loopF Tryz.f26 0) MO ptO fO := Does.of_run COf_ok (bs := 0) rfl rfl rfl (fun _ => lam0_ok _ 0) (fun x => by kernel_rfl)
def priceV (v : verT.den) (s : sliceT.den) : sliceT.den := if s.2.1 = true then setY s (yrS v s).1 else s
def errP (v : verT.den) : List sliceT.den -> Int
 | [] => 0
 | s :: l => if s.2.1 = true then (if (yrS v s).2 = 0 then errP v l else (yrS v s).2) else errP v l
structure InvO (n i : Int) (l : List sliceT.den) : Prop where
 i0 : 0 <= i
 il : i <= n
 nl : n = l.length
 few : l.length <= 1000000
def outO (l : List sliceT.den) (e : Int) : Fr ptO.Out := Fr.br (e != 0) (Fr.val (Rd.back (([], e, ()), ()))) (Fr.val (Rd.out ((), (l, ()))))
def FO (x : MO.X) : Fr ptO.Out :=
 let n : Int := x.1.1; let i : Int := x.1.2.1; let l : List sliceT.den := x.2.1; let v : verT.den := x.2.2.1
 Fr.need (InvO n i l) (outO (l.take i.toNat ++ (l.drop i.toNat).map (priceV v)) (errP v (l.drop i.toNat)))
theorem lawO (n i : Int) (l : List sliceT.den) (v : verT.den) (hinv : InvO n i l) (Q : ptO.Out -> Prop) (hq : (outO (l.take i.toNat ++ (l.drop i.toNat).map (priceV v)) (errP v (l.drop i.toNat))).satP Q) :
  (fO ((n, i, ()), (l, v, ()))).satP fun
   | .next x' => InvO x'.1.1 x'.1.2.1 x'.2.1 /\ ((x'.1.1 : Int) - x'.1.2.1).toNat < (n - i).toNat /\ (FO x').satP Q
   | .out y => Q (.out y)
   | .back z => Q (.back z)
   | .pan p => Q (.pan p) := by
 obtain ⟨h0, h1, rfl, h2⟩ := hinv
 obtain ⟨i', rfl⟩ : ∃ n : Nat, i = n := ⟨i.toNat, by omega⟩
 simp only [Int.toNat_natCast] at hq
 dsimp only [fO, Fr.satP, Ty.den, PT.den]
 simp only [Int.toNat_natCast]
 refine ⟨fun hi => ?_, fun hi => ?_⟩
 ·have hlt : i' < l.length := by have : (i' : Int) < (l.length : Int) := of_decide_eq_true hi; omega
  have w : IntKind.i64.wrap ((i' : Int) + 1) = (i' + 1 : Nat) := succ_nat (by omega)
  rw [w]
  have hg : l.getD i' sliceT.dflt = l[i'] := by rw [List.getD_eq_getElem?_getD, List.getElem?_eq_getElem hlt]; rfl
  have hd : l.drop i' = l.getD i' sliceT.dflt :: l.drop (i' + 1) := by rw [hg]; exact List.drop_eq_getElem_cons hlt
  have hμ : ((l.length : Int) - ((i' + 1 : Nat) : Int)).toNat < ((l.length : Int) - (i' : Int)).toNat := by omega
  have hb : 0 <= (i' : Int) /\ (i' : Int) < (l.length : Int) := ⟨by omega, by omega⟩
  rw [hd] at hq
  generalize hs : l.getD i' sliceT.dflt = s at *
  have htk : l.take (i' + 1) = l.take i' ++ [s] := by
   rw [hg]
   exact (List.take_append_getElem hlt).symm
  refine ⟨hb, hlt, fun hoff => ?_, fun hon => ⟨hb, hlt, fun he => ?_, fun he => ?_⟩⟩
  ·have hoff' : ¬ s.2.1 = true := by
    intro hx
    rw [hx] at hoff
    cases hoff
   have hI : InvO (l.length : Int) ((i' + 1 : Nat) : Int) l := ⟨by omega, by omega, rfl, h2⟩
   refine ⟨hI, hμ, hI, ?_⟩
   have e1 : errP v (s :: l.drop (i' + 1)) = errP v (l.drop (i' + 1)) := if_neg hoff'
   have e2 : priceV v s = s := if_neg hoff'
   rw [e1, List.map_cons, e2] at hq
   show (outO (l.take (i' + 1) ++ (l.drop (i' + 1)).map (priceV v)) (errP v (l.drop (i' + 1)))).satP Q
   rw [htk, List.append_assoc]
   exact hq
  ·have hon' : s.2.1 = true := by
    cases hx : s.2.1 with
    | true => rfl
    | false => rw [hx] at hon; cases hon
   have he' : ¬ (yrS v s).2 = 0 := bne_iff_ne.1 he
   have e1 : errP v (s :: l.drop (i' + 1)) = (yrS v s).2 := by
    unfold errP
    rw [if_pos hon', if_neg he']
   rw [e1] at hq
   exact hq.1 he
  ·have hon' : s.2.1 = true := by
    cases hx : s.2.1 with
    | true => rfl
    | false => rw [hx] at hon; cases hon
   have he' : (yrS v s).2 = 0 := by
    have : ((yrS v s).2 != 0) = false := he
    simpa using this
   have hlen : (l.set i' (setY s (yrS v s).1)).length = l.length := List.length_set
   have hI : InvO (l.length : Int) ((i' + 1 : Nat) : Int) (l.set i' (setY s (yrS v s).1)) := ⟨by omega, by omega, by rw [hlen], by rw [hlen]; exact h2⟩
   refine ⟨hI, hμ, hI, ?_⟩
   have e1 : errP v (s :: l.drop (i' + 1)) = errP v (l.drop (i' + 1)) := by
    conv => lhs; unfold errP
    rw [if_pos hon', if_pos he']
   have e2 : priceV v s = setY s (yrS v s).1 := if_pos hon'
   rw [e1, List.map_cons, e2] at hq
   show (outO ((l.set i' (setY s (yrS v s).1)).take (i' + 1) ++ ((l.set i' (setY s (yrS v s).1)).drop (i' + 1)).map (priceV v)) (errP v ((l.set i' (setY s (yrS v s).1)).drop (i' + 1)))).satP Q
   have e3 : (l.set i' (setY s (yrS v s).1)).drop (i' + 1) = l.drop (i' + 1) := List.drop_set_of_lt (by omega)
   have e4 : (l.set i' (setY s (yrS v s).1)).take (i' + 1) = l.take i' ++ [setY s (yrS v s).1] := by
    rw [List.take_add_one, List.take_set_of_le (by omega)]
    simp [hlt]
   rw [e3, e4, List.append_assoc]
   exact hq
 ·have hge : ¬ i' < l.length := by have : ¬ (i' : Int) < (l.length : Int) := of_decide_eq_false hi; omega
  rw [List.drop_eq_nil_of_le (by omega), List.take_of_length_le (by omega)] at hq
  have hq' := hq.2 rfl
  simp only [List.map_nil, List.append_nil] at hq'
  exact hq'
theorem loopO : Does Tryz.prog (.loop (loopF Tryz.f26 0)) MO ptO FO := by
 refine Does.loop (n := 56) (id := 0) semO (inv := fun x => InvO x.1.1 x.1.2.1 x.2.1) (μ := fun x => ((x.1.1 : Int) - x.1.2.1).toNat) ?_ (fun x Q h => h.1)
 rintro ⟨⟨n, i, _⟩, l, v, _⟩ hinv Q hq
 exact lawO n i l v hinv Q hq.2
def frOf1 (v : verT.den) (l : List sliceT.den) : Fr (denL [slsT, i64]) :=
 Fr.need (InvO l.length 0 l) (Fr.br (errP v (l.drop (0 : Int).toNat) != 0) (Fr.val ([], errP v (l.drop (0 : Int).toNat), ())) (Fr.val (l.take (0 : Int).toNat ++ (l.drop (0 : Int).toNat).map (priceV v), 0, ())))
def goH (h : histT.den) : sliceT.den × List sliceT.den := goCut (((orderL h).drop (0 : Int).toNat).map (chAt h)) ((h.2.2.1.1.1, 0, ()), true, h.2.2.1.2.1, [] ++ h.2.2.1.2.2.1, 0, ()) []
def frOfF (x : denP [.d histT, .d tarT]) : Fr (denL [slsT, i64]) :=
 Fr.br (!(cHist.f (x.1, ())).1) (Fr.val ([], 1, ()))
  (Fr.need (fewT x.2.1)
   (Fr.br ((cTarAt.f (x.2.1, x.1.2.2.1.1.1, ())).2.1 != 0) (Fr.val ([], (cTarAt.f (x.2.1, x.1.2.2.1.1.1, ())).2.1, ()))
    (Fr.need (([] : List coverT.den).length + x.1.2.2.1.2.2.1.length <= maxLen /\ (([] : List coverT.den).length + x.1.2.2.1.2.2.1.length) * 40 <= 140737488355328)
     (Fr.need (((chL x.1).length : Int) <= 1000000)
      (Fr.need (InvC5 (orderL x.1) ((orderL x.1).length : Int) 0 x.1 [])
       (endT (goH x.1).1 (goH x.1).2 x.1.2.2.1.1.2.1 (frOf1 (cTarAt.f (x.2.1, x.1.2.2.1.1.1, ())).1)))))))
theorem of_run : SoundCt Tryz.prog 26 ⟨[.d histT, .d tarT], [slsT, i64], fun xs => (frOfF xs).get, fun xs => [(frOfF xs).ok]⟩ :=
 fn_sound COf_ok (Λ := fun _ => ptO.han COf.Γ MO FO) (fn := Tryz.f26) (fr := frOfF) (ps := [.d histT, .d tarT]) (rs := [slsT, i64]) (histT.dflt, tarT.dflt, ()) (by kernel_rfl)
  (fun c E hc => lam1f hc (by kernel_rfl) (b := loopF Tryz.f26 0) (by kernel_rfl) (Does.han COf_ok rfl loopO)) (fun x => by kernel_rfl)
def fewH (h : histT.den) : Prop := (chL h).length <= 500000 /\ h.2.2.1.2.2.1.length <= 1000000 /\ ∀ c ∈ chL h, c.2.2.2.2.1.length <= 1000000
def ofF (h : histT.den) (t : tarT.den) : List sliceT.den × Int :=
 if histB h = true then
  (if (verAt h.2.2.1.1.1 t.1.reverse).2 = 0 then
   (if errP (verAt h.2.2.1.1.1 t.1.reverse).1 (cutL h) = 0 then ((cutL h).map (priceV (verAt h.2.2.1.1.1 t.1.reverse).1), 0) else ([], errP (verAt h.2.2.1.1.1 t.1.reverse).1 (cutL h)))
  else ([], (verAt h.2.2.1.1.1 t.1.reverse).2))
 else ([], 1)
def cOf : Ct := ⟨[.d histT, .d tarT], [slsT, i64], fun x => ((ofF x.1 x.2.1).1, (ofF x.1 x.2.1).2, ()), fun x => [fewH x.1, fewT x.2.1]⟩
theorem orderL_length (h : histT.den) : (orderL h).length = (chL h).length := by
 unfold orderL
 rw [sortB_length, rangeI_length]
theorem orderL_mem {h : histT.den} {x : Int} (hx : x ∈ orderL h) : 0 <= x /\ x < ((chL h).length : Int) := rangeI_mem (sortB_mem.1 hx)
theorem goCut_length : (l : List changeT.den) -> (s : sliceT.den) -> (out : List sliceT.den) -> (goCut l s out).2.length <= out.length + l.length
 | [], _, _ => Nat.le_refl _
 | c :: l, s, out => by
  have h1 := goCut_length l (doesC ((c.2.1, s.1.2.1, ()), s.2) c) (endS s out c.2.1)
  have h2 := endS_length s out c.2.1
  simp only [goCut, List.length_cons]
  omega
theorem of_ok : SoundCt Tryz.prog 26 cOf :=
 convF of_run _ _ (fun w F x vs hr hok => by
  obtain ⟨h, t, _⟩ := x
  obtain ⟨⟨f1, f2, f3⟩, f4⟩ : fewH h /\ fewT t := hok
  show (frOfF (h, t, ())).ok /\ (frOfF (h, t, ())).get = ((ofF h t).1, (ofF h t).2, ())
  unfold ofF
  cases hh : histB h with
  | false =>
   refine Fr.br_t ?_ ⟨trivial, rfl⟩
   show (!(histB h)) = true
   rw [hh]
   rfl
  | true =>
   rw [if_pos rfl]
   refine Fr.br_f ?_ (Fr.need_ f4 ?_)
   ·show (!(histB h)) = false
    rw [hh]
    rfl
   ·by_cases hv : (verAt h.2.2.1.1.1 t.1.reverse).2 = 0
    ·rw [if_pos hv]
     refine Fr.br_f ?_ (Fr.need_ ?_ (Fr.need_ ?_ (Fr.need_ ?_ ?_)))
     ·show ((verAt h.2.2.1.1.1 t.1.reverse).2 != 0) = false
      rw [hv]
      rfl
     ·show ([] : List coverT.den).length + h.2.2.1.2.2.1.length <= maxLen /\ (([] : List coverT.den).length + h.2.2.1.2.2.1.length) * 40 <= 140737488355328
      simp only [List.length_nil, Nat.zero_add]
      exact ⟨by unfold maxLen; omega, by omega⟩
     ·show ((chL h).length : Int) <= 1000000
      omega
     ·show InvC5 (orderL h) ((orderL h).length : Int) 0 h []
      exact ⟨Int.le_refl _, Int.natCast_nonneg _, rfl, by rw [orderL_length]; exact f1, fun x hx => orderL_mem hx, f3, Int.le_refl _⟩
     ·have hgo : (goH h).2.length <= 500000 := by
       have := goCut_length (((orderL h).drop (0 : Int).toNat).map (chAt h)) ((h.2.2.1.1.1, 0, ()), true, h.2.2.1.2.1, [] ++ h.2.2.1.2.2.1, 0, ()) []
       have e : (((orderL h).drop (0 : Int).toNat).map (chAt h)).length = (chL h).length := by
        rw [List.length_map]
        exact orderL_length h
       rw [e] at this
       have h2 : (goH h).2.length <= 0 + (chL h).length := this
       omega
      have hcut : endS (goH h).1 (goH h).2 h.2.2.1.1.2.1 = cutL h := rfl
      have hclen : (cutL h).length <= 1000000 := by
       rw [← hcut]
       have := endS_length (goH h).1 (goH h).2 h.2.2.1.1.2.1
       omega
      have hkey : (frOf1 (verAt h.2.2.1.1.1 t.1.reverse).1 (cutL h)).ok /\ (frOf1 (verAt h.2.2.1.1.1 t.1.reverse).1 (cutL h)).get = ((if errP (verAt h.2.2.1.1.1 t.1.reverse).1 (cutL h) = 0 then ((cutL h).map (priceV (verAt h.2.2.1.1.1 t.1.reverse).1), (0 : Int)) else ([], errP (verAt h.2.2.1.1.1 t.1.reverse).1 (cutL h))).1, (if errP (verAt h.2.2.1.1.1 t.1.reverse).1 (cutL h) = 0 then ((cutL h).map (priceV (verAt h.2.2.1.1.1 t.1.reverse).1), (0 : Int)) else ([], errP (verAt h.2.2.1.1.1 t.1.reverse).1 (cutL h))).2, ()) := by
       refine Fr.need_ ⟨Int.le_refl _, Int.natCast_nonneg _, rfl, hclen⟩ ?_
       by_cases he : errP (verAt h.2.2.1.1.1 t.1.reverse).1 (cutL h) = 0
       ·rw [if_pos he]
        refine Fr.br_f ?_ ⟨trivial, rfl⟩
        show (errP (verAt h.2.2.1.1.1 t.1.reverse).1 (cutL h) != 0) = false
        rw [he]
        rfl
       ·rw [if_neg he]
        exact Fr.br_t (bne_iff_ne.2 he) ⟨trivial, rfl⟩
      have hs := endT_sat (s := (goH h).1) (out := (goH h).2) (day := h.2.2.1.1.2.1) (K := frOf1 (verAt h.2.2.1.1.1 t.1.reverse).1) (Q := fun y => y = ((if errP (verAt h.2.2.1.1.1 t.1.reverse).1 (cutL h) = 0 then ((cutL h).map (priceV (verAt h.2.2.1.1.1 t.1.reverse).1), (0 : Int)) else ([], errP (verAt h.2.2.1.1.1 t.1.reverse).1 (cutL h))).1, (if errP (verAt h.2.2.1.1.1 t.1.reverse).1 (cutL h) = 0 then ((cutL h).map (priceV (verAt h.2.2.1.1.1 t.1.reverse).1), (0 : Int)) else ([], errP (verAt h.2.2.1.1.1 t.1.reverse).1 (cutL h))).2, ())) (by omega) (by
       rw [hcut]
       exact Fr.satP_of hkey.1 hkey.2)
      exact Fr.satP_get hs
    ·rw [if_neg hv]
     refine Fr.br_t ?_ ⟨trivial, rfl⟩
     show ((verAt h.2.2.1.1.1 t.1.reverse).2 != 0) = true
     exact bne_iff_ne.2 hv)
def fewChs (l : List changeT.den) : Prop := l.length <= 1000000 /\ ∀ x ∈ l, x.2.2.2.2.1.length <= 1000000
def colK (_ : Nat) (g : FuncId) (args : List AV) (s : St) : Option Tr :=
 if g = 101 then match args with
  | [.c (.fn f [.ptr i 0, .ptr k 0])] => match s.mem i, s.mem k with
   | some (.box _ [_, _, _, _, _, _, _, _, _, .sl t l]), some (.box _ [.int .i64 day]) =>
    if h : t = changeT then if f = 139 then some (needL [fewChs (castL h l)] (.leaf (.val (.c (.sl changeT (uptoB day (castL h l))))) s)) else none else none
   | _, _ => none
  | _ => none
 else none
theorem colK_ok : InlOK Tryz.prog colK := by
 intro d g args s t ht
 unfold colK at ht
 split at ht <;> try (cases ht; done)
 rename_i hg
 subst hg
 split at ht <;> try (cases ht; done)
 rename_i f i k
 split at ht <;> try (cases ht; done)
 rename_i ty1 c0 c1 c2 c3 c4 c5 c6 c7 c8 t l ty2 day hm1 hm2
 split at ht <;> try (cases ht; done)
 rename_i h
 subst h
 split at ht <;> try (cases ht; done)
 rename_i hf
 subst hf
 simp only [Option.some.injEq] at ht
 subst ht
 refine ⟨enters_of Tryz.func101 (by kernel_rfl) rfl, fun E a w F γ vs Q hi hr hq => ?_⟩
 obtain ⟨⟨hf1, hf2⟩, hqv⟩ := hq
 match vs, hr with
 | [v1], ⟨⟨_, hv1⟩, _⟩ =>
  obtain ⟨arr, rfl, hsz, hcaps⟩ := hv1
  obtain ⟨⟨u0, hu0, _, b1, hR1, rfl⟩, ⟨u1, hu1, _, b2, hR2, rfl⟩, _⟩ := hcaps
  have g1 : .pointer (some ⟨b1, 0, none⟩) = γ i := by
   have := hR1
   unfold refOK at this
   rw [hm1] at this
   exact this
  have g2 : .pointer (some ⟨b2, 0, none⟩) = γ k := by
   have := hR2
   unfold refOK at this
   rw [hm2] at this
   exact this
  have ha : arr = #[.pointer (some ⟨b1, 0, none⟩), .pointer (some ⟨b2, 0, none⟩)] := by
   apply Array.ext
   ·exact hsz
   ·intro i h1 h2
    have hu1' : arr[1]? = some (.pointer (some ⟨b2, 0, none⟩)) := hu1
    match i, h2 with
    | 0, _ =>
     rw [Array.getElem?_eq_getElem h1] at hu0
     exact Option.some.inj hu0
    | 1, _ =>
     rw [Array.getElem?_eq_getElem h1] at hu1'
     exact Option.some.inj hu1'
  subst ha
  obtain ⟨d1, ar1, e1, hb1, _, _, hs1, hcl⟩ := hi.mem.ob i _ hm1
  obtain ⟨d2, ar2, e2, hb2, _, _, hs2, hcl2⟩ := hi.mem.ob k _ hm2
  rw [← g1] at e1
  rw [← g2] at e2
  cases e1
  cases e2
  obtain ⟨_, _, _, _, _, _, _, _, _, ⟨x9, hx9, _, hr9⟩, _⟩ := hcl
  obtain ⟨⟨y0, hy0, _, hd0⟩, _⟩ := hcl2
  have hday : y0 = .int .i64 day := hd0.1
  subst hday
  refine (collect_calls (inv_bd hi) (Array.getElem?_eq_some_iff.1 hb1).1 (Array.getElem?_eq_some_iff.1 hb2).1 ((cell_of_block hb1 9).trans hx9) hr9 ((cell_of_block hb2 0).trans hy0) hf1 hf2).mono fun e w2 hp => ?_
  obtain ⟨u, F2, rfl, hb, hr2, hq2⟩ := hp
  have hBs := Step.size' hi
  obtain ⟨s1, m1⟩ := Step.below hi.mem hBs (inv_bd hi) (F' := fun q => F q ∨ F2 q) hb (fun _ h => .inl h) (fun b hb' => hb'.elim (fun h => ⟨.inl h, Nat.lt_of_lt_of_le (inv_bd hi b h) hb.size⟩) (fun h => hq2 b h))
  have hinv : InvG Tryz.prog E s a w2 [] (fun q => F q ∨ F2 q) γ := by
   refine ⟨hi.n, hi.df, ?_, m1, fun t => (hi.sl t).mono s1.hF s1.hw s1.hR, hi.hg, fun t => s1.repA (hi.gh t)⟩
   obtain ⟨γ0, h0⟩ := hi.step
   exact ⟨γ0, h0.trans s1⟩
  have hr3 : RepT w2 (fun q => F q ∨ F2 q) (.sl changeT) (uptoB day (castL rfl l)) (fun _ u' => u' = u) := RepT.mono (t := .sl changeT) (fun _ h => Or.inr h) (fun _ _ => rfl) (fun _ _ _ h => h) hr2
  refine ⟨_, _, _, γ, hqv, hinv, u, rfl, ?_, hr3⟩
  obtain ⟨A, c, e1, _⟩ := hr2
  rw [← e1]
  rfl
noncomputable def XiK : FuncId -> Option (Func × (Nat -> St -> Option Tr)) := envF [(102, (Tryz.f102, lam0))]
theorem XiK_ok : ∀ f fn Λ, XiK f = some (fn, Λ) -> Tryz.prog.funcs[f]? = some fn /\ ∀ c E', fn.body = some c -> LamOK Tryz.prog E' Λ c 0 := fun f fn Λ h => by
 simp only [XiK, envF] at h
 split at h
 ·rename_i hf
  subst hf
  cases h
  exact ⟨by kernel_rfl, fun c E' _ => lam0_ok c 0⟩
 ·cases h
noncomputable def CKn1 : Cx := cx [] []
theorem CKn1_ok : CxOK Tryz.prog CKn1 := cx_ok (cs := []) (ps := []) mixed trivial trivial
noncomputable def CKn : Cx := cxK [(72, cClone coverT)] [] (orK (inlK Tryz.prog CKn1 XiK) colK)
theorem CKn_ok : CxOK Tryz.prog CKn := cxK_ok (ps := []) mixed ⟨cloneC_ok, trivial⟩ trivial (orK_ok (inlK_ok CKn1_ok XiK_ok) colK_ok)
def noHist : histT.den := (0, 0, ((0, 0, ()), (0, 0, 0, 0, ()), [], ()), [], ())
def atH (h : histT.den) (d : Int) : histT.den × Int := if d < h.2.1 then (noHist, 7) else ((h.1, h.2.1, h.2.2.1, uptoB d h.2.2.2.1, ()), 0)
def cKAt : Ct := ⟨[.d histT, .d i64], [histT, i64], fun x => ((atH x.1 x.2.1).1, (atH x.1 x.2.1).2, ()), fun x => [fewH x.1]⟩
def frKAt (x : denP [.d histT, .d i64]) : Fr (denL [histT, i64]) :=
 let h : histT.den := x.1; let d : Int := x.2.1
 Fr.br (decide (h.2.1 > d)) (Fr.val (noHist, 7, ()))
  (Fr.need (List.length (α := coverT.den) h.2.2.1.2.2.1 <= 1000000)
   (Fr.need (fewChs h.2.2.2.1)
    (Fr.val ((h.1, h.2.1, ((h.2.2.1.1.1, h.2.2.1.1.2.1, ()), (h.2.2.1.2.1.1, h.2.2.1.2.1.2.1, h.2.2.1.2.1.2.2.1, h.2.2.1.2.1.2.2.2.1, ()), ((cClone coverT).f (h.2.2.1.2.2.1, ())).1, ()), uptoB d h.2.2.2.1, ()), 0, ()))))
theorem kAt_run : SoundCt Tryz.prog 66 ⟨[.d histT, .d i64], [histT, i64], fun xs => (frKAt xs).get, fun xs => [(frKAt xs).ok]⟩ :=
 fn_sound CKn_ok (Λ := lam0) (fn := Tryz.f66) (fr := frKAt) (ps := [.d histT, .d i64]) (rs := [histT, i64]) (histT.dflt, 0, ()) (by kernel_rfl) (fun c E _ => lam0_ok c 0) (fun x => by kernel_rfl)
theorem kAt_eq (h : histT.den) (d : Int) (hf : fewH h) : (frKAt (h, d, ())).ok /\ (frKAt (h, d, ())).get = ((atH h d).1, (atH h d).2, ()) := by
 unfold atH
 by_cases h1 : d < h.2.1
 ·rw [if_pos h1]
  exact Fr.br_t (by simpa using h1) ⟨trivial, rfl⟩
 ·rw [if_neg h1]
  exact Fr.br_f (by simpa using h1) (Fr.need_ hf.2.1 (Fr.need_ ⟨Nat.le_trans hf.1 (by decide), hf.2.2⟩ ⟨trivial, rfl⟩))
theorem kAt_ok : SoundCt Tryz.prog 66 cKAt :=
 convF kAt_run _ _ (fun w F x vs hr hok => by
  obtain ⟨h, d, _⟩ := x
  exact kAt_eq h d hok)
theorem atH_few {h : histT.den} (hf : fewH h) (d : Int) : fewH (atH h d).1 := by
 unfold atH
 split
 ·exact ⟨by decide, by decide, fun c hc => by cases hc⟩
 ·refine ⟨Nat.le_trans (List.length_filter_le _ _) hf.1, hf.2.1, fun c hc => hf.2.2 c (List.mem_filter.1 hc).1⟩
def knownS (h : histT.den) (t : tarT.den) (d : Int) : List sliceT.den × Int := if (atH h d).2 = 0 then ofF (atH h d).1 t else ([], (atH h d).2)
def cKSl : Ct := ⟨[.d histT, .d tarT, .d i64], [slsT, i64], fun x => ((knownS x.1 x.2.1 x.2.2.1).1, (knownS x.1 x.2.1 x.2.2.1).2, ()), fun x => [fewH x.1, fewT x.2.1]⟩
noncomputable def CKs : Cx := cx [(66, cKAt), (26, cOf)] []
theorem CKs_ok : CxOK Tryz.prog CKs := cx_ok (ps := []) mixed ⟨kAt_ok, of_ok, trivial⟩ trivial
end Go.Proofs.YtplkgghjldndkaaGreat
