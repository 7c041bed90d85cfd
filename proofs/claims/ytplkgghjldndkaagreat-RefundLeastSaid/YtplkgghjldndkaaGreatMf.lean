/-
  Parts of the proof, one behind the other: H4, H5, H6, H7, H8, H9, I9, I10, I11, H12, I28, H13, H14, H15, H18, I14, I16, H20, I17, I18, I19, I20, I21, I22, I23, I12, I13.
-/
import Derived.Test.YtplkgghjldndkaaGreatMe
import Derived.Defers
import Derived.MapKept
import Derived.Carry
import Derived.WalkKit
namespace Go.Proofs.YtplkgghjldndkaaGreat
open Go Go.Ab Go.RowKit Go.Proofs
abbrev bandT : Ty := .pair i64 (.pair i64 .unit)
noncomputable def CH4 : Cx := cx [(132, cCover), (150, cCover)] []
theorem CH4_ok : CxOK Tryz.prog CH4 := cx_ok mixed ⟨cover_ok, cover8_ok, trivial⟩ trivial
abbrev pt_r10_Same : Pt := ⟨26, 0, ⟨[(5, .d i64), (0, .d (.sl coverT)), (1, .d (.sl coverT))], []⟩, ⟨[], []⟩, ⟨[(4, .d .bool)], []⟩⟩
def fr_r10_Same (x : pt_r10_Same.M.X) : Fr pt_r10_Same.Out :=
 Fr.br (decide (x.1.1 < ↑(List.length x.1.2.1))) (Fr.need (0 <= x.1.1 /\ x.1.1 < ↑(List.length x.1.2.1)) (Fr.need (0 <= x.1.1 /\ x.1.1 < ↑(List.length x.1.2.2.1)) (Fr.br (!((List.getD x.1.2.1 (Int.toNat x.1.1) coverT.dflt).1 == (List.getD x.1.2.2.1 (Int.toNat x.1.1) coverT.dflt).1 && ((List.getD x.1.2.1 (Int.toNat x.1.1) coverT.dflt).2.1 == (List.getD x.1.2.2.1 (Int.toNat x.1.1) coverT.dflt).2.1 && ((List.getD x.1.2.1 (Int.toNat x.1.1) coverT.dflt).2.2.1 == (List.getD x.1.2.2.1 (Int.toNat x.1.1) coverT.dflt).2.2.1 && ((List.getD x.1.2.1 (Int.toNat x.1.1) coverT.dflt).2.2.2.1 == (List.getD x.1.2.2.1 (Int.toNat x.1.1) coverT.dflt).2.2.2.1 && ((List.getD x.1.2.1 (Int.toNat x.1.1) coverT.dflt).2.2.2.2.1 == (List.getD x.1.2.2.1 (Int.toNat x.1.1) coverT.dflt).2.2.2.2.1 && true)))))) (Fr.val (Rd.back ((false, ()), ()))) (Fr.val (Rd.next ((IntKind.i64.wrap (x.1.1 + 1), x.1.2.1, x.1.2.2.1, ()), ())))))) (Fr.val (Rd.out ((), ())))
theorem sem_r10_Same : Does Tryz.prog (loopF Tryz.f112 0) pt_r10_Same.M pt_r10_Same fr_r10_Same :=
 Does.of_run CH4_ok (bs := 0) (Λ := lam0) rfl rfl rfl (fun E => lam0_ok _ 0) (fun x => by kernel_rfl)
abbrev st_r10_Same : Type := denP [.d (.sl coverT)] × denM []
def step_r10_Same (e : (coverT.den × coverT.den)) (s : st_r10_Same) : Fr (st_r10_Same ⊕ pt_r10_Same.R.X) :=
 Fr.br (!(e.1.1 == e.2.1 && (e.1.2.1 == e.2.2.1 && (e.1.2.2.1 == e.2.2.2.1 && (e.1.2.2.2.1 == e.2.2.2.2.1 && (e.1.2.2.2.2.1 == e.2.2.2.2.2.1 && true)))))) (Fr.val (.inr ((false, ()), ()))) (Fr.val (.inl ((s.1.1, ()), ())))
def un_r10_Same (x : pt_r10_Same.M.X) : Int × List (coverT.den × coverT.den) × st_r10_Same := (x.1.1, x.1.2.1.zip x.1.2.2.1, x.1.2.2, x.2)
def good_r10_Same (x : pt_r10_Same.M.X) : Prop := x.1.2.1.length = x.1.2.2.1.length
def out_r10_Same (s : st_r10_Same) : pt_r10_Same.E.X := ((), ())
def dS_r10_Same : st_r10_Same := (dfP _, dfM _)
def dR_r10_Same : pt_r10_Same.R.X := (dfP _, dfM _)
theorem loop_r10_Same : Does Tryz.prog (.loop (loopF Tryz.f112 0)) pt_r10_Same.M pt_r10_Same (FL step_r10_Same un_r10_Same good_r10_Same out_r10_Same Rd.back dS_r10_Same dR_r10_Same) := by
 refine Does.list sem_r10_Same step_r10_Same un_r10_Same good_r10_Same out_r10_Same Rd.back dS_r10_Same dR_r10_Same ?_ ?_
 ·rintro ⟨⟨i, l, s⟩, m⟩ hg h0 h1 hb e he Q h
  have hz : l.length = s.1.length := hg
  have h0 : 0 <= i := h0
  have h1 : i < (l.length : Int) := zip_lt hz h1
  have hb : (l.length : Int) <= 9223372036854775807 := zip_le hz hb
  have h1z : i < (s.1.length : Int) := by rw [← hz]; exact h1
  have hd : l.getD i.toNat coverT.dflt = e.1 := getD_of (zip_fst he)
  have hdz : s.1.getD i.toNat coverT.dflt = e.2 := getD_of (zip_snd he)
  have hw := wrap_next h0 h1 hb
  dsimp only [un_r10_Same, step_r10_Same, fr_r10_Same, Fr.satP] at h ⊢
  simp only [hd, hw, hdz] at h ⊢
  refine ⟨fun _ => ?_, fun hn => absurd h1 (of_decide_eq_false hn)⟩
  repeat' first
   | exact h
   | exact ⟨h0, h1⟩
   | exact fun _ => ⟨h0, h1⟩
   | exact ⟨h0, h1z⟩
   | exact fun _ => ⟨h0, h1z⟩
   | exact h _ rfl hz
   | refine ⟨?_, ?_⟩
   | (intro (hc : _ = true); replace h := h.1 hc)
   | (intro (hc : _ = false); replace h := h.2 hc)
 ·rintro ⟨⟨i, l, s⟩, m⟩ hg h1 Q h
  have hz : l.length = s.1.length := hg
  exact ⟨fun hn => absurd (of_decide_eq_true hn) (zip_nlt hz h1), fun _ => h⟩
def Λ_r10_Same (Γ : FuncId -> Option Ct) : St -> Option Tr := pt_r10_Same.han Γ pt_r10_Same.M (FL step_r10_Same un_r10_Same good_r10_Same out_r10_Same Rd.back dS_r10_Same dR_r10_Same)
def res_r10_Same (y : pt_r10_Same.M.X) : st_r10_Same ⊕ pt_r10_Same.R.X := goL step_r10_Same ((un_r10_Same y).2.1.drop (un_r10_Same y).1.toNat) (un_r10_Same y).2.2
def okr_r10_Same (y : pt_r10_Same.M.X) : Prop := okL step_r10_Same ((un_r10_Same y).2.1.drop (un_r10_Same y).1.toNat) (un_r10_Same y).2.2
abbrev pt_alike : Pt := ⟨26, 0, ⟨[(14, .d i64), (13, .d i64), (12, .d (.sl coverT)), (1, .d (.sl coverT))], []⟩, ⟨[], []⟩, ⟨[(4, .d .bool)], []⟩⟩
def fr_alike (x : pt_alike.M.X) : Fr pt_alike.Out :=
 Fr.br (decide (x.1.1 < x.1.2.1)) (Fr.need (0 <= x.1.1 /\ x.1.1 < ↑(List.length x.1.2.2.1)) (Fr.need (0 <= x.1.1 /\ x.1.1 < ↑(List.length x.1.2.2.2.1)) (Fr.br (!((List.getD x.1.2.2.1 (Int.toNat x.1.1) coverT.dflt).1 == (List.getD x.1.2.2.2.1 (Int.toNat x.1.1) coverT.dflt).1 && ((List.getD x.1.2.2.1 (Int.toNat x.1.1) coverT.dflt).2.1 == (List.getD x.1.2.2.2.1 (Int.toNat x.1.1) coverT.dflt).2.1 && ((List.getD x.1.2.2.1 (Int.toNat x.1.1) coverT.dflt).2.2.1 == (List.getD x.1.2.2.2.1 (Int.toNat x.1.1) coverT.dflt).2.2.1 && ((List.getD x.1.2.2.1 (Int.toNat x.1.1) coverT.dflt).2.2.2.1 == (List.getD x.1.2.2.2.1 (Int.toNat x.1.1) coverT.dflt).2.2.2.1 && ((List.getD x.1.2.2.1 (Int.toNat x.1.1) coverT.dflt).2.2.2.2.1 == (List.getD x.1.2.2.2.1 (Int.toNat x.1.1) coverT.dflt).2.2.2.2.1 && true)))))) (Fr.val (Rd.back ((false, ()), ()))) (Fr.val (Rd.next ((IntKind.i64.wrap (x.1.1 + 1), x.1.2.1, x.1.2.2.1, x.1.2.2.2.1, ()), ())))))) (Fr.val (Rd.out ((), ())))
theorem sem_alike : Does Tryz.prog (loopF Tryz.f129 0) pt_alike.M pt_alike fr_alike :=
 Does.of_run CH4_ok (bs := 0) (Λ := lam0) rfl rfl rfl (fun E => lam0_ok _ 0) (fun x => by kernel_rfl)
abbrev st_alike : Type := denP [.d (.sl coverT)] × denM []
def step_alike (e : (coverT.den × coverT.den)) (s : st_alike) : Fr (st_alike ⊕ pt_alike.R.X) :=
 Fr.br (!(e.1.1 == e.2.1 && (e.1.2.1 == e.2.2.1 && (e.1.2.2.1 == e.2.2.2.1 && (e.1.2.2.2.1 == e.2.2.2.2.1 && (e.1.2.2.2.2.1 == e.2.2.2.2.2.1 && true)))))) (Fr.val (.inr ((false, ()), ()))) (Fr.val (.inl ((s.1.1, ()), ())))
def un_alike (x : pt_alike.M.X) : Int × List (coverT.den × coverT.den) × st_alike := (x.1.1, x.1.2.2.1.zip x.1.2.2.2.1, x.1.2.2.2, x.2)
def good_alike (x : pt_alike.M.X) : Prop := x.1.2.1 = (x.1.2.2.1.length : Int) /\ x.1.2.2.1.length = x.1.2.2.2.1.length
def out_alike (s : st_alike) : pt_alike.E.X := ((), ())
def dS_alike : st_alike := (dfP _, dfM _)
def dR_alike : pt_alike.R.X := (dfP _, dfM _)
theorem loop_alike : Does Tryz.prog (.loop (loopF Tryz.f129 0)) pt_alike.M pt_alike (FL step_alike un_alike good_alike out_alike Rd.back dS_alike dR_alike) := by
 refine Does.list sem_alike step_alike un_alike good_alike out_alike Rd.back dS_alike dR_alike ?_ ?_
 ·rintro ⟨⟨i, n, l, s⟩, m⟩ hg h0 h1 hb e he Q h
  obtain ⟨hg, hz⟩ : n = (l.length : Int) /\ l.length = s.1.length := hg
  subst hg
  have h0 : 0 <= i := h0
  have h1 : i < (l.length : Int) := zip_lt hz h1
  have hb : (l.length : Int) <= 9223372036854775807 := zip_le hz hb
  have h1z : i < (s.1.length : Int) := by rw [← hz]; exact h1
  have hd : l.getD i.toNat coverT.dflt = e.1 := getD_of (zip_fst he)
  have hdz : s.1.getD i.toNat coverT.dflt = e.2 := getD_of (zip_snd he)
  have hw := wrap_next h0 h1 hb
  dsimp only [un_alike, step_alike, fr_alike, Fr.satP] at h ⊢
  simp only [hd, hw, hdz] at h ⊢
  refine ⟨fun _ => ?_, fun hn => absurd h1 (of_decide_eq_false hn)⟩
  repeat' first
   | exact h
   | exact ⟨h0, h1⟩
   | exact fun _ => ⟨h0, h1⟩
   | exact ⟨h0, h1z⟩
   | exact fun _ => ⟨h0, h1z⟩
   | exact h _ rfl ⟨rfl, hz⟩
   | refine ⟨?_, ?_⟩
   | (intro (hc : _ = true); replace h := h.1 hc)
   | (intro (hc : _ = false); replace h := h.2 hc)
 ·rintro ⟨⟨i, n, l, s⟩, m⟩ hg h1 Q h
  obtain ⟨hg, hz⟩ : n = (l.length : Int) /\ l.length = s.1.length := hg
  subst hg
  exact ⟨fun hn => absurd (of_decide_eq_true hn) (zip_nlt hz h1), fun _ => h⟩
def Λ_alike (Γ : FuncId -> Option Ct) : St -> Option Tr := pt_alike.han Γ pt_alike.M (FL step_alike un_alike good_alike out_alike Rd.back dS_alike dR_alike)
def res_alike (y : pt_alike.M.X) : st_alike ⊕ pt_alike.R.X := goL step_alike ((un_alike y).2.1.drop (un_alike y).1.toNat) (un_alike y).2.2
def okr_alike (y : pt_alike.M.X) : Prop := okL step_alike ((un_alike y).2.1.drop (un_alike y).1.toNat) (un_alike y).2.2
abbrev pt_terms_Covers : Pt := ⟨32, 0, ⟨[(8, .d i64), (7, .d i64), (6, .d (.sl coverT)), (0, .d (.sl coverT)), (3, .d i64)], []⟩, ⟨[(0, .d (.sl coverT))], []⟩, ⟨[(2, .d .bool)], []⟩⟩
def fr_terms_Covers (x : pt_terms_Covers.M.X) : Fr pt_terms_Covers.Out :=
 Fr.br (decide (x.1.1 < x.1.2.1)) (Fr.need (0 <= x.1.1 /\ x.1.1 < ↑(List.length x.1.2.2.1)) (Fr.br (bif decide ((List.getD x.1.2.2.1 (Int.toNat x.1.1) coverT.dflt).1 <= x.1.2.2.2.2.1) then true else !(cCover.f (((List.getD x.1.2.2.1 (Int.toNat x.1.1) coverT.dflt).1, (List.getD x.1.2.2.1 (Int.toNat x.1.1) coverT.dflt).2.1, (List.getD x.1.2.2.1 (Int.toNat x.1.1) coverT.dflt).2.2.1, (List.getD x.1.2.2.1 (Int.toNat x.1.1) coverT.dflt).2.2.2.1, (List.getD x.1.2.2.1 (Int.toNat x.1.1) coverT.dflt).2.2.2.2.1, ()), ())).1) (Fr.val (Rd.back ((false, ()), ()))) (Fr.val (Rd.next ((IntKind.i64.wrap (x.1.1 + 1), x.1.2.1, x.1.2.2.1, x.1.2.2.2.1, (List.getD x.1.2.2.1 (Int.toNat x.1.1) coverT.dflt).1, ()), ()))))) (Fr.val (Rd.out ((x.1.2.2.2.1, ()), ())))
theorem sem_terms_Covers : Does Tryz.prog (loopF Tryz.f125 0) pt_terms_Covers.M pt_terms_Covers fr_terms_Covers :=
 Does.of_run CH4_ok (bs := 0) (Λ := lam0) rfl rfl rfl (fun E => lam0_ok _ 0) (fun x => by kernel_rfl)
abbrev st_terms_Covers : Type := denP [.d (.sl coverT), .d i64] × denM []
def step_terms_Covers (e : coverT.den) (s : st_terms_Covers) : Fr (st_terms_Covers ⊕ pt_terms_Covers.R.X) :=
 Fr.br (bif decide (e.1 <= s.1.2.1) then true else !(cCover.f ((e.1, e.2.1, e.2.2.1, e.2.2.2.1, e.2.2.2.2.1, ()), ())).1) (Fr.val (.inr ((false, ()), ()))) (Fr.val (.inl ((s.1.1, e.1, ()), ())))
def un_terms_Covers (x : pt_terms_Covers.M.X) : Int × List coverT.den × st_terms_Covers := (x.1.1, x.1.2.2.1, x.1.2.2.2, x.2)
def good_terms_Covers (x : pt_terms_Covers.M.X) : Prop := x.1.2.1 = (x.1.2.2.1.length : Int)
def out_terms_Covers (s : st_terms_Covers) : pt_terms_Covers.E.X := ((s.1.1, ()), ())
def dS_terms_Covers : st_terms_Covers := (dfP _, dfM _)
def dR_terms_Covers : pt_terms_Covers.R.X := (dfP _, dfM _)
theorem loop_terms_Covers : Does Tryz.prog (.loop (loopF Tryz.f125 0)) pt_terms_Covers.M pt_terms_Covers (FL step_terms_Covers un_terms_Covers good_terms_Covers out_terms_Covers Rd.back dS_terms_Covers dR_terms_Covers) := by
 refine Does.list sem_terms_Covers step_terms_Covers un_terms_Covers good_terms_Covers out_terms_Covers Rd.back dS_terms_Covers dR_terms_Covers ?_ ?_
 ·rintro ⟨⟨i, n, l, s⟩, m⟩ hg h0 h1 hb e he Q h
  have hg : n = (l.length : Int) := hg
  subst hg
  have h0 : 0 <= i := h0
  have h1 : i < (l.length : Int) := h1
  have hb : (l.length : Int) <= 9223372036854775807 := hb
  have hd : l.getD i.toNat coverT.dflt = e := getD_of he
  have hw := wrap_next h0 h1 hb
  dsimp only [un_terms_Covers, step_terms_Covers, fr_terms_Covers, Fr.satP] at h ⊢
  simp only [hd, hw] at h ⊢
  refine ⟨fun _ => ?_, fun hn => absurd h1 (of_decide_eq_false hn)⟩
  repeat' first
   | exact h
   | exact ⟨h0, h1⟩
   | exact fun _ => ⟨h0, h1⟩
   | exact h _ rfl rfl
   | refine ⟨?_, ?_⟩
   | (intro (hc : _ = true); replace h := h.1 hc)
   | (intro (hc : _ = false); replace h := h.2 hc)
 ·rintro ⟨⟨i, n, l, s⟩, m⟩ hg h1 Q h
  have hg : n = (l.length : Int) := hg
  subst hg
  exact ⟨fun hn => absurd (of_decide_eq_true hn) h1, fun _ => h⟩
def Λ_terms_Covers (Γ : FuncId -> Option Ct) : St -> Option Tr := pt_terms_Covers.han Γ pt_terms_Covers.M (FL step_terms_Covers un_terms_Covers good_terms_Covers out_terms_Covers Rd.back dS_terms_Covers dR_terms_Covers)
def res_terms_Covers (y : pt_terms_Covers.M.X) : st_terms_Covers ⊕ pt_terms_Covers.R.X := goL step_terms_Covers ((un_terms_Covers y).2.1.drop (un_terms_Covers y).1.toNat) (un_terms_Covers y).2.2
def okr_terms_Covers (y : pt_terms_Covers.M.X) : Prop := okL step_terms_Covers ((un_terms_Covers y).2.1.drop (un_terms_Covers y).1.toNat) (un_terms_Covers y).2.2
abbrev pt_r10_Covers : Pt := ⟨40, 0, ⟨[(3, .d i64), (0, .d (.sl coverT))], []⟩, ⟨[], []⟩, ⟨[(2, .d .bool)], []⟩⟩
def fr_r10_Covers (x : pt_r10_Covers.M.X) : Fr pt_r10_Covers.Out :=
 Fr.br (decide (x.1.1 < ↑(List.length x.1.2.1))) (Fr.need (0 <= x.1.1 /\ x.1.1 < ↑(List.length x.1.2.1)) (Fr.br (!(cCover.f (((List.getD x.1.2.1 (Int.toNat x.1.1) coverT.dflt).1, (List.getD x.1.2.1 (Int.toNat x.1.1) coverT.dflt).2.1, (List.getD x.1.2.1 (Int.toNat x.1.1) coverT.dflt).2.2.1, (List.getD x.1.2.1 (Int.toNat x.1.1) coverT.dflt).2.2.2.1, (List.getD x.1.2.1 (Int.toNat x.1.1) coverT.dflt).2.2.2.2.1, ()), ())).1) (Fr.val (Rd.back ((false, ()), ()))) (Fr.br (decide (x.1.1 > 0)) (Fr.need (0 <= x.1.1 /\ x.1.1 < ↑(List.length x.1.2.1)) (Fr.need (0 <= IntKind.i64.wrap (x.1.1 - 1) /\ IntKind.i64.wrap (x.1.1 - 1) < ↑(List.length x.1.2.1)) (Fr.br (decide ((List.getD x.1.2.1 (Int.toNat x.1.1) coverT.dflt).1 <= (List.getD x.1.2.1 (IntKind.i64.wrap (x.1.1 - 1)).toNat coverT.dflt).1)) (Fr.val (Rd.back ((false, ()), ()))) (Fr.val (Rd.next ((IntKind.i64.wrap (x.1.1 + 1), x.1.2.1, ()), ())))))) (Fr.val (Rd.next ((IntKind.i64.wrap (x.1.1 + 1), x.1.2.1, ()), ())))))) (Fr.val (Rd.out ((), ())))
theorem sem_r10_Covers : Does Tryz.prog (loopF Tryz.f117 0) pt_r10_Covers.M pt_r10_Covers fr_r10_Covers :=
 Does.of_run CH4_ok (bs := 0) (Λ := lam0) rfl rfl rfl (fun E => lam0_ok _ 0) (fun x => by kernel_rfl)
abbrev st_r10_Covers : Type := (denP [] × denM []) × Int × coverT.den
def step_r10_Covers (e : coverT.den) (s : st_r10_Covers) : Fr (st_r10_Covers ⊕ pt_r10_Covers.R.X) :=
 Fr.br (!(cCover.f ((e.1, e.2.1, e.2.2.1, e.2.2.2.1, e.2.2.2.2.1, ()), ())).1) (Fr.val (.inr ((false, ()), ()))) (Fr.br (decide (s.2.1 > 0)) (Fr.br (decide (e.1 <= s.2.2.1)) (Fr.val (.inr ((false, ()), ()))) (Fr.val (.inl (((), ()), s.2.1 + 1, e)))) (Fr.val (.inl (((), ()), s.2.1 + 1, e))))
def un_r10_Covers (x : pt_r10_Covers.M.X) : Int × List coverT.den × st_r10_Covers := (x.1.1, x.1.2.1, (x.1.2.2, x.2), x.1.1, x.1.2.1.getD (x.1.1 - 1).toNat coverT.dflt)
def good_r10_Covers (x : pt_r10_Covers.M.X) : Prop := True
def out_r10_Covers (s : st_r10_Covers) : pt_r10_Covers.E.X := ((), ())
def dS_r10_Covers : st_r10_Covers := ((dfP _, dfM _), 0, coverT.dflt)
def dR_r10_Covers : pt_r10_Covers.R.X := (dfP _, dfM _)
theorem loop_r10_Covers : Does Tryz.prog (.loop (loopF Tryz.f117 0)) pt_r10_Covers.M pt_r10_Covers (FL step_r10_Covers un_r10_Covers good_r10_Covers out_r10_Covers Rd.back dS_r10_Covers dR_r10_Covers) := by
 refine Does.list sem_r10_Covers step_r10_Covers un_r10_Covers good_r10_Covers out_r10_Covers Rd.back dS_r10_Covers dR_r10_Covers ?_ ?_
 ·rintro ⟨⟨i, l, s⟩, m⟩ hg h0 h1 hb e he Q h
  have h0 : 0 <= i := h0
  have h1 : i < (l.length : Int) := h1
  have hb : (l.length : Int) <= 9223372036854775807 := hb
  have hd : l.getD i.toNat coverT.dflt = e := getD_of he
  have hq1 := prev_wrap h0 h1 hb
  have hq2 := prev_get hd
  have hq3 : ∀ {b : Bool}, b = decide (i > 0) -> b = true -> 0 <= i - 1 /\ i - 1 < (l.length : Int) := fun hb1 hb2 => prev_in h1 hb1 hb2
  have hw := wrap_next h0 h1 hb
  dsimp only [un_r10_Covers, step_r10_Covers, fr_r10_Covers, Fr.satP] at h ⊢
  simp only [hd, hw, hq1] at h ⊢
  refine ⟨fun _ => ?_, fun hn => absurd h1 (of_decide_eq_false hn)⟩
  repeat' first
   | exact h
   | exact ⟨h0, h1⟩
   | exact fun _ => ⟨h0, h1⟩
   | exact hq3 rfl (by assumption)
   | (refine h _ ?_ trivial; simp only [un_r10_Covers, hq2])
   | refine ⟨?_, ?_⟩
   | (intro (hc : _ = true); replace h := h.1 hc)
   | (intro (hc : _ = false); replace h := h.2 hc)
 ·rintro ⟨⟨i, l, s⟩, m⟩ hg h1 Q h
  exact ⟨fun hn => absurd (of_decide_eq_true hn) h1, fun _ => h⟩
def Λ_r10_Covers (Γ : FuncId -> Option Ct) : St -> Option Tr := pt_r10_Covers.han Γ pt_r10_Covers.M (FL step_r10_Covers un_r10_Covers good_r10_Covers out_r10_Covers Rd.back dS_r10_Covers dR_r10_Covers)
def res_r10_Covers (y : pt_r10_Covers.M.X) : st_r10_Covers ⊕ pt_r10_Covers.R.X := goL step_r10_Covers ((un_r10_Covers y).2.1.drop (un_r10_Covers y).1.toNat) (un_r10_Covers y).2.2
def okr_r10_Covers (y : pt_r10_Covers.M.X) : Prop := okL step_r10_Covers ((un_r10_Covers y).2.1.drop (un_r10_Covers y).1.toNat) (un_r10_Covers y).2.2
abbrev pt_risk_Bands : Pt := ⟨37, 0, ⟨[(8, .d i64), (7, .d i64), (6, .d (.sl bandT)), (0, .d (.sl bandT)), (3, .d i64)], []⟩, ⟨[(0, .d (.sl bandT))], []⟩, ⟨[(2, .d .bool)], []⟩⟩
def fr_risk_Bands (x : pt_risk_Bands.M.X) : Fr pt_risk_Bands.Out :=
 Fr.br (decide (x.1.1 < x.1.2.1)) (Fr.need (0 <= x.1.1 /\ x.1.1 < ↑(List.length x.1.2.2.1)) (Fr.br (bif bif bif decide ((List.getD x.1.2.2.1 (Int.toNat x.1.1) bandT.dflt).1 <= x.1.2.2.2.2.1) then true else decide ((List.getD x.1.2.2.1 (Int.toNat x.1.1) bandT.dflt).1 > 200) then true else decide ((List.getD x.1.2.2.1 (Int.toNat x.1.1) bandT.dflt).2.1 < 0) then true else decide ((List.getD x.1.2.2.1 (Int.toNat x.1.1) bandT.dflt).2.1 > 100000)) (Fr.val (Rd.back ((false, ()), ()))) (Fr.val (Rd.next ((IntKind.i64.wrap (x.1.1 + 1), x.1.2.1, x.1.2.2.1, x.1.2.2.2.1, (List.getD x.1.2.2.1 (Int.toNat x.1.1) bandT.dflt).1, ()), ()))))) (Fr.val (Rd.out ((x.1.2.2.2.1, ()), ())))
theorem sem_risk_Bands : Does Tryz.prog (loopF Tryz.f154 0) pt_risk_Bands.M pt_risk_Bands fr_risk_Bands :=
 Does.of_run CH4_ok (bs := 0) (Λ := lam0) rfl rfl rfl (fun E => lam0_ok _ 0) (fun x => by kernel_rfl)
abbrev st_risk_Bands : Type := denP [.d (.sl bandT), .d i64] × denM []
def step_risk_Bands (e : bandT.den) (s : st_risk_Bands) : Fr (st_risk_Bands ⊕ pt_risk_Bands.R.X) :=
 Fr.br (bif bif bif decide (e.1 <= s.1.2.1) then true else decide (e.1 > 200) then true else decide (e.2.1 < 0) then true else decide (e.2.1 > 100000)) (Fr.val (.inr ((false, ()), ()))) (Fr.val (.inl ((s.1.1, e.1, ()), ())))
def un_risk_Bands (x : pt_risk_Bands.M.X) : Int × List bandT.den × st_risk_Bands := (x.1.1, x.1.2.2.1, x.1.2.2.2, x.2)
def good_risk_Bands (x : pt_risk_Bands.M.X) : Prop := x.1.2.1 = (x.1.2.2.1.length : Int)
def out_risk_Bands (s : st_risk_Bands) : pt_risk_Bands.E.X := ((s.1.1, ()), ())
def dS_risk_Bands : st_risk_Bands := (dfP _, dfM _)
def dR_risk_Bands : pt_risk_Bands.R.X := (dfP _, dfM _)
theorem loop_risk_Bands : Does Tryz.prog (.loop (loopF Tryz.f154 0)) pt_risk_Bands.M pt_risk_Bands (FL step_risk_Bands un_risk_Bands good_risk_Bands out_risk_Bands Rd.back dS_risk_Bands dR_risk_Bands) := by
 refine Does.list sem_risk_Bands step_risk_Bands un_risk_Bands good_risk_Bands out_risk_Bands Rd.back dS_risk_Bands dR_risk_Bands ?_ ?_
 ·rintro ⟨⟨i, n, l, s⟩, m⟩ hg h0 h1 hb e he Q h
  have hg : n = (l.length : Int) := hg
  subst hg
  have h0 : 0 <= i := h0
  have h1 : i < (l.length : Int) := h1
  have hb : (l.length : Int) <= 9223372036854775807 := hb
  have hd : l.getD i.toNat bandT.dflt = e := getD_of he
  have hw := wrap_next h0 h1 hb
  dsimp only [un_risk_Bands, step_risk_Bands, fr_risk_Bands, Fr.satP] at h ⊢
  simp only [hd, hw] at h ⊢
  refine ⟨fun _ => ?_, fun hn => absurd h1 (of_decide_eq_false hn)⟩
  repeat' first
   | exact h
   | exact ⟨h0, h1⟩
   | exact fun _ => ⟨h0, h1⟩
   | exact h _ rfl rfl
   | refine ⟨?_, ?_⟩
   | (intro (hc : _ = true); replace h := h.1 hc)
   | (intro (hc : _ = false); replace h := h.2 hc)
 ·rintro ⟨⟨i, n, l, s⟩, m⟩ hg h1 Q h
  have hg : n = (l.length : Int) := hg
  subst hg
  exact ⟨fun hn => absurd (of_decide_eq_true hn) h1, fun _ => h⟩
def Λ_risk_Bands (Γ : FuncId -> Option Ct) : St -> Option Tr := pt_risk_Bands.han Γ pt_risk_Bands.M (FL step_risk_Bands un_risk_Bands good_risk_Bands out_risk_Bands Rd.back dS_risk_Bands dR_risk_Bands)
def res_risk_Bands (y : pt_risk_Bands.M.X) : st_risk_Bands ⊕ pt_risk_Bands.R.X := goL step_risk_Bands ((un_risk_Bands y).2.1.drop (un_risk_Bands y).1.toNat) (un_risk_Bands y).2.2
def okr_risk_Bands (y : pt_risk_Bands.M.X) : Prop := okL step_risk_Bands ((un_risk_Bands y).2.1.drop (un_risk_Bands y).1.toNat) (un_risk_Bands y).2.2
abbrev pt_r06_Bands : Pt := ⟨57, 0, ⟨[(3, .d i64), (0, .d (.sl bandT))], []⟩, ⟨[], []⟩, ⟨[(2, .d .bool)], []⟩⟩
def fr_r06_Bands (x : pt_r06_Bands.M.X) : Fr pt_r06_Bands.Out :=
 Fr.br (decide (x.1.1 < ↑(List.length x.1.2.1))) (Fr.need (0 <= x.1.1 /\ x.1.1 < ↑(List.length x.1.2.1)) (Fr.need (decide ((List.getD x.1.2.1 (Int.toNat x.1.1) bandT.dflt).1 < 0) = false -> 0 <= x.1.1 /\ x.1.1 < ↑(List.length x.1.2.1)) (Fr.need ((bif decide ((List.getD x.1.2.1 (Int.toNat x.1.1) bandT.dflt).1 < 0) then true else decide ((List.getD x.1.2.1 (Int.toNat x.1.1) bandT.dflt).1 > 200)) = false -> 0 <= x.1.1 /\ x.1.1 < ↑(List.length x.1.2.1)) (Fr.need ((bif bif decide ((List.getD x.1.2.1 (Int.toNat x.1.1) bandT.dflt).1 < 0) then true else decide ((List.getD x.1.2.1 (Int.toNat x.1.1) bandT.dflt).1 > 200) then true else decide ((List.getD x.1.2.1 (Int.toNat x.1.1) bandT.dflt).2.1 < 0)) = false -> 0 <= x.1.1 /\ x.1.1 < ↑(List.length x.1.2.1)) (Fr.br (bif bif bif decide ((List.getD x.1.2.1 (Int.toNat x.1.1) bandT.dflt).1 < 0) then true else decide ((List.getD x.1.2.1 (Int.toNat x.1.1) bandT.dflt).1 > 200) then true else decide ((List.getD x.1.2.1 (Int.toNat x.1.1) bandT.dflt).2.1 < 0) then true else decide ((List.getD x.1.2.1 (Int.toNat x.1.1) bandT.dflt).2.1 > 100000)) (Fr.val (Rd.back ((false, ()), ()))) (Fr.br (decide (x.1.1 > 0)) (Fr.need (0 <= x.1.1 /\ x.1.1 < ↑(List.length x.1.2.1)) (Fr.need (0 <= IntKind.i64.wrap (x.1.1 - 1) /\ IntKind.i64.wrap (x.1.1 - 1) < ↑(List.length x.1.2.1)) (Fr.br (decide ((List.getD x.1.2.1 (Int.toNat x.1.1) bandT.dflt).1 <= (List.getD x.1.2.1 (IntKind.i64.wrap (x.1.1 - 1)).toNat bandT.dflt).1)) (Fr.val (Rd.back ((false, ()), ()))) (Fr.val (Rd.next ((IntKind.i64.wrap (x.1.1 + 1), x.1.2.1, ()), ())))))) (Fr.val (Rd.next ((IntKind.i64.wrap (x.1.1 + 1), x.1.2.1, ()), ()))))))))) (Fr.val (Rd.out ((), ())))
theorem sem_r06_Bands : Does Tryz.prog (loopF Tryz.f162 0) pt_r06_Bands.M pt_r06_Bands fr_r06_Bands :=
 Does.of_run CH4_ok (bs := 0) (Λ := lam0) rfl rfl rfl (fun E => lam0_ok _ 0) (fun x => by kernel_rfl)
abbrev st_r06_Bands : Type := (denP [] × denM []) × Int × bandT.den
def step_r06_Bands (e : bandT.den) (s : st_r06_Bands) : Fr (st_r06_Bands ⊕ pt_r06_Bands.R.X) :=
 Fr.br (bif bif bif decide (e.1 < 0) then true else decide (e.1 > 200) then true else decide (e.2.1 < 0) then true else decide (e.2.1 > 100000)) (Fr.val (.inr ((false, ()), ()))) (Fr.br (decide (s.2.1 > 0)) (Fr.br (decide (e.1 <= s.2.2.1)) (Fr.val (.inr ((false, ()), ()))) (Fr.val (.inl (((), ()), s.2.1 + 1, e)))) (Fr.val (.inl (((), ()), s.2.1 + 1, e))))
def un_r06_Bands (x : pt_r06_Bands.M.X) : Int × List bandT.den × st_r06_Bands := (x.1.1, x.1.2.1, (x.1.2.2, x.2), x.1.1, x.1.2.1.getD (x.1.1 - 1).toNat bandT.dflt)
def good_r06_Bands (x : pt_r06_Bands.M.X) : Prop := True
def out_r06_Bands (s : st_r06_Bands) : pt_r06_Bands.E.X := ((), ())
def dS_r06_Bands : st_r06_Bands := ((dfP _, dfM _), 0, bandT.dflt)
def dR_r06_Bands : pt_r06_Bands.R.X := (dfP _, dfM _)
theorem loop_r06_Bands : Does Tryz.prog (.loop (loopF Tryz.f162 0)) pt_r06_Bands.M pt_r06_Bands (FL step_r06_Bands un_r06_Bands good_r06_Bands out_r06_Bands Rd.back dS_r06_Bands dR_r06_Bands) := by
 refine Does.list sem_r06_Bands step_r06_Bands un_r06_Bands good_r06_Bands out_r06_Bands Rd.back dS_r06_Bands dR_r06_Bands ?_ ?_
 ·rintro ⟨⟨i, l, s⟩, m⟩ hg h0 h1 hb e he Q h
  have h0 : 0 <= i := h0
  have h1 : i < (l.length : Int) := h1
  have hb : (l.length : Int) <= 9223372036854775807 := hb
  have hd : l.getD i.toNat bandT.dflt = e := getD_of he
  have hq1 := prev_wrap h0 h1 hb
  have hq2 := prev_get hd
  have hq3 : ∀ {b : Bool}, b = decide (i > 0) -> b = true -> 0 <= i - 1 /\ i - 1 < (l.length : Int) := fun hb1 hb2 => prev_in h1 hb1 hb2
  have hw := wrap_next h0 h1 hb
  dsimp only [un_r06_Bands, step_r06_Bands, fr_r06_Bands, Fr.satP] at h ⊢
  simp only [hd, hw, hq1] at h ⊢
  refine ⟨fun _ => ?_, fun hn => absurd h1 (of_decide_eq_false hn)⟩
  repeat' first
   | exact h
   | exact ⟨h0, h1⟩
   | exact fun _ => ⟨h0, h1⟩
   | exact hq3 rfl (by assumption)
   | (refine h _ ?_ trivial; simp only [un_r06_Bands, hq2])
   | refine ⟨?_, ?_⟩
   | (intro (hc : _ = true); replace h := h.1 hc)
   | (intro (hc : _ = false); replace h := h.2 hc)
 ·rintro ⟨⟨i, l, s⟩, m⟩ hg h1 Q h
  exact ⟨fun hn => absurd (of_decide_eq_true hn) h1, fun _ => h⟩
def Λ_r06_Bands (Γ : FuncId -> Option Ct) : St -> Option Tr := pt_r06_Bands.han Γ pt_r06_Bands.M (FL step_r06_Bands un_r06_Bands good_r06_Bands out_r06_Bands Rd.back dS_r06_Bands dR_r06_Bands)
def res_r06_Bands (y : pt_r06_Bands.M.X) : st_r06_Bands ⊕ pt_r06_Bands.R.X := goL step_r06_Bands ((un_r06_Bands y).2.1.drop (un_r06_Bands y).1.toNat) (un_r06_Bands y).2.2
def okr_r06_Bands (y : pt_r06_Bands.M.X) : Prop := okL step_r06_Bands ((un_r06_Bands y).2.1.drop (un_r06_Bands y).1.toNat) (un_r06_Bands y).2.2
abbrev pt_r07_factors : Pt := ⟨22, 0, ⟨[(3, .d i64), (0, .d ints)], []⟩, ⟨[], []⟩, ⟨[(2, .d .bool)], []⟩⟩
def fr_r07_factors (x : pt_r07_factors.M.X) : Fr pt_r07_factors.Out :=
 Fr.br (decide (x.1.1 < ↑(List.length x.1.2.1))) (Fr.need (0 <= x.1.1 /\ x.1.1 < ↑(List.length x.1.2.1)) (Fr.need (decide (List.getD x.1.2.1 (Int.toNat x.1.1) i64.dflt < 0) = false -> 0 <= x.1.1 /\ x.1.1 < ↑(List.length x.1.2.1)) (Fr.br (bif decide (List.getD x.1.2.1 (Int.toNat x.1.1) i64.dflt < 0) then true else decide (List.getD x.1.2.1 (Int.toNat x.1.1) i64.dflt > 100000)) (Fr.val (Rd.back ((false, ()), ()))) (Fr.val (Rd.next ((IntKind.i64.wrap (x.1.1 + 1), x.1.2.1, ()), ())))))) (Fr.val (Rd.out ((), ())))
theorem sem_r07_factors : Does Tryz.prog (loopF Tryz.f163 0) pt_r07_factors.M pt_r07_factors fr_r07_factors :=
 Does.of_run CH4_ok (bs := 0) (Λ := lam0) rfl rfl rfl (fun E => lam0_ok _ 0) (fun x => by kernel_rfl)
abbrev st_r07_factors : Type := denP [] × denM []
def step_r07_factors (e : i64.den) (s : st_r07_factors) : Fr (st_r07_factors ⊕ pt_r07_factors.R.X) :=
 Fr.br (bif decide (e < 0) then true else decide (e > 100000)) (Fr.val (.inr ((false, ()), ()))) (Fr.val (.inl ((), ())))
def un_r07_factors (x : pt_r07_factors.M.X) : Int × List i64.den × st_r07_factors := (x.1.1, x.1.2.1, x.1.2.2, x.2)
def good_r07_factors (x : pt_r07_factors.M.X) : Prop := True
def out_r07_factors (s : st_r07_factors) : pt_r07_factors.E.X := ((), ())
def dS_r07_factors : st_r07_factors := (dfP _, dfM _)
def dR_r07_factors : pt_r07_factors.R.X := (dfP _, dfM _)
theorem loop_r07_factors : Does Tryz.prog (.loop (loopF Tryz.f163 0)) pt_r07_factors.M pt_r07_factors (FL step_r07_factors un_r07_factors good_r07_factors out_r07_factors Rd.back dS_r07_factors dR_r07_factors) := by
 refine Does.list sem_r07_factors step_r07_factors un_r07_factors good_r07_factors out_r07_factors Rd.back dS_r07_factors dR_r07_factors ?_ ?_
 ·rintro ⟨⟨i, l, s⟩, m⟩ hg h0 h1 hb e he Q h
  have h0 : 0 <= i := h0
  have h1 : i < (l.length : Int) := h1
  have hb : (l.length : Int) <= 9223372036854775807 := hb
  have hd : l.getD i.toNat i64.dflt = e := getD_of he
  have hw := wrap_next h0 h1 hb
  dsimp only [un_r07_factors, step_r07_factors, fr_r07_factors, Fr.satP] at h ⊢
  simp only [hd, hw] at h ⊢
  refine ⟨fun _ => ?_, fun hn => absurd h1 (of_decide_eq_false hn)⟩
  repeat' first
   | exact h
   | exact ⟨h0, h1⟩
   | exact fun _ => ⟨h0, h1⟩
   | exact h _ rfl trivial
   | refine ⟨?_, ?_⟩
   | (intro (hc : _ = true); replace h := h.1 hc)
   | (intro (hc : _ = false); replace h := h.2 hc)
 ·rintro ⟨⟨i, l, s⟩, m⟩ hg h1 Q h
  exact ⟨fun hn => absurd (of_decide_eq_true hn) h1, fun _ => h⟩
def Λ_r07_factors (Γ : FuncId -> Option Ct) : St -> Option Tr := pt_r07_factors.han Γ pt_r07_factors.M (FL step_r07_factors un_r07_factors good_r07_factors out_r07_factors Rd.back dS_r07_factors dR_r07_factors)
def res_r07_factors (y : pt_r07_factors.M.X) : st_r07_factors ⊕ pt_r07_factors.R.X := goL step_r07_factors ((un_r07_factors y).2.1.drop (un_r07_factors y).1.toNat) (un_r07_factors y).2.2
def okr_r07_factors (y : pt_r07_factors.M.X) : Prop := okL step_r07_factors ((un_r07_factors y).2.1.drop (un_r07_factors y).1.toNat) (un_r07_factors y).2.2
def ff_r10_Same (x : denP [.d (.sl coverT), .d (.sl coverT)]) : Fr (denL [.bool]) :=
 Fr.br (((List.length x.1) : Int) != ((List.length x.2.1) : Int)) (Fr.val (false, ())) (Fr.need (InL (good_r10_Same ((0, x.1, x.2.1, ()), ())) (un_r10_Same ((0, x.1, x.2.1, ()), ()))) (Fr.need (okr_r10_Same ((0, x.1, x.2.1, ()), ())) (Fr.br (isL (res_r10_Same ((0, x.1, x.2.1, ()), ()))) (Fr.val (true, ())) (Fr.val ((getR dR_r10_Same (res_r10_Same ((0, x.1, x.2.1, ()), ()))).1.1, ())))))
theorem ff_r10_Same_ok : SoundCt Tryz.prog 112 ⟨[.d (.sl coverT), .d (.sl coverT)], [.bool], fun xs => (ff_r10_Same xs).get, fun xs => [(ff_r10_Same xs).ok]⟩ :=
 fn_sound CH4_ok (Λ := (fun _ => Λ_r10_Same CH4.Γ)) (fn := Tryz.f112) (dfP [.d (.sl coverT), .d (.sl coverT)]) (by kernel_rfl) (fun c E hc => lam1f hc (by kernel_rfl) (b := loopF Tryz.f112 0) (by kernel_rfl) (Does.han CH4_ok rfl loop_r10_Same)) (fun x => by kernel_rfl)
def ff_alike (x : denP [.d (.sl coverT), .d (.sl coverT)]) : Fr (denL [.bool]) :=
 Fr.br (((List.length x.1) : Int) != ((List.length x.2.1) : Int)) (Fr.val (false, ())) (Fr.need (InL (good_alike ((0, ((List.length x.1) : Int), x.1, x.2.1, ()), ())) (un_alike ((0, ((List.length x.1) : Int), x.1, x.2.1, ()), ()))) (Fr.need (okr_alike ((0, ((List.length x.1) : Int), x.1, x.2.1, ()), ())) (Fr.br (isL (res_alike ((0, ((List.length x.1) : Int), x.1, x.2.1, ()), ()))) (Fr.val (true, ())) (Fr.val ((getR dR_alike (res_alike ((0, ((List.length x.1) : Int), x.1, x.2.1, ()), ()))).1.1, ())))))
theorem ff_alike_ok : SoundCt Tryz.prog 129 ⟨[.d (.sl coverT), .d (.sl coverT)], [.bool], fun xs => (ff_alike xs).get, fun xs => [(ff_alike xs).ok]⟩ :=
 fn_sound CH4_ok (Λ := (fun _ => Λ_alike CH4.Γ)) (fn := Tryz.f129) (dfP [.d (.sl coverT), .d (.sl coverT)]) (by kernel_rfl) (fun c E hc => lam1f hc (by kernel_rfl) (b := loopF Tryz.f129 0) (by kernel_rfl) (Does.han CH4_ok rfl loop_alike)) (fun x => by kernel_rfl)
def ff_terms_Covers (x : denP [.d (.sl coverT)]) : Fr (denL [.bool]) :=
 Fr.need (InL (good_terms_Covers ((0, ((List.length x.1) : Int), x.1, x.1, -1, ()), ())) (un_terms_Covers ((0, ((List.length x.1) : Int), x.1, x.1, -1, ()), ()))) (Fr.need (okr_terms_Covers ((0, ((List.length x.1) : Int), x.1, x.1, -1, ()), ())) (Fr.br (isL (res_terms_Covers ((0, ((List.length x.1) : Int), x.1, x.1, -1, ()), ()))) (Fr.val (bif decide (((List.length (out_terms_Covers (getL dS_terms_Covers (res_terms_Covers ((0, ((List.length x.1) : Int), x.1, x.1, -1, ()), ())))).1.1) : Int) ≥ 1) then decide (((List.length (out_terms_Covers (getL dS_terms_Covers (res_terms_Covers ((0, ((List.length x.1) : Int), x.1, x.1, -1, ()), ())))).1.1) : Int) <= 8) else false, ())) (Fr.val ((getR dR_terms_Covers (res_terms_Covers ((0, ((List.length x.1) : Int), x.1, x.1, -1, ()), ()))).1.1, ()))))
theorem ff_terms_Covers_ok : SoundCt Tryz.prog 125 ⟨[.d (.sl coverT)], [.bool], fun xs => (ff_terms_Covers xs).get, fun xs => [(ff_terms_Covers xs).ok]⟩ :=
 fn_sound CH4_ok (Λ := (fun _ => Λ_terms_Covers CH4.Γ)) (fn := Tryz.f125) (dfP [.d (.sl coverT)]) (by kernel_rfl) (fun c E hc => lam1f hc (by kernel_rfl) (b := loopF Tryz.f125 0) (by kernel_rfl) (Does.han CH4_ok rfl loop_terms_Covers)) (fun x => by kernel_rfl)
def ff_r10_Covers (x : denP [.d (.sl coverT)]) : Fr (denL [.bool]) :=
 Fr.br (bif decide (((List.length x.1) : Int) < 1) then true else decide (((List.length x.1) : Int) > 8)) (Fr.val (false, ())) (Fr.need (InL (good_r10_Covers ((0, x.1, ()), ())) (un_r10_Covers ((0, x.1, ()), ()))) (Fr.need (okr_r10_Covers ((0, x.1, ()), ())) (Fr.br (isL (res_r10_Covers ((0, x.1, ()), ()))) (Fr.val (true, ())) (Fr.val ((getR dR_r10_Covers (res_r10_Covers ((0, x.1, ()), ()))).1.1, ())))))
theorem ff_r10_Covers_ok : SoundCt Tryz.prog 117 ⟨[.d (.sl coverT)], [.bool], fun xs => (ff_r10_Covers xs).get, fun xs => [(ff_r10_Covers xs).ok]⟩ :=
 fn_sound CH4_ok (Λ := (fun _ => Λ_r10_Covers CH4.Γ)) (fn := Tryz.f117) (dfP [.d (.sl coverT)]) (by kernel_rfl) (fun c E hc => lam1f hc (by kernel_rfl) (b := loopF Tryz.f117 0) (by kernel_rfl) (Does.han CH4_ok rfl loop_r10_Covers)) (fun x => by kernel_rfl)
def ff_risk_Bands (x : denP [.d (.sl bandT)]) : Fr (denL [.bool]) :=
 Fr.need (InL (good_risk_Bands ((0, ((List.length x.1) : Int), x.1, x.1, -1, ()), ())) (un_risk_Bands ((0, ((List.length x.1) : Int), x.1, x.1, -1, ()), ()))) (Fr.need (okr_risk_Bands ((0, ((List.length x.1) : Int), x.1, x.1, -1, ()), ())) (Fr.br (isL (res_risk_Bands ((0, ((List.length x.1) : Int), x.1, x.1, -1, ()), ()))) (Fr.val (decide (((List.length (out_risk_Bands (getL dS_risk_Bands (res_risk_Bands ((0, ((List.length x.1) : Int), x.1, x.1, -1, ()), ())))).1.1) : Int) <= 100), ())) (Fr.val ((getR dR_risk_Bands (res_risk_Bands ((0, ((List.length x.1) : Int), x.1, x.1, -1, ()), ()))).1.1, ()))))
theorem ff_risk_Bands_ok : SoundCt Tryz.prog 154 ⟨[.d (.sl bandT)], [.bool], fun xs => (ff_risk_Bands xs).get, fun xs => [(ff_risk_Bands xs).ok]⟩ :=
 fn_sound CH4_ok (Λ := (fun _ => Λ_risk_Bands CH4.Γ)) (fn := Tryz.f154) (dfP [.d (.sl bandT)]) (by kernel_rfl) (fun c E hc => lam1f hc (by kernel_rfl) (b := loopF Tryz.f154 0) (by kernel_rfl) (Does.han CH4_ok rfl loop_risk_Bands)) (fun x => by kernel_rfl)
def ff_r06_Bands (x : denP [.d (.sl bandT)]) : Fr (denL [.bool]) :=
 Fr.br (decide (((List.length x.1) : Int) > 100)) (Fr.val (false, ())) (Fr.need (InL (good_r06_Bands ((0, x.1, ()), ())) (un_r06_Bands ((0, x.1, ()), ()))) (Fr.need (okr_r06_Bands ((0, x.1, ()), ())) (Fr.br (isL (res_r06_Bands ((0, x.1, ()), ()))) (Fr.val (true, ())) (Fr.val ((getR dR_r06_Bands (res_r06_Bands ((0, x.1, ()), ()))).1.1, ())))))
theorem ff_r06_Bands_ok : SoundCt Tryz.prog 162 ⟨[.d (.sl bandT)], [.bool], fun xs => (ff_r06_Bands xs).get, fun xs => [(ff_r06_Bands xs).ok]⟩ :=
 fn_sound CH4_ok (Λ := (fun _ => Λ_r06_Bands CH4.Γ)) (fn := Tryz.f162) (dfP [.d (.sl bandT)]) (by kernel_rfl) (fun c E hc => lam1f hc (by kernel_rfl) (b := loopF Tryz.f162 0) (by kernel_rfl) (Does.han CH4_ok rfl loop_r06_Bands)) (fun x => by kernel_rfl)
def ff_r07_factors (x : denP [.d ints]) : Fr (denL [.bool]) :=
 Fr.need (InL (good_r07_factors ((0, x.1, ()), ())) (un_r07_factors ((0, x.1, ()), ()))) (Fr.need (okr_r07_factors ((0, x.1, ()), ())) (Fr.br (isL (res_r07_factors ((0, x.1, ()), ()))) (Fr.val (true, ())) (Fr.val ((getR dR_r07_factors (res_r07_factors ((0, x.1, ()), ()))).1.1, ()))))
theorem ff_r07_factors_ok : SoundCt Tryz.prog 163 ⟨[.d ints], [.bool], fun xs => (ff_r07_factors xs).get, fun xs => [(ff_r07_factors xs).ok]⟩ :=
 fn_sound CH4_ok (Λ := (fun _ => Λ_r07_factors CH4.Γ)) (fn := Tryz.f163) (dfP [.d ints]) (by kernel_rfl) (fun c E hc => lam1f hc (by kernel_rfl) (b := loopF Tryz.f163 0) (by kernel_rfl) (Does.han CH4_ok rfl loop_r07_factors)) (fun x => by kernel_rfl)
theorem len_big {T : Type} {l : List T} (h : l.length <= maxLen) : (l.length : Int) <= 9223372036854775807 := by
 simp only [maxLen] at h
 omega
theorem wf_len {w : World} {F : Nat -> Prop} {t : Ty} {l : List t.den} {v : Value} (h : RepP Tryz.prog w F (.d (.sl t)) l v) : (l.length : Int) <= 9223372036854775807 := len_big (RepT.wf (t := .sl t) h.2.2).1
def factorsB (l : List Int) : Bool := l.all fun n => decide (0 <= n /\ n <= 100000)
def cFactors : Ct := ⟨[.d ints], [.bool], fun x => (factorsB x.1, ()), fun _ => []⟩
theorem factors_go (l : List Int) : isL (goL step_r07_factors l ((), ())) = factorsB l := by
 induction l with
 | nil => rfl
 | cons e r ih =>
  have e1 : factorsB (e :: r) = (decide (0 <= e /\ e <= 100000) && factorsB r) := rfl
  rw [e1, ← ih]
  by_cases h : (bif decide (e < 0) then true else decide (e > 100000)) = true
  ·have hg : (step_r07_factors e ((), ())).get = .inr ((false, ()), ()) := if_pos h
   simp only [goL, hg]
   have : decide (0 <= e /\ e <= 100000) = false := by
    simp only [Bool.cond_true_left, Bool.or_eq_true, decide_eq_true_eq] at h
    exact decide_eq_false (by omega)
   rw [this]
   rfl
  ·have hg : (step_r07_factors e ((), ())).get = .inl ((), ()) := if_neg h
   simp only [goL, hg]
   have : decide (0 <= e /\ e <= 100000) = true := by
    simp only [Bool.cond_true_left, Bool.or_eq_true, decide_eq_true_eq, not_or] at h
    exact decide_eq_true (by omega)
   rw [this, Bool.true_and]
theorem factors_ok : SoundCt Tryz.prog 163 cFactors :=
 conv ff_r07_factors_ok _ _ (fun w F x vs hr _ => by
  obtain ⟨l, _⟩ := x
  obtain ⟨v, vs', rfl, hv, _⟩ := hr
  have hlen := wf_len hv
  refine ⟨⟨⟨trivial, Int.le_refl _, Int.natCast_nonneg _, hlen⟩, okL_of (step := step_r07_factors) (fun e s => ⟨fun _ => trivial, fun _ => trivial⟩) _ _, fun _ => trivial, fun _ => trivial⟩, ?_⟩
  show (if isL (goL step_r07_factors l ((), ())) = true then ((true, ()) : Bool × Unit) else ((getR dR_r07_factors (goL step_r07_factors l ((), ()))).1.1, ())) = (factorsB l, ())
  by_cases h : isL (goL step_r07_factors l ((), ())) = true
  ·rw [if_pos h, ← factors_go, h]
  ·have h' : isL (goL step_r07_factors l ((), ())) = false := by simpa using h
   have hc := goL_const (d := dR_r07_factors) (c := ((false, ()), ())) (step := step_r07_factors) (fun e s y hy => by
    by_cases hb : (bif decide (e < 0) then true else decide (e > 100000)) = true
    ·have hg : (step_r07_factors e s).get = .inr ((false, ()), ()) := if_pos hb
     rw [hg] at hy
     exact (Sum.inr.inj hy).symm
    ·have hg : (step_r07_factors e s).get = .inl ((), ()) := if_neg hb
     rw [hg] at hy
     cases hy) l ((), ()) h'
   rw [if_neg h, hc, ← factors_go, h'])
def allF {T σ : Type} (p : T -> σ -> Bool) (f : T -> σ -> σ) : List T -> σ -> Bool
 | [], _ => true
 | e :: r, s => p e s && allF p f r (f e s)
def endF {T σ : Type} (f : T -> σ -> σ) : List T -> σ -> σ
 | [], s => s
 | e :: r, s => endF f r (f e s)
theorem bool_loop {T σ ρ : Type} {step : T -> σ -> Fr (σ ⊕ ρ)} {p : T -> σ -> Bool} {f : T -> σ -> σ} {c : ρ} (h : ∀ e s, (step e s).get = if p e s = true then .inl (f e s) else .inr c) :
  (l : List T) -> (s : σ) -> goL step l s = if allF p f l s = true then .inl (endF f l s) else .inr c
 | [], s => rfl
 | e :: r, s => by
  simp only [goL, allF, endF]
  by_cases hp : p e s = true
  ·have hg := h e s
   rw [if_pos hp] at hg
   simp only [hg, hp, Bool.true_and]
   exact bool_loop h r (f e s)
  ·have hg := h e s
   rw [if_neg hp] at hg
   have hp' : p e s = false := by simpa using hp
   simp only [hg, hp', Bool.false_and]
   rfl
def coverOf (c : coverT.den) : Bool := coverB c.1 c.2.1 c.2.2.1 c.2.2.2.1 c.2.2.2.2.1
def allC : List coverT.den -> Int -> Bool
 | [], _ => true
 | c :: r, last => (decide (last < c.1) && coverOf c) && allC r c.1
def coversL (l : List coverT.den) : Bool := decide (1 <= l.length /\ l.length <= 8) && allC l (-1)
def cCovers : Ct := ⟨[.d (.sl coverT)], [.bool], fun x => (coversL x.1, ()), fun _ => []⟩
theorem tc_step (e : coverT.den) (s : st_terms_Covers) : (step_terms_Covers e s).get = if (decide (s.1.2.1 < e.1) && coverOf e) = true then .inl ((s.1.1, e.1, ()), ()) else .inr ((false, ()), ()) := by
 show (if (bif decide (e.1 <= s.1.2.1) then true else !(coverOf e)) = true then _ else _) = _
 have hb : (bif decide (e.1 <= s.1.2.1) then true else !(coverOf e)) = !(decide (s.1.2.1 < e.1) && coverOf e) := by
  have : decide (e.1 <= s.1.2.1) = !decide (s.1.2.1 < e.1) := by
   rw [Bool.eq_iff_iff]
   simp only [Bool.not_eq_true', decide_eq_true_eq, decide_eq_false_iff_not]
   exact Int.not_lt.symm
  rw [this]
  cases decide (s.1.2.1 < e.1) <;> cases coverOf e <;> rfl
 rw [hb]
 cases (decide (s.1.2.1 < e.1) && coverOf e) <;> rfl
theorem tc_all (l l0 : List coverT.den) (last : Int) : allF (fun (e : coverT.den) (s : st_terms_Covers) => decide (s.1.2.1 < e.1) && coverOf e) (fun e s => ((s.1.1, e.1, ()), ())) l ((l0, last, ()), ()) = allC l last := by
 induction l generalizing last with
 | nil => rfl
 | cons c r ih =>
  show ((decide (last < c.1) && coverOf c) && _) = ((decide (last < c.1) && coverOf c) && _)
  rw [ih]
theorem tc_end (l l0 : List coverT.den) (last : Int) : (endF (fun (e : coverT.den) (s : st_terms_Covers) => (((s.1.1, e.1, ()), ()) : st_terms_Covers)) l ((l0, last, ()), ())).1.1 = l0 := by
 induction l generalizing last with
 | nil => rfl
 | cons c r ih => exact ih c.1
theorem len_b (n : Nat) : (bif decide ((n : Int) ≥ 1) then decide ((n : Int) <= 8) else false) = decide (1 <= n /\ n <= 8) := by
 rw [Bool.eq_iff_iff]
 simp only [Bool.cond_false_right, Bool.and_eq_true, decide_eq_true_eq]
 omega
theorem len_b2 (n : Nat) : (bif decide ((n : Int) < 1) then true else decide ((n : Int) > 8)) = !decide (1 <= n /\ n <= 8) := by
 rw [Bool.eq_iff_iff]
 simp only [Bool.cond_true_left, Bool.or_eq_true, Bool.not_eq_true', decide_eq_true_eq, decide_eq_false_iff_not]
 omega
theorem terms_Covers_ok : SoundCt Tryz.prog 125 cCovers :=
 conv ff_terms_Covers_ok _ _ (fun w F x vs hr _ => by
  obtain ⟨l, _⟩ := x
  obtain ⟨v, vs', rfl, hv, _⟩ := hr
  have hlen := wf_len hv
  refine ⟨⟨⟨rfl, Int.le_refl _, Int.natCast_nonneg _, hlen⟩, okL_of (step := step_terms_Covers) (fun e s => ⟨fun _ => trivial, fun _ => trivial⟩) _ _, fun _ => trivial, fun _ => trivial⟩, ?_⟩
  have hres := bool_loop tc_step l ((l, -1, ()), ())
  rw [tc_all] at hres
  have hres' : res_terms_Covers ((0, (l.length : Int), l, l, -1, ()), ()) = if allC l (-1) = true then .inl _ else .inr _ := hres
  show (if isL (res_terms_Covers ((0, (l.length : Int), l, l, -1, ()), ())) = true then ((bif decide (((out_terms_Covers (getL dS_terms_Covers (res_terms_Covers ((0, (l.length : Int), l, l, -1, ()), ())))).1.1.length : Int) ≥ 1) then decide (((out_terms_Covers (getL dS_terms_Covers (res_terms_Covers ((0, (l.length : Int), l, l, -1, ()), ())))).1.1.length : Int) <= 8) else false, ()) : Bool × Unit) else ((getR dR_terms_Covers (res_terms_Covers ((0, (l.length : Int), l, l, -1, ()), ()))).1.1, ())) = (coversL l, ())
  rw [hres']
  unfold coversL
  cases allC l (-1) with
  | true =>
   have he : (out_terms_Covers (getL dS_terms_Covers (Sum.inl (endF (fun (e : coverT.den) (s : st_terms_Covers) => (((s.1.1, e.1, ()), ()) : st_terms_Covers)) l ((l, -1, ()), ())) : st_terms_Covers ⊕ pt_terms_Covers.R.X))).1.1 = l := tc_end l l (-1)
   show ((bif decide (((out_terms_Covers (getL dS_terms_Covers (Sum.inl (endF (fun (e : coverT.den) (s : st_terms_Covers) => (((s.1.1, e.1, ()), ()) : st_terms_Covers)) l ((l, -1, ()), ())) : st_terms_Covers ⊕ pt_terms_Covers.R.X))).1.1.length : Int) ≥ 1) then decide (((out_terms_Covers (getL dS_terms_Covers (Sum.inl (endF (fun (e : coverT.den) (s : st_terms_Covers) => (((s.1.1, e.1, ()), ()) : st_terms_Covers)) l ((l, -1, ()), ())) : st_terms_Covers ⊕ pt_terms_Covers.R.X))).1.1.length : Int) <= 8) else false, ()) : Bool × Unit) = _
   rw [he]
   exact congrArg (·, ()) ((len_b l.length).trans (Bool.and_true _).symm)
  | false =>
   rw [Bool.and_false]
   rfl)
def allC2 : List coverT.den -> Int -> coverT.den -> Bool
 | [], _, _ => true
 | c :: r, i, p => (coverOf c && (!decide (i > 0) || decide (p.1 < c.1))) && allC2 r (i + 1) c
theorem coverOf_low {c : coverT.den} (h : coverOf c = true) : -1 < c.1 := by
 unfold coverOf coverB at h
 have h' := (of_decide_eq_true h).1
 exact Int.lt_of_lt_of_le (by decide) h'
theorem allC2_eq (l : List coverT.den) (i : Int) (p : coverT.den) (hi : 0 <= i) : allC2 l i p = allC l (if i > 0 then p.1 else -1) := by
 induction l generalizing i p with
 | nil => rfl
 | cons c r ih =>
  simp only [allC2, allC]
  rw [ih (i + 1) c (by omega), if_pos (by omega)]
  congr 1
  by_cases h : i > 0
  ·rw [if_pos h, decide_eq_true h, Bool.and_comm]
   rfl
  ·rw [if_neg h, decide_eq_false h]
   cases hc : coverOf c with
   | true =>
    rw [decide_eq_true (coverOf_low hc)]
    rfl
   | false => rw [Bool.and_false]; rfl
theorem rc_step (e : coverT.den) (s : st_r10_Covers) : (step_r10_Covers e s).get = if (coverOf e && (!decide (s.2.1 > 0) || decide (s.2.2.1 < e.1))) = true then .inl (((), ()), s.2.1 + 1, e) else .inr ((false, ()), ()) := by
 show (if (!(coverOf e)) = true then _ else if decide (s.2.1 > 0) = true then (if decide (e.1 <= s.2.2.1) = true then _ else _) else _) = _
 have : decide (e.1 <= s.2.2.1) = !decide (s.2.2.1 < e.1) := by
  rw [Bool.eq_iff_iff]
  simp only [Bool.not_eq_true', decide_eq_true_eq, decide_eq_false_iff_not]
  exact Int.not_lt.symm
 rw [this]
 cases coverOf e <;> cases decide (s.2.1 > 0) <;> cases decide (s.2.2.1 < e.1) <;> rfl
theorem rc_all (l : List coverT.den) (u : Unit × Unit) (i : Int) (p : coverT.den) : allF (fun (e : coverT.den) (s : st_r10_Covers) => coverOf e && (!decide (s.2.1 > 0) || decide (s.2.2.1 < e.1))) (fun e s => (((), ()), s.2.1 + 1, e)) l (u, i, p) = allC2 l i p := by
 induction l generalizing u i p with
 | nil => rfl
 | cons c r ih =>
  show ((coverOf c && (!decide (i > 0) || decide (p.1 < c.1))) && _) = ((coverOf c && (!decide (i > 0) || decide (p.1 < c.1))) && _)
  rw [ih]
theorem r10_Covers_ok : SoundCt Tryz.prog 117 cCovers :=
 conv ff_r10_Covers_ok _ _ (fun w F x vs hr _ => by
  obtain ⟨l, _⟩ := x
  obtain ⟨v, vs', rfl, hv, _⟩ := hr
  have hlen := wf_len hv
  refine ⟨⟨fun _ => trivial, fun _ => ⟨⟨trivial, Int.le_refl _, Int.natCast_nonneg _, hlen⟩, okL_of (step := step_r10_Covers) (fun e s => ⟨fun _ => trivial, fun _ => ⟨fun _ => ⟨fun _ => trivial, fun _ => trivial⟩, fun _ => trivial⟩⟩) _ _, fun _ => trivial, fun _ => trivial⟩⟩, ?_⟩
  have hres := bool_loop rc_step l (((), ()), 0, l.getD (0 - 1 : Int).toNat coverT.dflt)
  have hz : (if (0 : Int) > 0 then (l.getD (0 - 1 : Int).toNat coverT.dflt).1 else -1) = -1 := if_neg (by decide)
  rw [rc_all, allC2_eq _ _ _ (Int.le_refl _), hz] at hres
  have hres' : res_r10_Covers ((0, l, ()), ()) = if allC l (-1) = true then .inl _ else .inr _ := hres
  show (if (bif decide ((l.length : Int) < 1) then true else decide ((l.length : Int) > 8)) = true then ((false, ()) : Bool × Unit) else if isL (res_r10_Covers ((0, l, ()), ())) = true then (true, ()) else ((getR dR_r10_Covers (res_r10_Covers ((0, l, ()), ()))).1.1, ())) = (coversL l, ())
  rw [hres']
  unfold coversL
  rw [len_b2]
  cases decide (1 <= l.length /\ l.length <= 8) <;> cases allC l (-1) <;> rfl)
def bandB (u b : Int) : Bool := decide (u <= 200 /\ 0 <= b /\ b <= 100000)
def allB : List bandT.den -> Int -> Bool
 | [], _ => true
 | c :: r, last => (decide (last < c.1) && bandB c.1 c.2.1) && allB r c.1
def bandsL (l : List bandT.den) : Bool := decide (l.length <= 100) && allB l (-1)
def cBands : Ct := ⟨[.d (.sl bandT)], [.bool], fun x => (bandsL x.1, ()), fun _ => []⟩
theorem bandA_b (u b last : Int) : (bif bif bif decide (u <= last) then true else decide (u > 200) then true else decide (b < 0) then true else decide (b > 100000)) = !(decide (last < u) && bandB u b) := by
 rw [Bool.eq_iff_iff]
 simp only [bandB, Bool.cond_true_left, Bool.or_eq_true, Bool.not_eq_true', Bool.and_eq_false_iff, decide_eq_true_eq, decide_eq_false_iff_not]
 omega
theorem bandR_b (u b : Int) : (bif bif bif decide (u < 0) then true else decide (u > 200) then true else decide (b < 0) then true else decide (b > 100000)) = !(decide (-1 < u) && bandB u b) := by
 rw [Bool.eq_iff_iff]
 simp only [bandB, Bool.cond_true_left, Bool.or_eq_true, Bool.not_eq_true', Bool.and_eq_false_iff, decide_eq_true_eq, decide_eq_false_iff_not]
 omega
theorem rb_step (e : bandT.den) (s : st_risk_Bands) : (step_risk_Bands e s).get = if (decide (s.1.2.1 < e.1) && bandB e.1 e.2.1) = true then .inl ((s.1.1, e.1, ()), ()) else .inr ((false, ()), ()) := by
 show (if (bif bif bif decide (e.1 <= s.1.2.1) then true else decide (e.1 > 200) then true else decide (e.2.1 < 0) then true else decide (e.2.1 > 100000)) = true then _ else _) = _
 have hb := bandA_b e.1 e.2.1 s.1.2.1
 rw [hb]
 cases (decide (s.1.2.1 < e.1) && bandB e.1 e.2.1) <;> rfl
theorem rb_all (l l0 : List bandT.den) (last : Int) : allF (fun (e : bandT.den) (s : st_risk_Bands) => decide (s.1.2.1 < e.1) && bandB e.1 e.2.1) (fun e s => ((s.1.1, e.1, ()), ())) l ((l0, last, ()), ()) = allB l last := by
 induction l generalizing last with
 | nil => rfl
 | cons c r ih =>
  show ((decide (last < c.1) && bandB c.1 c.2.1) && _) = ((decide (last < c.1) && bandB c.1 c.2.1) && _)
  rw [ih]
theorem rb_end (l l0 : List bandT.den) (last : Int) : (endF (fun (e : bandT.den) (s : st_risk_Bands) => (((s.1.1, e.1, ()), ()) : st_risk_Bands)) l ((l0, last, ()), ())).1.1 = l0 := by
 induction l generalizing last with
 | nil => rfl
 | cons c r ih => exact ih c.1
theorem len_c (n : Nat) : decide ((n : Int) <= 100) = decide (n <= 100) := by
 rw [Bool.eq_iff_iff]
 simp only [decide_eq_true_eq]
 omega
theorem len_c2 (n : Nat) : decide ((n : Int) > 100) = !decide (n <= 100) := by
 rw [Bool.eq_iff_iff]
 simp only [Bool.not_eq_true', decide_eq_true_eq, decide_eq_false_iff_not]
 omega
theorem bands_ok : SoundCt Tryz.prog 154 cBands :=
 conv ff_risk_Bands_ok _ _ (fun w F x vs hr _ => by
  obtain ⟨l, _⟩ := x
  obtain ⟨v, vs', rfl, hv, _⟩ := hr
  have hlen := wf_len hv
  refine ⟨⟨⟨rfl, Int.le_refl _, Int.natCast_nonneg _, hlen⟩, okL_of (step := step_risk_Bands) (fun e s => ⟨fun _ => trivial, fun _ => trivial⟩) _ _, fun _ => trivial, fun _ => trivial⟩, ?_⟩
  have hres := bool_loop rb_step l ((l, -1, ()), ())
  rw [rb_all] at hres
  have hres' : res_risk_Bands ((0, (l.length : Int), l, l, -1, ()), ()) = if allB l (-1) = true then .inl _ else .inr _ := hres
  show (if isL (res_risk_Bands ((0, (l.length : Int), l, l, -1, ()), ())) = true then ((decide (((out_risk_Bands (getL dS_risk_Bands (res_risk_Bands ((0, (l.length : Int), l, l, -1, ()), ())))).1.1.length : Int) <= 100), ()) : Bool × Unit) else ((getR dR_risk_Bands (res_risk_Bands ((0, (l.length : Int), l, l, -1, ()), ()))).1.1, ())) = (bandsL l, ())
  rw [hres']
  unfold bandsL
  cases allB l (-1) with
  | true =>
   have he : (out_risk_Bands (getL dS_risk_Bands (Sum.inl (endF (fun (e : bandT.den) (s : st_risk_Bands) => (((s.1.1, e.1, ()), ()) : st_risk_Bands)) l ((l, -1, ()), ())) : st_risk_Bands ⊕ pt_risk_Bands.R.X))).1.1 = l := rb_end l l (-1)
   show ((decide (((out_risk_Bands (getL dS_risk_Bands (Sum.inl (endF (fun (e : bandT.den) (s : st_risk_Bands) => (((s.1.1, e.1, ()), ()) : st_risk_Bands)) l ((l, -1, ()), ())) : st_risk_Bands ⊕ pt_risk_Bands.R.X))).1.1.length : Int) <= 100), ()) : Bool × Unit) = _
   rw [he]
   exact congrArg (·, ()) ((len_c l.length).trans (Bool.and_true _).symm)
  | false =>
   rw [Bool.and_false]
   rfl)
def allB2 : List bandT.den -> Int -> bandT.den -> Bool
 | [], _, _ => true
 | c :: r, i, p => ((decide (-1 < c.1) && bandB c.1 c.2.1) && (!decide (i > 0) || decide (p.1 < c.1))) && allB2 r (i + 1) c
theorem allB2_eq (l : List bandT.den) (i : Int) (p : bandT.den) (hi : 0 <= i) (hp : i > 0 -> -1 < p.1) : allB2 l i p = allB l (if i > 0 then p.1 else -1) := by
 induction l generalizing i p with
 | nil => rfl
 | cons c r ih =>
  simp only [allB2, allB]
  by_cases hc : -1 < c.1
  ·rw [ih (i + 1) c (by omega) (fun _ => hc), if_pos (by omega)]
   congr 1
   rw [decide_eq_true hc, Bool.true_and]
   by_cases h : i > 0
   ·rw [if_pos h, decide_eq_true h, Bool.and_comm]
    rfl
   ·rw [if_neg h, decide_eq_false h, decide_eq_true hc]
    cases bandB c.1 c.2.1 <;> rfl
  ·have h1 : decide (-1 < c.1) = false := decide_eq_false hc
   have h2 : decide ((if i > 0 then p.1 else -1) < c.1) = false := by
    refine decide_eq_false fun h => hc ?_
    by_cases h' : i > 0
    ·rw [if_pos h'] at h
     exact Int.lt_trans (hp h') h
    ·rw [if_neg h'] at h
     exact h
   rw [h1, h2]
   rfl
theorem r6b_step (e : bandT.den) (s : st_r06_Bands) : (step_r06_Bands e s).get = if ((decide (-1 < e.1) && bandB e.1 e.2.1) && (!decide (s.2.1 > 0) || decide (s.2.2.1 < e.1))) = true then .inl (((), ()), s.2.1 + 1, e) else .inr ((false, ()), ()) := by
 show (if (bif bif bif decide (e.1 < 0) then true else decide (e.1 > 200) then true else decide (e.2.1 < 0) then true else decide (e.2.1 > 100000)) = true then _ else if decide (s.2.1 > 0) = true then (if decide (e.1 <= s.2.2.1) = true then _ else _) else _) = _
 have : decide (e.1 <= s.2.2.1) = !decide (s.2.2.1 < e.1) := by
  rw [Bool.eq_iff_iff]
  simp only [Bool.not_eq_true', decide_eq_true_eq, decide_eq_false_iff_not]
  exact Int.not_lt.symm
 have hb := bandR_b e.1 e.2.1
 rw [this, hb]
 cases (decide (-1 < e.1) && bandB e.1 e.2.1) <;> cases decide (s.2.1 > 0) <;> cases decide (s.2.2.1 < e.1) <;> rfl
theorem r6b_all (l : List bandT.den) (u : Unit × Unit) (i : Int) (p : bandT.den) : allF (fun (e : bandT.den) (s : st_r06_Bands) => (decide (-1 < e.1) && bandB e.1 e.2.1) && (!decide (s.2.1 > 0) || decide (s.2.2.1 < e.1))) (fun e s => (((), ()), s.2.1 + 1, e)) l (u, i, p) = allB2 l i p := by
 induction l generalizing u i p with
 | nil => rfl
 | cons c r ih =>
  show (((decide (-1 < c.1) && bandB c.1 c.2.1) && (!decide (i > 0) || decide (p.1 < c.1))) && _) = (((decide (-1 < c.1) && bandB c.1 c.2.1) && (!decide (i > 0) || decide (p.1 < c.1))) && _)
  rw [ih]
theorem r06_Bands_ok : SoundCt Tryz.prog 162 cBands :=
 conv ff_r06_Bands_ok _ _ (fun w F x vs hr _ => by
  obtain ⟨l, _⟩ := x
  obtain ⟨v, vs', rfl, hv, _⟩ := hr
  have hlen := wf_len hv
  refine ⟨⟨fun _ => trivial, fun _ => ⟨⟨trivial, Int.le_refl _, Int.natCast_nonneg _, hlen⟩, okL_of (step := step_r06_Bands) (fun e s => ⟨fun _ => trivial, fun _ => ⟨fun _ => ⟨fun _ => trivial, fun _ => trivial⟩, fun _ => trivial⟩⟩) _ _, fun _ => trivial, fun _ => trivial⟩⟩, ?_⟩
  have hres := bool_loop r6b_step l (((), ()), 0, l.getD (0 - 1 : Int).toNat bandT.dflt)
  have hz : (if (0 : Int) > 0 then (l.getD (0 - 1 : Int).toNat bandT.dflt).1 else -1) = -1 := if_neg (by decide)
  rw [r6b_all, allB2_eq _ _ _ (Int.le_refl _) (fun h => absurd h (by decide)), hz] at hres
  have hres' : res_r06_Bands ((0, l, ()), ()) = if allB l (-1) = true then .inl _ else .inr _ := hres
  show (if decide ((l.length : Int) > 100) = true then ((false, ()) : Bool × Unit) else if isL (res_r06_Bands ((0, l, ()), ())) = true then (true, ()) else ((getR dR_r06_Bands (res_r06_Bands ((0, l, ()), ()))).1.1, ())) = (bandsL l, ())
  rw [hres']
  unfold bandsL
  rw [len_c2]
  cases decide (l.length <= 100) <;> cases allB l (-1) <;> rfl)
def coverEq (a b : coverT.den) : Bool := (a.1 == b.1 && (a.2.1 == b.2.1 && (a.2.2.1 == b.2.2.1 && (a.2.2.2.1 == b.2.2.2.1 && (a.2.2.2.2.1 == b.2.2.2.2.1 && true)))))
theorem coverEq_iff {a b : coverT.den} : coverEq a b = true ↔ a = b := by
 obtain ⟨a1, a2, a3, a4, a5, _⟩ := a
 obtain ⟨b1, b2, b3, b4, b5, _⟩ := b
 simp only [coverEq, Bool.and_eq_true, beq_iff_eq, Prod.mk.injEq, and_true]
def sameC : List coverT.den -> List coverT.den -> Bool
 | [], [] => true
 | a :: l, b :: m => coverEq a b && sameC l m
 | _, _ => false
theorem sameC_iff : {l m : List coverT.den} -> (sameC l m = true ↔ l = m)
 | [], [] => by simp [sameC]
 | [], b :: m => by simp [sameC]
 | a :: l, [] => by simp [sameC]
 | a :: l, b :: m => by
  simp only [sameC, Bool.and_eq_true, List.cons.injEq]
  rw [coverEq_iff, sameC_iff]
def cSameC : Ct := ⟨[.d (.sl coverT), .d (.sl coverT)], [.bool], fun x => (sameC x.1 x.2.1, ()), fun _ => []⟩
theorem sameC_zip : {l m : List coverT.den} -> l.length = m.length -> sameC l m = (l.zip m).all fun e => coverEq e.1 e.2
 | [], [], _ => rfl
 | [], b :: m, h => by cases h
 | a :: l, [], h => by cases h
 | a :: l, b :: m, h => by
  simp only [sameC, List.zip_cons_cons, List.all_cons]
  rw [sameC_zip (by simpa using h)]
theorem sameC_len : {l m : List coverT.den} -> l.length ≠ m.length -> sameC l m = false := fun h => by
 cases hs : sameC _ _ with
 | true => exact absurd (congrArg List.length (sameC_iff.1 hs)) h
 | false => rfl
theorem allF_keep {T σ : Type} (p : T -> Bool) (l : List T) (s : σ) : allF (fun e _ => p e) (fun _ s => s) l s = l.all p := by
 induction l with
 | nil => rfl
 | cons e r ih => simp only [allF, List.all_cons]; rw [ih]
theorem s10_step (e : coverT.den × coverT.den) (s : st_r10_Same) : (step_r10_Same e s).get = if coverEq e.1 e.2 = true then .inl s else .inr ((false, ()), ()) := by
 show (if (!(coverEq e.1 e.2)) = true then _ else _) = _
 cases coverEq e.1 e.2 <;> rfl
theorem al_step (e : coverT.den × coverT.den) (s : st_alike) : (step_alike e s).get = if coverEq e.1 e.2 = true then .inl s else .inr ((false, ()), ()) := by
 show (if (!(coverEq e.1 e.2)) = true then _ else _) = _
 cases coverEq e.1 e.2 <;> rfl
theorem len_ne (a b : Nat) : ((a : Int) != (b : Int)) = !decide (a = b) := by
 rw [Bool.eq_iff_iff]
 simp only [bne_iff_ne, ne_eq, Bool.not_eq_true', decide_eq_false_iff_not]
 omega
theorem sameC10_ok : SoundCt Tryz.prog 112 cSameC :=
 conv ff_r10_Same_ok _ _ (fun w F x vs hr _ => by
  obtain ⟨l, m, _⟩ := x
  obtain ⟨v, vs', rfl, hv, _⟩ := hr
  have hlen : (l.length : Int) <= 9223372036854775807 := wf_len hv
  have hne := len_ne l.length m.length
  by_cases hlm : l.length = m.length
  ·have hne' : ((l.length : Int) != (m.length : Int)) = false := by rw [hne, decide_eq_true hlm]; rfl
   have hz : ((l.zip m).length : Int) <= 9223372036854775807 := by
    rw [List.length_zip]
    omega
   refine ⟨⟨fun _ => trivial, fun _ => ⟨⟨hlm, Int.le_refl _, Int.natCast_nonneg _, hz⟩, okL_of (step := step_r10_Same) (fun e s => ⟨fun _ => trivial, fun _ => trivial⟩) _ _, fun _ => trivial, fun _ => trivial⟩⟩, ?_⟩
   have hres := bool_loop (p := fun e _ => coverEq e.1 e.2) (f := fun _ s => s) s10_step (l.zip m) ((m, ()), ())
   rw [allF_keep, ← sameC_zip hlm] at hres
   have hres' : res_r10_Same ((0, l, m, ()), ()) = if sameC l m = true then .inl _ else .inr _ := hres
   show (if ((l.length : Int) != (m.length : Int)) = true then ((false, ()) : Bool × Unit) else if isL (res_r10_Same ((0, l, m, ()), ())) = true then (true, ()) else ((getR dR_r10_Same (res_r10_Same ((0, l, m, ()), ()))).1.1, ())) = (sameC l m, ())
   rw [hres', hne']
   cases sameC l m <;> rfl
  ·have hne' : ((l.length : Int) != (m.length : Int)) = true := by rw [hne, decide_eq_false hlm]; rfl
   refine ⟨⟨fun _ => trivial, fun hc => (by have hc' : ((l.length : Int) != (m.length : Int)) = false := hc; rw [hne'] at hc'; cases hc')⟩, ?_⟩
   show (if ((l.length : Int) != (m.length : Int)) = true then ((false, ()) : Bool × Unit) else _) = (sameC l m, ())
   rw [hne', sameC_len hlm]
   rfl)
theorem alike_ok : SoundCt Tryz.prog 129 cSameC :=
 conv ff_alike_ok _ _ (fun w F x vs hr _ => by
  obtain ⟨l, m, _⟩ := x
  obtain ⟨v, vs', rfl, hv, _⟩ := hr
  have hlen : (l.length : Int) <= 9223372036854775807 := wf_len hv
  have hne := len_ne l.length m.length
  by_cases hlm : l.length = m.length
  ·have hne' : ((l.length : Int) != (m.length : Int)) = false := by rw [hne, decide_eq_true hlm]; rfl
   have hz : ((l.zip m).length : Int) <= 9223372036854775807 := by
    rw [List.length_zip]
    omega
   refine ⟨⟨fun _ => trivial, fun _ => ⟨⟨⟨rfl, hlm⟩, Int.le_refl _, Int.natCast_nonneg _, hz⟩, okL_of (step := step_alike) (fun e s => ⟨fun _ => trivial, fun _ => trivial⟩) _ _, fun _ => trivial, fun _ => trivial⟩⟩, ?_⟩
   have hres := bool_loop (p := fun e _ => coverEq e.1 e.2) (f := fun _ s => s) al_step (l.zip m) ((m, ()), ())
   rw [allF_keep, ← sameC_zip hlm] at hres
   have hres' : res_alike ((0, (l.length : Int), l, m, ()), ()) = if sameC l m = true then .inl _ else .inr _ := hres
   show (if ((l.length : Int) != (m.length : Int)) = true then ((false, ()) : Bool × Unit) else if isL (res_alike ((0, (l.length : Int), l, m, ()), ())) = true then (true, ()) else ((getR dR_alike (res_alike ((0, (l.length : Int), l, m, ()), ()))).1.1, ())) = (sameC l m, ())
   rw [hres', hne']
   cases sameC l m <;> rfl
  ·have hne' : ((l.length : Int) != (m.length : Int)) = true := by rw [hne, decide_eq_false hlm]; rfl
   refine ⟨⟨fun _ => trivial, fun hc => (by have hc' : ((l.length : Int) != (m.length : Int)) = false := hc; rw [hne'] at hc'; cases hc')⟩, ?_⟩
   show (if ((l.length : Int) != (m.length : Int)) = true then ((false, ()) : Bool × Unit) else _) = (sameC l m, ())
   rw [hne', sameC_len hlm]
   rfl)
abbrev termsT : Ty := .pair spanT (.pair riskT (.pair (.sl coverT) .unit))
abbrev changeT : Ty := .pair i64 (.pair i64 (.pair i64 (.pair riskT (.pair (.sl coverT) (.pair i64 .unit)))))
abbrev histT : Ty := .pair i64 (.pair i64 (.pair termsT (.pair (.sl changeT) .unit)))
abbrev four : Ty := .pair i64 (.pair i64 (.pair i64 (.pair i64 .unit)))
abbrev verT : Ty := .pair i64 (.pair four (.pair (.sl bandT) (.pair ints (.pair ints (.pair i64 .unit)))))
abbrev tarT : Ty := .pair (.sl verT) .unit
noncomputable def CH9 : Cx := cx [(123, cRisk), (116, cRisk), (154, cBands), (162, cBands), (163, cFactors), (125, cCovers), (117, cCovers), (115, cFullS), (129, cSameC), (112, cSameC), (67, cIn), (70, cIn)] []
theorem CH9_ok : CxOK Tryz.prog CH9 := cx_ok mixed ⟨risk_ok, risk6_ok, bands_ok, r06_Bands_ok, factors_ok, terms_Covers_ok, r10_Covers_ok, full04_ok, alike_ok, sameC10_ok, inS_ok, in3_ok, trivial⟩ trivial
def ff_change_1 (x : denP [.d changeT]) : Fr (denL [.bool]) :=
 Fr.val (bif bif (cRisk.f ((x.1.2.2.2.1.1, x.1.2.2.2.1.2.1, x.1.2.2.2.1.2.2.1, x.1.2.2.2.1.2.2.2.1, ()), ())).1 then ((List.length x.1.2.2.2.2.1) : Int) == 0 else false then x.1.2.2.2.2.2.1 == 0 else false, ())
theorem ff_change_1_ok : SoundCt Tryz.prog 140 ⟨[.d changeT], [.bool], fun xs => (ff_change_1 xs).get, fun xs => [(ff_change_1 xs).ok]⟩ :=
 fn_sound CH9_ok (Λ := lam0) (fn := Tryz.f140) (dfP [.d changeT]) (by kernel_rfl) (fun c E _ => lam0_ok c 0) (fun x => by kernel_rfl)
def ff_change_2 (x : denP [.d changeT]) : Fr (denL [.bool]) :=
 Fr.val (bif bif (cCovers.f (x.1.2.2.2.2.1, ())).1 then x.1.2.2.2.1.1 == 0 && (x.1.2.2.2.1.2.1 == 0 && (x.1.2.2.2.1.2.2.1 == 0 && (x.1.2.2.2.1.2.2.2.1 == 0 && true))) else false then x.1.2.2.2.2.2.1 == 0 else false, ())
theorem ff_change_2_ok : SoundCt Tryz.prog 141 ⟨[.d changeT], [.bool], fun xs => (ff_change_2 xs).get, fun xs => [(ff_change_2 xs).ok]⟩ :=
 fn_sound CH9_ok (Λ := lam0) (fn := Tryz.f141) (dfP [.d changeT]) (by kernel_rfl) (fun c E _ => lam0_ok c 0) (fun x => by kernel_rfl)
def ff_change_3 (x : denP [.d changeT]) : Fr (denL [.bool]) :=
 Fr.val (bif bif bif x.1.2.2.2.2.2.1 == 0 then true else x.1.2.2.2.2.2.1 == 1 then ((List.length x.1.2.2.2.2.1) : Int) == 0 else false then x.1.2.2.2.1.1 == 0 && (x.1.2.2.2.1.2.1 == 0 && (x.1.2.2.2.1.2.2.1 == 0 && (x.1.2.2.2.1.2.2.2.1 == 0 && true))) else false, ())
theorem ff_change_3_ok : SoundCt Tryz.prog 142 ⟨[.d changeT], [.bool], fun xs => (ff_change_3 xs).get, fun xs => [(ff_change_3 xs).ok]⟩ :=
 fn_sound CH9_ok (Λ := lam0) (fn := Tryz.f142) (dfP [.d changeT]) (by kernel_rfl) (fun c E _ => lam0_ok c 0) (fun x => by kernel_rfl)
def ff_change_4 (x : denP [.d changeT]) : Fr (denL [.bool]) :=
 Fr.val (bif bif x.1.2.2.2.2.2.1 == 0 then ((List.length x.1.2.2.2.2.1) : Int) == 0 else false then x.1.2.2.2.1.1 == 0 && (x.1.2.2.2.1.2.1 == 0 && (x.1.2.2.2.1.2.2.1 == 0 && (x.1.2.2.2.1.2.2.2.1 == 0 && true))) else false, ())
theorem ff_change_4_ok : SoundCt Tryz.prog 143 ⟨[.d changeT], [.bool], fun xs => (ff_change_4 xs).get, fun xs => [(ff_change_4 xs).ok]⟩ :=
 fn_sound CH9_ok (Λ := lam0) (fn := Tryz.f143) (dfP [.d changeT]) (by kernel_rfl) (fun c E _ => lam0_ok c 0) (fun x => by kernel_rfl)
def ff_holds (x : denP [.d sliceT, .d sliceT]) : Fr (denL [.bool]) :=
 Fr.val (bif bif x.1.2.1 == x.2.1.2.1 then x.1.2.2.1.1 == x.2.1.2.2.1.1 && (x.1.2.2.1.2.1 == x.2.1.2.2.1.2.1 && (x.1.2.2.1.2.2.1 == x.2.1.2.2.1.2.2.1 && (x.1.2.2.1.2.2.2.1 == x.2.1.2.2.1.2.2.2.1 && true))) else false then (cSameC.f (x.1.2.2.2.1, x.2.1.2.2.2.1, ())).1 else false, ())
theorem ff_holds_ok : SoundCt Tryz.prog 91 ⟨[.d sliceT, .d sliceT], [.bool], fun xs => (ff_holds xs).get, fun xs => [(ff_holds xs).ok]⟩ :=
 fn_sound CH9_ok (Λ := lam0) (fn := Tryz.f91) (dfP [.d sliceT, .d sliceT]) (by kernel_rfl) (fun c E _ => lam0_ok c 0) (fun x => by kernel_rfl)
def ck1 (c : changeT.den) : Bool := (ff_change_1 (c, ())).get.1
def ck2 (c : changeT.den) : Bool := (ff_change_2 (c, ())).get.1
def ck3 (c : changeT.den) : Bool := (ff_change_3 (c, ())).get.1
def ck4 (c : changeT.den) : Bool := (ff_change_4 (c, ())).get.1
def cCk1 : Ct := ⟨[.d changeT], [.bool], fun x => (ck1 x.1, ()), fun _ => []⟩
def cCk2 : Ct := ⟨[.d changeT], [.bool], fun x => (ck2 x.1, ()), fun _ => []⟩
def cCk3 : Ct := ⟨[.d changeT], [.bool], fun x => (ck3 x.1, ()), fun _ => []⟩
def cCk4 : Ct := ⟨[.d changeT], [.bool], fun x => (ck4 x.1, ()), fun _ => []⟩
theorem ck1_ok : SoundCt Tryz.prog 140 cCk1 := conv ff_change_1_ok _ _ (fun _ _ _ _ _ _ => ⟨trivial, rfl⟩)
theorem ck2_ok : SoundCt Tryz.prog 141 cCk2 := conv ff_change_2_ok _ _ (fun _ _ _ _ _ _ => ⟨trivial, rfl⟩)
theorem ck3_ok : SoundCt Tryz.prog 142 cCk3 := conv ff_change_3_ok _ _ (fun _ _ _ _ _ _ => ⟨trivial, rfl⟩)
theorem ck4_ok : SoundCt Tryz.prog 143 cCk4 := conv ff_change_4_ok _ _ (fun _ _ _ _ _ _ => ⟨trivial, rfl⟩)
def kindB (c : changeT.den) : Bool := if c.2.2.1 = 1 then ck1 c else if c.2.2.1 = 2 then ck2 c else if c.2.2.1 = 3 then ck3 c else if c.2.2.1 = 4 then ck4 c else false
def changeB (c : changeT.den) : Bool := dayB c.1 && (dayB c.2.1 && kindB c)
def cChange : Ct := ⟨[.d changeT], [.bool], fun x => (changeB x.1, ()), fun _ => []⟩
def termsB (t : termsT.den) : Bool := fullS t.1 && (decide (t.1.2.1 - t.1.1 <= 1100) && (riskB t.2.1.1 t.2.1.2.1 t.2.1.2.2.1 t.2.1.2.2.2.1 && coversL t.2.2.1))
def cTerms : Ct := ⟨[.d termsT], [.bool], fun x => (termsB x.1, ()), fun _ => []⟩
def riskEq (a b : riskT.den) : Bool := (a.1 == b.1 && (a.2.1 == b.2.1 && (a.2.2.1 == b.2.2.1 && (a.2.2.2.1 == b.2.2.2.1 && true))))
def holdsB (a b : sliceT.den) : Bool := (a.2.1 == b.2.1) && (riskEq a.2.2.1 b.2.2.1 && sameC a.2.2.2.1 b.2.2.2.1)
def cHolds : Ct := ⟨[.d sliceT, .d sliceT], [.bool], fun x => (holdsB x.1 x.2.1, ()), fun _ => []⟩
theorem holds_ok : SoundCt Tryz.prog 91 cHolds := conv ff_holds_ok _ _ (fun _ _ x _ _ _ => by
 obtain ⟨a, b, _⟩ := x
 exact ⟨trivial, congrArg (·, ()) (three (a.2.1 == b.2.1) (riskEq a.2.2.1 b.2.2.1) (sameC a.2.2.2.1 b.2.2.2.1))⟩)
def dayOf (h : histT.den) (i : Int) : Int := (h.2.2.2.1.getD i.toNat changeT.dflt).2.1
abbrev chL (h : histT.den) : List changeT.den := h.2.2.2.1
noncomputable def CO1 : Cx := cx [(108, cCmp)] []
theorem CO1_ok : CxOK Tryz.prog CO1 := cx_ok mixed ⟨cmp_ok, trivial⟩ trivial
def fr_ord1 (x : denP [.d i64, .d i64, .ptr histT]) : Fr (denL [i64]) :=
 Fr.need (0 <= x.1 /\ x.1 < ((chL x.2.2.1).length : Int)) (Fr.need (0 <= x.2.1 /\ x.2.1 < ((chL x.2.2.1).length : Int)) (Fr.val ((cCmp.f (dayOf x.2.2.1 x.1, dayOf x.2.2.1 x.2.1, ())).1, ())))
def cOrd1 : Ct := ⟨[.d i64, .d i64, .ptr histT], [i64], fun x => (cmpZ (dayOf x.2.2.1 x.1) (dayOf x.2.2.1 x.2.1), ()), fun x => [0 <= x.1 /\ x.1 < ((chL x.2.2.1).length : Int), 0 <= x.2.1 /\ x.2.1 < ((chL x.2.2.1).length : Int)]⟩
theorem ord1_ok : SoundCt Tryz.prog 107 cOrd1 :=
 conv (fn_sound CO1_ok (Λ := lam0) (fn := Tryz.f107) (fr := fr_ord1) (dfP [.d i64, .d i64, .ptr histT]) (by kernel_rfl) (fun c E _ => lam0_ok c 0) (fun x => by kernel_rfl)) _ _ fun _ _ x _ _ hok =>
  ⟨⟨hok.1, hok.2, trivial⟩, rfl⟩
def rangeI (n : Nat) : List Int := (List.range n).map fun i : Nat => (i : Int)
theorem rangeI_succ (n : Nat) : rangeI (n + 1) = rangeI n ++ [(n : Int)] := by simp [rangeI, List.range_succ]
theorem rangeI_length (n : Nat) : (rangeI n).length = n := by simp [rangeI]
theorem rangeI_mem {n : Nat} {x : Int} (h : x ∈ rangeI n) : 0 <= x /\ x < n := by
 simp only [rangeI, List.mem_map, List.mem_range] at h
 obtain ⟨i, hi, rfl⟩ := h
 omega
noncomputable def CO2 : Cx := cxK [(107, cOrd1)] [] (mtK (cx [(107, cOrd1)] []).Γ 106 mSort)
theorem CO2_ct : CxOK Tryz.prog (cx [(107, cOrd1)] []) := cx_ok mixed ⟨ord1_ok, trivial⟩ trivial
theorem CO2_ok : CxOK Tryz.prog CO2 := cxK_ok mixed ⟨ord1_ok, trivial⟩ trivial (mtK_ok CO2_ct.ct sort_ok)
abbrev pt_ord : Pt := ⟨20, 0, ⟨[(7, .d i64), (8, .d i64)], [.x 1 31 histT, .r 1 1 0, .o 3 3 i64]⟩, ⟨[], [.x 1 31 histT, .r 1 1 0, .o 3 3 i64]⟩, ⟨[], []⟩⟩
set_option maxRecDepth 100000 in
def fr_ordL (x : pt_ord.M.X) : Fr pt_ord.Out :=
 let n := x.1.1; let k := x.1.2.1; let h := x.2.1; let l := x.2.2.1
 Fr.br (decide (k < n))
  (Fr.need (l.length + [k].length <= maxLen /\ (l.length + [k].length) * Tryz.prog.types[3].bytes <= 140737488355328) (Fr.val (Rd.next ((n, IntKind.i64.wrap (k + 1), ()), (h, l ++ [k], ())))))
  (Fr.val (Rd.out ((), (h, l, ()))))
theorem sem_ord : Does Tryz.prog (loopF Tryz.f74 0) pt_ord.M pt_ord fr_ordL :=
 Does.of_run CO2_ok (bs := 0) (Λ := lam0) rfl rfl rfl (fun E => lam0_ok _ 0) (fun x => by kernel_rfl)
set_option maxRecDepth 100000 in
theorem intBytes : Tryz.prog.types[3].bytes = 8 := by kernel_rfl
structure InvOrd (n k : Int) (l : List Int) : Prop where
 k0 : 0 <= k
 kn : k <= n
 big : n <= 1000000
 ll : l = rangeI k.toNat
def FOrd (x : pt_ord.M.X) : Fr pt_ord.Out :=
 Fr.need (InvOrd x.1.1 x.1.2.1 x.2.2.1) (Fr.val (Rd.out ((), (x.2.1, rangeI x.1.1.toNat, ()))))
theorem lawOrd (n k : Int) (h : histT.den) (l : List Int) (hinv : InvOrd n k l) (Q : pt_ord.Out -> Prop) (hq : Q (Rd.out ((), (h, rangeI n.toNat, ())))) : (fr_ordL ((n, k, ()), (h, l, ()))).satP fun
   | .next x' => InvOrd x'.1.1 x'.1.2.1 x'.2.2.1 /\ (x'.1.1 - x'.1.2.1).toNat < (n - k).toNat /\ (FOrd x').satP Q
   | .out y => Q (.out y)
   | .back z => Q (.back z)
   | .pan p => Q (.pan p) := by
 obtain ⟨h0, h1, h2, h3⟩ := hinv
 subst h3
 dsimp only [fr_ordL, Fr.satP, Ty.den, PT.den]
 rw [intBytes]
 refine ⟨fun hi => ?_, fun hi => ?_⟩
 ·have hlt : k < n := of_decide_eq_true hi
  have w : IntKind.i64.wrap (k + 1) = k + 1 := IntWalk.i64_in _ (by omega)
  rw [w]
  have hI : InvOrd n (k + 1) (rangeI k.toNat ++ [k]) := ⟨by omega, by omega, h2, by rw [show (k + 1).toNat = k.toNat + 1 by omega, rangeI_succ, show ((k.toNat : Nat) : Int) = k by omega]⟩
  refine ⟨?_, hI, by omega, hI, hq⟩
  simp only [rangeI_length, List.length_cons, List.length_nil, maxLen]
  omega
 ·have hge : ¬ k < n := of_decide_eq_false hi
  rw [show n = k by omega] at hq
  exact hq
theorem loopOrd : Does Tryz.prog (.loop (loopF Tryz.f74 0)) pt_ord.M pt_ord FOrd := by
 refine Does.loop (n := 20) (id := 0) sem_ord (inv := fun x => InvOrd x.1.1 x.1.2.1 x.2.2.1) (μ := fun x => (x.1.1 - x.1.2.1).toNat) ?_ (fun x Q h => h.1)
 rintro ⟨⟨n, k, _⟩, ⟨h, l, _⟩⟩ hinv Q hq
 exact lawOrd n k h l hinv Q hq.2
noncomputable def ΛOrd : Nat -> St -> Option Tr := fun _ => pt_ord.han CO2.Γ pt_ord.M FOrd
def ordG (h : histT.den) : cmpT.den := (fun x => cOrd1.f (x.1, x.2.1, h, ()), fun x => conj (cOrd1.ok (x.1, x.2.1, h, ())))
noncomputable def fr_order (x : denP [.d histT]) : Fr (denL [.sl i64]) :=
 let n : Int := ((chL x.1).length : Int)
 Fr.need (InvOrd n 0 [])
 (Fr.need (((rangeI n.toNat).length : Int) <= 4611686018427387903)
  (Fr.need (OrdOf (ordG x.1) (rangeI n.toNat)) (Fr.val ((mSort.f (rangeI n.toNat) (ordG x.1, ())).1, ()))))
def ltDay (h : histT.den) (x y : Int) : Bool := decide (dayOf h x < dayOf h y)
def orderL (h : histT.den) : List Int := sortB (ltDay h) (rangeI (chL h).length)
theorem ltOf_ord (h : histT.den) : ltOf (ordG h) = ltDay h := by
 funext x y
 show decide (cmpZ (dayOf h x) (dayOf h y) < 0) = decide (dayOf h x < dayOf h y)
 rw [decide_eq_decide]
 unfold cmpZ
 split
 ·simp [*]
 ·split <;> simp <;> omega
def cOrder : Ct := ⟨[.d histT], [.sl i64], fun x => (orderL x.1, ()), fun x => [((chL x.1).length : Int) <= 1000000]⟩
theorem order_ok : SoundCt Tryz.prog 74 cOrder :=
 conv (fn_sound CO2_ok (Λ := ΛOrd) (fn := Tryz.f74) (fr := fr_order) (ps := [.d histT]) (rs := [.sl i64]) (dfP [.d histT]) (by kernel_rfl)
  (fun c E hc => lam1f hc (by kernel_rfl) (b := loopF Tryz.f74 0) (by kernel_rfl) (Does.han CO2_ok rfl loopOrd)) (fun x => by kernel_rfl)) _ _ fun _ _ x _ _ hok => by
  obtain ⟨h, rfl⟩ : ∃ h : histT.den, x = (h, ()) := ⟨x.1, rfl⟩
  have hok' : ((chL h).length : Int) <= 1000000 := hok
  have e : ((chL h).length : Int).toNat = (chL h).length := rfl
  dsimp only [fr_order, Fr.ok, Fr.get, mSort]
  rw [e, ltOf_ord, rangeI_length]
  refine ⟨⟨⟨Int.le_refl _, by omega, hok', rfl⟩, by omega, ⟨fun x hx y hy => ⟨rangeI_mem hx, rangeI_mem hy⟩, dayOf h, fun x _ y _ => by rw [ltOf_ord]; rfl⟩, trivial⟩, rfl⟩
section
variable {key : Int -> Int} {lt : Int -> Int -> Bool}
theorem sortB_left {x : Int} {a b : List Int} (hl : LtK lt key ((x :: a) ++ b)) (sa : SortK key (x :: a)) (sb : ∀ y ∈ b, key x <= key y) : sortB lt ((x :: a) ++ b) = x :: sortB lt (a ++ b) := by
 have hl2 : LtK lt key (a ++ b) := hl.sub fun z hz => by simp at hz ⊢; exact .inr hz
 obtain ⟨h1, h2⟩ := sortB_sort hl2
 symm
 refine eq_sortB hl (List.pairwise_cons.2 ⟨fun y hy => ?_, h1⟩) ?_
 ·rcases List.mem_append.1 (sortB_mem.1 hy) with h | h
  ·exact (List.pairwise_cons.1 sa).1 y h
  ·exact sb y h
 ·have := (SameK.refl (key := key) [x]).app h2
  simpa using this
theorem sortB_right {y : Int} {a b : List Int} (hl : LtK lt key (a ++ (y :: b))) (sb : SortK key (y :: b)) (sa : ∀ x ∈ a, key y < key x) : sortB lt (a ++ (y :: b)) = y :: sortB lt (a ++ b) := by
 have hl2 : LtK lt key (a ++ b) := hl.sub fun z hz => by simp at hz ⊢; rcases hz with h | h <;> simp [h]
 obtain ⟨h1, h2⟩ := sortB_sort hl2
 symm
 refine eq_sortB hl (List.pairwise_cons.2 ⟨fun z hz => ?_, h1⟩) ?_
 ·rcases List.mem_append.1 (sortB_mem.1 hz) with h | h
  ·exact Int.le_of_lt (sa z h)
  ·exact (List.pairwise_cons.1 sb).1 z h
 ·have e1 : SameK key ((a ++ [y]) ++ b) (([y] ++ a) ++ b) := (SameK.swap fun u hu v hv => by simp at hv; subst hv; have := sa u hu; omega).app (SameK.refl b)
  have e2 := (SameK.refl (key := key) [y]).app h2
  have e3 : SameK key (a ++ (y :: b)) ([y] ++ (a ++ b)) := by simpa using e1
  have := e3.trans e2
  simpa using this
theorem sortB_two {a b : List Int} (hl : LtK lt key (a ++ b)) : sortB lt (sortB lt a ++ sortB lt b) = sortB lt (a ++ b) := by
 have ha : LtK lt key a := hl.sub fun z hz => List.mem_append_left _ hz
 have hb : LtK lt key b := hl.sub fun z hz => List.mem_append_right _ hz
 have hs : LtK lt key (sortB lt a ++ sortB lt b) := hl.sub fun z hz => by
  rcases List.mem_append.1 hz with h | h
  ·exact List.mem_append_left _ (sortB_mem.1 h)
  ·exact List.mem_append_right _ (sortB_mem.1 h)
 obtain ⟨h1, h2⟩ := sortB_sort hs
 exact eq_sortB hl h1 (((sortB_sort ha).2.app (sortB_sort hb).2).trans h2)
end
theorem ltDay_ltK (h : histT.den) (l : List Int) : LtK (ltDay h) (dayOf h) l := fun _ _ _ _ => rfl
noncomputable def CM0 : Cx := cx [] []
theorem CM0_ok : CxOK Tryz.prog CM0 := cx_ok mixed trivial trivial
abbrev pt_mrg : Pt := ⟨70, 0, ⟨[(1, .d ints), (2, .d ints), (8, .d i64), (9, .d i64)], [.x 3 31 histT, .r 3 3 0, .o 7 3 i64]⟩, ⟨[], [.o 7 3 i64]⟩, ⟨[], []⟩⟩
set_option maxRecDepth 100000 in
def fr_mrg (x : pt_mrg.M.X) : Fr pt_mrg.Out :=
 let a : List Int := x.1.1; let b : List Int := x.1.2.1; let i : Int := x.1.2.2.1; let j : Int := x.1.2.2.2.1; let h : histT.den := x.2.1; let l : List Int := x.2.2.1
 Fr.br (bif decide (i < (a.length : Int)) then true else decide (j < (b.length : Int)))
  (Fr.need (decide (i < (a.length : Int)) = true -> (j == (b.length : Int)) = false -> 0 <= i /\ i < (a.length : Int))
   (Fr.need (decide (i < (a.length : Int)) = true -> (j == (b.length : Int)) = false -> 0 <= a.getD i.toNat i64.dflt /\ a.getD i.toNat i64.dflt < ((chL h).length : Int))
    (Fr.need (decide (i < (a.length : Int)) = true -> (j == (b.length : Int)) = false -> 0 <= j /\ j < (b.length : Int))
     (Fr.need (decide (i < (a.length : Int)) = true -> (j == (b.length : Int)) = false -> 0 <= b.getD j.toNat i64.dflt /\ b.getD j.toNat i64.dflt < ((chL h).length : Int))
      (Fr.br (bif j == (b.length : Int) then true else bif decide (i < (a.length : Int)) then decide (dayOf h (a.getD i.toNat i64.dflt) <= dayOf h (b.getD j.toNat i64.dflt)) else false)
       (Fr.need (0 <= i /\ i < (a.length : Int))
        (Fr.need (l.length + [a.getD i.toNat i64.dflt].length <= maxLen /\ (l.length + [a.getD i.toNat i64.dflt].length) * Tryz.prog.types[3].bytes <= 140737488355328)
         (Fr.val (Rd.next ((a, b, IntKind.i64.wrap (i + 1), j, ()), (h, l ++ [a.getD i.toNat i64.dflt], ()))))))
       (Fr.need (0 <= j /\ j < (b.length : Int))
        (Fr.need (l.length + [b.getD j.toNat i64.dflt].length <= maxLen /\ (l.length + [b.getD j.toNat i64.dflt].length) * Tryz.prog.types[3].bytes <= 140737488355328)
         (Fr.val (Rd.next ((a, b, i, IntKind.i64.wrap (j + 1), ()), (h, l ++ [b.getD j.toNat i64.dflt], ())))))))))))
  (Fr.val (Rd.out ((), (l, ()))))
theorem sem_mrg : Does Tryz.prog (loopF Tryz.f137 0) pt_mrg.M pt_mrg fr_mrg :=
 Does.of_run CM0_ok (bs := 0) (Λ := lam0) rfl rfl rfl (fun E => lam0_ok _ 0) (fun x => by kernel_rfl)
structure InvMrg (a b : List Int) (i j : Int) (h : histT.den) (l : List Int) : Prop where
 i0 : 0 <= i
 j0 : 0 <= j
 ia : i <= a.length
 jb : j <= b.length
 room : (l.length : Int) + (a.length - i) + (b.length - j) <= 1000000
 small : (a.length : Int) + b.length <= 1000000
 inA : ∀ x ∈ a, 0 <= x /\ x < ((chL h).length : Int)
 inB : ∀ x ∈ b, 0 <= x /\ x < ((chL h).length : Int)
 sA : SortK (dayOf h) a
 sB : SortK (dayOf h) b
def FMrg (x : pt_mrg.M.X) : Fr pt_mrg.Out :=
 let a : List Int := x.1.1; let b : List Int := x.1.2.1; let i : Int := x.1.2.2.1; let j : Int := x.1.2.2.2.1; let h : histT.den := x.2.1; let l : List Int := x.2.2.1
 Fr.need (InvMrg a b i j h l) (Fr.val (Rd.out ((), (l ++ sortB (ltDay h) (a.drop i.toNat ++ b.drop j.toNat), ()))))
theorem drop_at {l : List Int} {i : Nat} (h : i < l.length) : l.drop i = l.getD i 0 :: l.drop (i + 1) := by
 rw [List.drop_eq_getElem_cons h]
 simp [List.getD_eq_getElem?_getD, List.getElem?_eq_getElem h]
theorem sortK_drop {key : Int -> Int} {l : List Int} (h : SortK key l) (i : Nat) : SortK key (l.drop i) := List.Pairwise.sublist (List.drop_sublist i l) h
theorem lawMrg (a b : List Int) (i j : Int) (h : histT.den) (l : List Int) (hinv : InvMrg a b i j h l) (Q : pt_mrg.Out -> Prop)
  (hq : Q (Rd.out ((), (l ++ sortB (ltDay h) (a.drop i.toNat ++ b.drop j.toNat), ())))) : (fr_mrg ((a, b, i, j, ()), (h, l, ()))).satP fun
   | .next x' => InvMrg x'.1.1 x'.1.2.1 x'.1.2.2.1 x'.1.2.2.2.1 x'.2.1 x'.2.2.1 /\ ((List.length (α := Int) x'.1.1 : Int) - x'.1.2.2.1).toNat + ((List.length (α := Int) x'.1.2.1 : Int) - x'.1.2.2.2.1).toNat < ((a.length : Int) - i).toNat + ((b.length : Int) - j).toNat /\ (FMrg x').satP Q
   | .out y => Q (.out y)
   | .back z => Q (.back z)
   | .pan p => Q (.pan p) := by
 obtain ⟨h0, h1, h2, h3, h4, h44, h5, h6, h7, h8⟩ := hinv
 obtain ⟨i', rfl⟩ : ∃ n : Nat, i = n := ⟨i.toNat, by omega⟩
 obtain ⟨j', rfl⟩ : ∃ n : Nat, j = n := ⟨j.toNat, by omega⟩
 have hA : i' < a.length -> a.getD i' 0 ∈ a := fun h => getD_mem h
 have hB : j' < b.length -> b.getD j' 0 ∈ b := fun h => getD_mem h
 simp only [Int.toNat_natCast] at hq
 dsimp only [fr_mrg, Fr.satP, Ty.den, PT.den]
 rw [intBytes]
 simp only [Int.toNat_natCast, List.length_cons, List.length_nil]
 have takeA : i' < a.length -> (j' < b.length -> dayOf h (a.getD i' 0) <= dayOf h (b.getD j' 0)) ->
   InvMrg a b ((i' + 1 : Nat) : Int) j' h (l ++ [a.getD i' 0]) /\ Q (Rd.out ((), (l ++ [a.getD i' 0] ++ sortB (ltDay h) (a.drop (i' + 1) ++ b.drop j'), ()))) := fun hi hle => by
  refine ⟨⟨by omega, by omega, by omega, h3, by simp; omega, h44, h5, h6, h7, h8⟩, ?_⟩
  have e := sortB_left (lt := ltDay h) (key := dayOf h) (x := a.getD i' 0) (a := a.drop (i' + 1)) (b := b.drop j') (ltDay_ltK _ _) (by rw [← drop_at hi]; exact sortK_drop h7 i') (fun y hy => by
   have hj : j' < b.length := by
    rcases Nat.lt_or_ge j' b.length with h | h
    ·exact h
    ·rw [List.drop_eq_nil_of_le h] at hy; simp at hy
   have hs := sortK_drop h8 j'
   rw [drop_at hj] at hs hy
   rcases List.mem_cons.1 hy with rfl | hy
   ·exact hle hj
   ·exact Int.le_trans (hle hj) ((List.pairwise_cons.1 hs).1 y hy))
  rw [drop_at hi, e] at hq
  simpa using hq
 have takeB : j' < b.length -> (i' < a.length -> ¬ dayOf h (a.getD i' 0) <= dayOf h (b.getD j' 0)) ->
   InvMrg a b (i' : Int) ((j' + 1 : Nat) : Int) h (l ++ [b.getD j' 0]) /\ Q (Rd.out ((), (l ++ [b.getD j' 0] ++ sortB (ltDay h) (a.drop i' ++ b.drop (j' + 1)), ()))) := fun hj hlt => by
  refine ⟨⟨by omega, by omega, h2, by omega, by simp; omega, h44, h5, h6, h7, h8⟩, ?_⟩
  have e := sortB_right (lt := ltDay h) (key := dayOf h) (y := b.getD j' 0) (a := a.drop i') (b := b.drop (j' + 1)) (ltDay_ltK _ _) (by rw [← drop_at hj]; exact sortK_drop h8 j') (fun x hx => by
   have hi : i' < a.length := by
    rcases Nat.lt_or_ge i' a.length with h | h
    ·exact h
    ·rw [List.drop_eq_nil_of_le h] at hx; simp at hx
   have hs := sortK_drop h7 i'
   rw [drop_at hi] at hs hx
   have hl := hlt hi
   rcases List.mem_cons.1 hx with rfl | hx
   ·omega
   ·have := (List.pairwise_cons.1 hs).1 x hx
    omega)
  rw [drop_at hj, e] at hq
  simpa using hq
 have w1 : i' < a.length -> IntKind.i64.wrap ((i' : Int) + 1) = (i' + 1 : Nat) := fun h => succ_nat (by omega)
 have w2 : j' < b.length -> IntKind.i64.wrap ((j' : Int) + 1) = (j' + 1 : Nat) := fun h => succ_nat (by omega)
 have fin : ∀ (p : Bool) (hp : p = true -> i' < a.length /\ (j' < b.length -> dayOf h (a.getD i' 0) <= dayOf h (b.getD j' 0))) (hp' : p = false -> j' < b.length /\ (i' < a.length -> ¬ dayOf h (a.getD i' 0) <= dayOf h (b.getD j' 0))), True := fun _ _ _ => trivial
 by_cases hi : i' < a.length
 ·have di : decide ((i' : Int) < (a.length : Int)) = true := decide_eq_true (by omega)
  rw [di]
  by_cases hj : j' < b.length
  ·have dj : ((j' : Int) == (b.length : Int)) = false := by rw [beq_eq_false_iff_ne]; omega
   rw [dj]
   refine ⟨fun _ => ⟨fun _ _ => ⟨by omega, by omega⟩, fun _ _ => h5 _ (hA hi), fun _ _ => ⟨by omega, by omega⟩, fun _ _ => h6 _ (hB hj), fun hc => ?_, fun hc => ?_⟩, fun hc => by cases hc⟩
   ·have hle : dayOf h (a.getD i' 0) <= dayOf h (b.getD j' 0) := of_decide_eq_true hc
    obtain ⟨k1, k2⟩ := takeA hi (fun _ => hle)
    rw [w1 hi]
    refine ⟨⟨by omega, by omega⟩, ⟨by simp only [maxLen]; omega, by omega⟩, k1, by omega, k1, k2⟩
   ·have hle : ¬ dayOf h (a.getD i' 0) <= dayOf h (b.getD j' 0) := of_decide_eq_false hc
    obtain ⟨k1, k2⟩ := takeB hj (fun _ => hle)
    rw [w2 hj]
    refine ⟨⟨by omega, by omega⟩, ⟨by simp only [maxLen]; omega, by omega⟩, k1, by omega, k1, k2⟩
  ·have dj : ((j' : Int) == (b.length : Int)) = true := by rw [beq_iff_eq]; omega
   rw [dj]
   refine ⟨fun _ => ⟨fun _ hc => (by cases hc), fun _ hc => (by cases hc), fun _ hc => (by cases hc), fun _ hc => (by cases hc), fun _ => ?_, fun hc => by cases hc⟩, fun hc => by cases hc⟩
   obtain ⟨k1, k2⟩ := takeA hi (fun h => absurd h hj)
   rw [w1 hi]
   refine ⟨⟨by omega, by omega⟩, ⟨by simp only [maxLen]; omega, by omega⟩, k1, by omega, k1, k2⟩
 ·have di : decide ((i' : Int) < (a.length : Int)) = false := decide_eq_false (by omega)
  rw [di]
  by_cases hj : j' < b.length
  ·have dj : ((j' : Int) == (b.length : Int)) = false := by rw [beq_eq_false_iff_ne]; omega
   rw [dj]
   refine ⟨fun _ => ⟨fun hc => (by cases hc), fun hc => (by cases hc), fun hc => (by cases hc), fun hc => (by cases hc), fun hc => (by cases hc), fun _ => ?_⟩, fun hc => ?_⟩
   ·obtain ⟨k1, k2⟩ := takeB hj (fun h => absurd h hi)
    rw [w2 hj]
    refine ⟨⟨by omega, by omega⟩, ⟨by simp only [maxLen]; omega, by omega⟩, k1, by omega, k1, k2⟩
   ·have : ¬ (j' : Int) < (b.length : Int) := of_decide_eq_false hc
    omega
  ·have dj : decide ((j' : Int) < (b.length : Int)) = false := decide_eq_false (by omega)
   rw [dj]
   refine ⟨fun hc => (by cases hc), fun _ => ?_⟩
   rw [List.drop_eq_nil_of_le (by omega), List.drop_eq_nil_of_le (by omega)] at hq
   simpa [sortB] using hq
theorem loopMrg : Does Tryz.prog (.loop (loopF Tryz.f137 0)) pt_mrg.M pt_mrg FMrg := by
 refine Does.loop (n := 70) (id := 0) sem_mrg (inv := fun x => InvMrg x.1.1 x.1.2.1 x.1.2.2.1 x.1.2.2.2.1 x.2.1 x.2.2.1) (μ := fun x => ((List.length (α := Int) x.1.1 : Int) - x.1.2.2.1).toNat + ((List.length (α := Int) x.1.2.1 : Int) - x.1.2.2.2.1).toNat) ?_ (fun x Q h => h.1)
 rintro ⟨⟨a, b, i, j, _⟩, ⟨h, l, _⟩⟩ hinv Q hq
 exact lawMrg a b i j h l hinv Q hq.2
noncomputable def ΛMrg : Nat -> St -> Option Tr := fun _ => pt_mrg.han CM0.Γ pt_mrg.M FMrg
def fr_merge (x : denP [.d histT, .d ints, .d ints]) : Fr (denL [.sl i64]) :=
 Fr.need (InvMrg x.2.1 x.2.2.1 0 0 x.1 []) (Fr.val ([] ++ sortB (ltDay x.1) (x.2.1.drop (0 : Int).toNat ++ x.2.2.1.drop (0 : Int).toNat), ()))
structure MrgOk (h : histT.den) (a b : List Int) : Prop where
 inA : ∀ x ∈ a, 0 <= x /\ x < ((chL h).length : Int)
 inB : ∀ x ∈ b, 0 <= x /\ x < ((chL h).length : Int)
 sA : SortK (dayOf h) a
 sB : SortK (dayOf h) b
 room : (a.length : Int) + b.length <= 1000000
def cMerge : Ct := ⟨[.d histT, .d ints, .d ints], [.sl i64], fun x => (sortB (ltDay x.1) (x.2.1 ++ x.2.2.1), ()), fun x => [MrgOk x.1 x.2.1 x.2.2.1]⟩
theorem merge_ok : SoundCt Tryz.prog 137 cMerge :=
 conv (fn_sound CM0_ok (Λ := ΛMrg) (fn := Tryz.f137) (fr := fr_merge) (ps := [.d histT, .d ints, .d ints]) (rs := [.sl i64]) (dfP [.d histT, .d ints, .d ints]) (by kernel_rfl)
  (fun c E hc => lam1f hc (by kernel_rfl) (b := loopF Tryz.f137 0) (by kernel_rfl) (Does.han CM0_ok rfl loopMrg)) (fun x => by kernel_rfl)) _ _ fun _ _ x _ _ hok => by
  obtain ⟨h, a, b, rfl⟩ : ∃ (h : histT.den) (a b : List Int), x = (h, a, b, ()) := ⟨x.1, x.2.1, x.2.2.1, rfl⟩
  have hok' : MrgOk h a b := hok
  obtain ⟨h1, h2, h3, h4, h5⟩ := hok'
  exact ⟨⟨⟨Int.le_refl _, Int.le_refl _, by omega, by omega, by simp; omega, h5, h1, h2, h3, h4⟩, trivial⟩, rfl⟩
def rangeFT (a b : Nat) : List Int := (List.range' a (b - a)).map fun i : Nat => (i : Int)
theorem rangeFT_split {a m b : Nat} (h1 : a <= m) (h2 : m <= b) : rangeFT a m ++ rangeFT m b = rangeFT a b := by
 unfold rangeFT
 rw [← List.map_append]
 congr 1
 rw [show List.range' m (b - m) = List.range' (a + (m - a)) (b - m) by congr 1; omega, List.range'_append_1]
 congr 1
 omega
theorem rangeFT_mem {a b : Nat} {x : Int} (h : x ∈ rangeFT a b) : (a : Int) <= x /\ x < b := by
 simp only [rangeFT, List.mem_map, List.mem_range'_1] at h
 obtain ⟨i, hi, rfl⟩ := h
 omega
theorem rangeFT_zero (n : Nat) : rangeFT 0 n = rangeI n := by simp [rangeFT, rangeI, List.range_eq_range']
theorem rangeFT_length (a b : Nat) : (rangeFT a b).length = b - a := by simp [rangeFT]
structure OrdOk (n : Nat) (h : histT.den) (a b : Int) : Prop where
 a0 : 0 <= a
 ab : a <= b
 bl : b <= ((chL h).length : Int)
 big : ((chL h).length : Int) <= 1000000
 size : b - a < n
def cOrderR (n : Nat) : Ct := ⟨[.d histT, .d i64, .d i64], [.sl i64], fun x => (sortB (ltDay x.1) (rangeFT x.2.1.toNat x.2.2.1.toNat), ()), fun x => [OrdOk n x.1 x.2.1 x.2.2.1]⟩
noncomputable def CM1 (n : Nat) : Cx := cx [(137, cMerge), (100, cOrderR n)] []
def halfI (a b : Int) : Int := IntKind.i64.wrap ((IntKind.i64.wrap (a + b)).tdiv 2)
def fr_orderR (n : Nat) (x : denP [.d histT, .d i64, .d i64]) : Fr (denL [.sl i64]) :=
 let h := x.1; let a : Int := x.2.1; let b : Int := x.2.2.1
 Fr.br (decide (IntKind.i64.wrap (b - a) < 1)) (Fr.val ([], ()))
  (Fr.br (IntKind.i64.wrap (b - a) == 1) (Fr.val ([a], ()))
   (Fr.need ((2 : Int) ≠ 0)
    (Fr.need (OrdOk n h a (halfI a b))
     (Fr.need (OrdOk n h (halfI a b) b)
      (Fr.need (MrgOk h ((cOrderR n).f (h, a, halfI a b, ())).1 ((cOrderR n).f (h, halfI a b, b, ())).1)
       (Fr.val ((cMerge.f (h, ((cOrderR n).f (h, a, halfI a b, ())).1, ((cOrderR n).f (h, halfI a b, b, ())).1, ())).1, ())))))))
theorem run_orderR (n : Nat) (x : denP [.d histT, .d i64, .d i64]) : runFn Tryz.prog (CM1 n) lam0 Tryz.f100 [.d histT, .d i64, .d i64] [.sl i64] x = some (fr_orderR n x) := by kernel_rfl
theorem orderR_plain (n : Nat) (h : histT.den) (a b : Int) (hok : OrdOk (n + 1) h a b) : (fr_orderR n (h, a, b, ())).ok /\ (fr_orderR n (h, a, b, ())).get = (sortB (ltDay h) (rangeFT a.toNat b.toNat), ()) := by
 obtain ⟨h0, h1, h2, h3, h4⟩ := hok
 obtain ⟨a', rfl⟩ : ∃ n : Nat, a = n := ⟨a.toNat, by omega⟩
 obtain ⟨b', rfl⟩ : ∃ n : Nat, b = n := ⟨b.toNat, by omega⟩
 have w1 : IntKind.i64.wrap ((b' : Int) - a') = (b' - a' : Nat) := sub_nat (by omega) (by omega)
 have w2 : halfI a' b' = ((a' + b') / 2 : Nat) := by
  unfold halfI
  rw [add_nat (by omega), Int.tdiv_eq_ediv_of_nonneg (by omega), IntWalk.i64_in _ (by omega)]
  omega
 dsimp only [fr_orderR]
 rw [w1, w2]
 simp only [Int.toNat_natCast]
 by_cases c1 : b' - a' < 1
 ·have hd : decide (((b' - a' : Nat) : Int) < 1) = true := decide_eq_true (by omega)
  rw [hd]
  refine ⟨⟨fun _ => trivial, fun hc => by cases hc⟩, ?_⟩
  show ([], ()) = (sortB (ltDay h) (rangeFT a' b'), ())
  have : rangeFT a' b' = [] := List.eq_nil_of_length_eq_zero (by rw [rangeFT_length]; omega)
  rw [this]
  rfl
 ·have hd : decide (((b' - a' : Nat) : Int) < 1) = false := decide_eq_false (by omega)
  rw [hd]
  by_cases c2 : b' - a' = 1
  ·have hd : (((b' - a' : Nat) : Int) == 1) = true := by rw [c2]; rfl
   rw [hd]
   refine ⟨⟨fun hc => (by cases hc), fun _ => ⟨fun _ => trivial, fun hc => by cases hc⟩⟩, ?_⟩
   show ([(a' : Int)], ()) = (sortB (ltDay h) (rangeFT a' b'), ())
   have : rangeFT a' b' = [(a' : Int)] := by simp [rangeFT, c2]
   rw [this]
   rfl
  ·have hd : (((b' - a' : Nat) : Int) == 1) = false := by rw [beq_eq_false_iff_ne]; omega
   rw [hd]
   have q1 : OrdOk n h (a' : Int) ((a' + b') / 2 : Nat) := ⟨h0, by omega, by omega, h3, by omega⟩
   have q2 : OrdOk n h ((a' + b') / 2 : Nat) (b' : Int) := ⟨by omega, by omega, h2, h3, by omega⟩
   have s1 := sortB_sort (l := rangeFT a' ((a' + b') / 2)) (ltDay_ltK h _)
   have s2 := sortB_sort (l := rangeFT ((a' + b') / 2) b') (ltDay_ltK h _)
   have q3 : MrgOk h (sortB (ltDay h) (rangeFT a' ((a' + b') / 2))) (sortB (ltDay h) (rangeFT ((a' + b') / 2) b')) :=
    ⟨fun x hx => (by have := rangeFT_mem (sortB_mem.1 hx); omega), fun x hx => (by have := rangeFT_mem (sortB_mem.1 hx); omega), s1.1, s2.1, by rw [sortB_length, sortB_length, rangeFT_length, rangeFT_length]; omega⟩
   refine ⟨⟨fun hc => (by cases hc), fun _ => ⟨fun hc => (by cases hc), fun _ => ⟨by decide, q1, q2, q3, trivial⟩⟩⟩, ?_⟩
   show (sortB (ltDay h) (sortB (ltDay h) (rangeFT a' ((a' + b') / 2)) ++ sortB (ltDay h) (rangeFT ((a' + b') / 2) b')), ()) = _
   rw [sortB_two (ltDay_ltK h _), rangeFT_split (by omega) (by omega)]
theorem orderR_ok : (n : Nat) -> SoundCt Tryz.prog 100 (cOrderR n)
 | 0 => by
  have hf : Tryz.prog.funcs[100]? = some Tryz.f100 := by kernel_rfl
  obtain ⟨c, hb⟩ : ∃ c, Tryz.f100.body = some c := ⟨_, rfl⟩
  refine ⟨enters hf hb (by kernel_rfl), fun w F xs vs _ _ hok => ?_⟩
  have h : OrdOk 0 xs.1 xs.2.1 xs.2.2.1 := hok
  have h1 := h.ab
  have h2 := h.size
  omega
 | n + 1 => by
  have hC : CxOK Tryz.prog (CM1 n) := cx_ok mixed ⟨merge_ok, orderR_ok n, trivial⟩ trivial
  refine conv (fn_sound hC (Λ := lam0) (fn := Tryz.f100) (fr := fr_orderR n) (ps := [.d histT, .d i64, .d i64]) (rs := [.sl i64]) (dfP [.d histT, .d i64, .d i64]) (by kernel_rfl) (fun c E _ => lam0_ok c 0) (run_orderR n)) _ _ fun _ _ x _ _ hok => ?_
  obtain ⟨h, a, b, rfl⟩ : ∃ (h : histT.den) (a b : Int), x = (h, a, b, ()) := ⟨x.1, x.2.1, x.2.2.1, rfl⟩
  exact orderR_plain n h a b hok
noncomputable def CM2 : Cx := cx [(100, cOrderR 1000001)] []
theorem CM2_ok : CxOK Tryz.prog CM2 := cx_ok mixed ⟨orderR_ok _, trivial⟩ trivial
def cOrder11 : Ct := ⟨[.d histT], [.sl i64], fun x => (orderL x.1, ()), fun x => [((chL x.1).length : Int) <= 1000000]⟩
def fr_order11 (x : denP [.d histT]) : Fr (denL [.sl i64]) :=
 Fr.need (OrdOk 1000001 x.1 0 ((chL x.1).length : Int)) (Fr.val (((cOrderR 1000001).f (x.1, 0, ((chL x.1).length : Int), ())).1, ()))
theorem order11_ok : SoundCt Tryz.prog 63 cOrder11 :=
 conv (fn_sound CM2_ok (Λ := lam0) (fn := Tryz.f63) (fr := fr_order11) (ps := [.d histT]) (rs := [.sl i64]) (dfP [.d histT]) (by kernel_rfl) (fun c E _ => lam0_ok c 0) (fun x => by kernel_rfl)) _ _ fun _ _ x _ _ hok => by
  obtain ⟨h, rfl⟩ : ∃ h : histT.den, x = (h, ()) := ⟨x.1, rfl⟩
  have hok' : ((chL h).length : Int) <= 1000000 := hok
  have ho : OrdOk 1000001 h 0 ((chL h).length : Int) := ⟨Int.le_refl _, by omega, Int.le_refl _, hok', by omega⟩
  refine ⟨⟨ho, trivial⟩, ?_⟩
  show (sortB (ltDay h) (rangeFT 0 (chL h).length), ()) = (orderL h, ())
  rw [rangeFT_zero]
  rfl
end Go.Proofs.YtplkgghjldndkaaGreat
namespace Go.Proofs.YtplkgghjldndkaaGreat
open Go Go.Ab Go.RowKit Go.Proofs
def doesC (s : sliceT.den) (c : changeT.den) : sliceT.den :=
 if c.2.2.1 = 1 then (s.1, s.2.1, c.2.2.2.1, s.2.2.2.1, s.2.2.2.2.1, ())
 else if c.2.2.1 = 2 then (s.1, s.2.1, s.2.2.1, c.2.2.2.2.1, s.2.2.2.2.1, ())
 else if c.2.2.1 = 3 then (s.1, false, s.2.2.1, s.2.2.2.1, s.2.2.2.2.1, ())
 else if c.2.2.1 = 4 then (s.1, true, s.2.2.1, s.2.2.2.1, s.2.2.2.2.1, ())
 else s
def chAt (h : histT.den) (i : Int) : changeT.den := (chL h).getD i.toNat changeT.dflt
def histB (h : histT.den) : Bool := (termsB h.2.2.1 && decide (h.2.2.2.1.length <= 2000)) && h.2.2.2.1.all fun c => changeB c && inB h.2.2.1.1.1 h.2.2.1.1.2.1 c.2.1
def cHist : Ct := ⟨[.d histT], [.bool], fun x => (histB x.1, ()), fun _ => []⟩
theorem allF_keep2 {T σ : Type} (p : T -> σ -> Bool) (l : List T) (s : σ) : allF p (fun _ s => s) l s = l.all fun e => p e s := by
 induction l with
 | nil => rfl
 | cons e r ih => simp only [allF, List.all_cons]; rw [ih]
abbrev Core : Type := Bool × riskT.den × List coverT.den
def coreS (s : sliceT.den) : Core := (s.2.1, s.2.2.1, s.2.2.2.1)
theorem riskEq_iff {a b : riskT.den} : riskEq a b = true ↔ a = b := by
 obtain ⟨a1, a2, a3, a4, _⟩ := a
 obtain ⟨b1, b2, b3, b4, _⟩ := b
 constructor
 ·intro h
  simp only [riskEq, Bool.and_eq_true, beq_iff_eq] at h
  obtain ⟨h1, h2, h3, h4, _⟩ := h
  rw [h1, h2, h3, h4]
 ·intro h
  cases h
  simp [riskEq]
theorem holdsB_iff {a b : sliceT.den} : holdsB a b = true ↔ coreS a = coreS b := by
 unfold holdsB coreS
 simp only [Bool.and_eq_true, beq_iff_eq, riskEq_iff, sameC_iff, Prod.mk.injEq]
def Runs (st : Int -> Core) (b : Int) : Int -> List sliceT.den -> Prop
 | a, [] => a = b
 | a, s :: l => s.1.1 = a /\ a < s.1.2.1 /\ s.2.2.2.2.1 = (0 : Int) /\ (∀ d, a <= d -> d < s.1.2.1 -> coreS s = st d) /\ (∀ t ∈ l.head?, coreS s ≠ coreS t) /\ Runs st b s.1.2.1 l
theorem Runs.le {st : Int -> Core} {b : Int} : {a : Int} -> {l : List sliceT.den} -> Runs st b a l -> a <= b
 | a, [], h => Int.le_of_eq h
 | a, s :: l, h => Int.le_trans (Int.le_of_lt h.2.1) (Runs.le h.2.2.2.2.2)
theorem Runs.at_ {st : Int -> Core} {b : Int} {s : sliceT.den} {l : List sliceT.den} {a : Int} (h : Runs st b a (s :: l)) : coreS s = st a := h.2.2.2.1 a (Int.le_refl a) h.2.1
def pushR : List sliceT.den -> sliceT.den -> List sliceT.den
 | [], s => [s]
 | [x], s => if holdsB x s = true then [((x.1.1, s.1.2.1, ()), x.2)] else [x, s]
 | x :: y :: r, s => x :: pushR (y :: r) s
theorem pushR_head (s : sliceT.den) : (y : sliceT.den) -> (r : List sliceT.den) -> ∃ y' r', pushR (y :: r) s = y' :: r' /\ coreS y' = coreS y
 | y, [] => by
  unfold pushR
  split
  ·exact ⟨_, _, rfl, rfl⟩
  ·exact ⟨_, _, rfl, rfl⟩
 | y, z :: r => ⟨y, _, rfl, rfl⟩
theorem Runs.push {st : Int -> Core} {m n : Int} {s : sliceT.den} (hs : s.1.1 = m /\ s.1.2.1 = n /\ s.2.2.2.2.1 = (0 : Int)) (hmn : m < n) (hst : ∀ d, m <= d -> d < n -> coreS s = st d) : {a : Int} -> {l : List sliceT.den} -> Runs st m a l -> Runs st n a (pushR l s)
 | a, [], h => by
  have h0 : a = m := h
  subst h0
  refine ⟨hs.1, by rw [hs.2.1]; exact hmn, hs.2.2, fun d h1 h2 => hst d h1 (by rw [hs.2.1] at h2; exact h2), fun t ht => (by cases ht), hs.2.1⟩
 | a, [x], h => by
  have hx : x.1.2.1 = m := h.2.2.2.2.2
  unfold pushR
  by_cases hh : holdsB x s = true
  ·rw [if_pos hh]
   have hc := holdsB_iff.1 hh
   refine ⟨h.1, ?_, h.2.2.1, fun d h1 h2 => ?_, fun t ht => (by cases ht), ?_⟩
   ·show a < s.1.2.1
    rw [hs.2.1]
    have h1 : a < x.1.2.1 := h.2.1
    rw [hx] at h1
    exact Int.lt_trans h1 hmn
   ·have h2' : d < n := by
     have : d < s.1.2.1 := h2
     rw [hs.2.1] at this
     exact this
    show coreS x = st d
    by_cases hd : d < m
    ·exact h.2.2.2.1 d h1 (by rw [hx]; exact hd)
    ·exact hc.trans (hst d (Int.not_lt.1 hd) h2')
   ·exact hs.2.1
  ·rw [if_neg hh]
   have hc : coreS x ≠ coreS s := fun e => hh (holdsB_iff.2 e)
   refine ⟨h.1, h.2.1, h.2.2.1, h.2.2.2.1, fun t ht => ?_, ?_⟩
   ·simp at ht
    subst ht
    exact hc
   ·rw [hx]
    exact ⟨hs.1, by rw [hs.2.1]; exact hmn, hs.2.2, fun d h1 h2 => hst d h1 (by rw [hs.2.1] at h2; exact h2), fun t ht => (by cases ht), hs.2.1⟩
 | a, x :: y :: r, h => by
  refine ⟨h.1, h.2.1, h.2.2.1, h.2.2.2.1, fun t ht => ?_, Runs.push hs hmn hst h.2.2.2.2.2⟩
  obtain ⟨y', r', e, hc⟩ := pushR_head s y r
  rw [e] at ht
  simp at ht
  subst ht
  rw [hc]
  exact h.2.2.2.2.1 y (by simp)
def doesK (k : Core) (c : changeT.den) : Core :=
 if c.2.2.1 = 1 then (k.1, c.2.2.2.1, k.2.2) else if c.2.2.1 = 2 then (k.1, k.2.1, c.2.2.2.2.1) else if c.2.2.1 = 3 then (false, k.2) else if c.2.2.1 = 4 then (true, k.2) else k
theorem coreS_does (s : sliceT.den) (c : changeT.den) : coreS (doesC s c) = doesK (coreS s) c := by
 unfold doesC doesK
 split
 ·rfl
 ·split
  ·rfl
  ·split
   ·rfl
   ·split <;> rfl
def holdK (d : Int) : List changeT.den -> Core -> Core
 | [], k => k
 | c :: l, k => holdK d l (if c.2.1 > d then k else doesK k c)
theorem holdK_append (d : Int) (k : Core) (m : List changeT.den) : (l : List changeT.den) -> (k : Core) -> holdK d (l ++ m) k = holdK d m (holdK d l k)
 | [], k => rfl
 | c :: l, k => holdK_append d k m l _
theorem holdK_none {d : Int} : {l : List changeT.den} -> (∀ c ∈ l, c.2.1 > d) -> (k : Core) -> holdK d l k = k
 | [], _, _ => rfl
 | c :: l, h, k => by
  unfold holdK
  rw [if_pos (h c (by simp))]
  exact holdK_none (fun x hx => h x (by simp [hx])) k
theorem holdK_all {d d' : Int} : {l : List changeT.den} -> (∀ c ∈ l, c.2.1 <= d) -> (∀ c ∈ l, c.2.1 <= d') -> (k : Core) -> holdK d l k = holdK d' l k
 | [], _, _, _ => rfl
 | c :: l, h, h', k => by
  unfold holdK
  rw [if_neg (Int.not_lt.2 (h c (by simp))), if_neg (Int.not_lt.2 (h' c (by simp)))]
  exact holdK_all (fun x hx => h x (by simp [hx])) (fun x hx => h' x (by simp [hx])) _
def chsO (h : histT.den) : List changeT.den := (orderL h).map (chAt h)
def stOf (h : histT.den) (d : Int) : Core := holdK d (chsO h) (true, h.2.2.1.2.1, h.2.2.1.2.2.1)
def endS (now : sliceT.den) (out : List sliceT.den) (day : Int) : List sliceT.den :=
 if now.1.1 = day then out else pushR out ((now.1.1, day, ()), now.2)
def goCut : List changeT.den -> sliceT.den -> List sliceT.den -> sliceT.den × List sliceT.den
 | [], now, out => (now, out)
 | c :: l, now, out => goCut l (doesC ((c.2.1, now.1.2.1, ()), now.2) c) (endS now out c.2.1)
def nowS (h : histT.den) : sliceT.den := ((h.2.2.1.1.1, 0, ()), true, h.2.2.1.2.1, h.2.2.1.2.2.1, 0, ())
def cutL (h : histT.den) : List sliceT.den := endS (goCut (chsO h) (nowS h) []).1 (goCut (chsO h) (nowS h) []).2 h.2.2.1.1.2.1
theorem does_span (s : sliceT.den) (c : changeT.den) : (doesC s c).1 = s.1 /\ (doesC s c).2.2.2.2.1 = s.2.2.2.2.1 := by
 unfold doesC
 split
 ·exact ⟨rfl, rfl⟩
 ·split
  ·exact ⟨rfl, rfl⟩
  ·split
   ·exact ⟨rfl, rfl⟩
   ·split <;> exact ⟨rfl, rfl⟩
theorem endS_runs {st : Int -> Core} {a n : Int} {now : sliceT.den} {out : List sliceT.den} (h : Runs st now.1.1 a out) (hle : now.1.1 <= n) (hy : now.2.2.2.2.1 = (0 : Int)) (hst : ∀ d, now.1.1 <= d -> d < n -> coreS now = st d) : Runs st n a (endS now out n) := by
 unfold endS
 by_cases he : now.1.1 = n
 ·rw [if_pos he, ← he]
  exact h
 ·rw [if_neg he]
  have hlt : now.1.1 < n := Int.lt_iff_le_and_ne.2 ⟨hle, he⟩
  exact Runs.push (s := ((now.1.1, n, ()), now.2)) ⟨rfl, rfl, hy⟩ hlt hst h
theorem goCut_runs {all : List changeT.den} {k0 : Core} {a b : Int} (hb : ∀ c ∈ all, c.2.1 <= b) : (l p : List changeT.den) -> p ++ l = all -> l.Pairwise (fun x y => x.2.1 <= y.2.1) -> (now : sliceT.den) -> (out : List sliceT.den) -> (∀ c ∈ p, c.2.1 <= now.1.1) -> (∀ c ∈ l, now.1.1 <= c.2.1) ->
  now.1.1 <= b -> now.2.2.2.2.1 = (0 : Int) -> coreS now = holdK now.1.1 p k0 -> Runs (fun d => holdK d all k0) now.1.1 a out ->
  Runs (fun d => holdK d all k0) b a (endS (goCut l now out).1 (goCut l now out).2 b)
 | [], p, hall, _, now, out, hp, _, hnb, hy, hc, hr => by
  rw [List.append_nil] at hall
  subst hall
  show Runs (fun d => holdK d p k0) b a (endS now out b)
  refine endS_runs hr hnb hy fun d h1 h2 => ?_
  rw [hc]
  exact holdK_all hp (fun c h => Int.le_trans (hp c h) h1) k0
 | c :: l, p, hall, hs, now, out, hp, hl, hnb, hy, hc, hr => by
  rw [List.pairwise_cons] at hs
  have hce : now.1.1 <= c.2.1 := hl c (by simp)
  have hr' : Runs (fun d => holdK d all k0) c.2.1 a (endS now out c.2.1) := by
   refine endS_runs hr hce hy fun d h1 h2 => ?_
   rw [hc]
   show _ = holdK d all k0
   rw [← hall, holdK_append d k0, holdK_none (l := c :: l) (fun x hx => ?_)]
   ·exact holdK_all hp (fun c h => Int.le_trans (hp c h) h1) k0
   ·rcases List.mem_cons.1 hx with rfl | hx
    ·exact h2
    ·exact Int.lt_of_lt_of_le h2 (hs.1 x hx)
  have hd := does_span ((c.2.1, now.1.2.1, ()), now.2) c
  have hf : (doesC ((c.2.1, now.1.2.1, ()), now.2) c).1.1 = c.2.1 := by rw [hd.1]
  refine goCut_runs hb l (p ++ [c]) (by simp [hall]) hs.2 _ _ (fun x hx => ?_) (fun x hx => ?_) ?_ ?_ ?_ ?_
  ·rw [hf]
   rcases List.mem_append.1 hx with hx | hx
   ·exact Int.le_trans (hp x hx) hce
   ·simp at hx
    subst hx
    exact Int.le_refl _
  ·rw [hf]; exact hs.1 x hx
  ·rw [hf]; exact hb c (by rw [← hall]; simp)
  ·rw [hd.2]; exact hy
  ·rw [hf, coreS_does, holdK_append _ k0]
   show doesK (coreS now) c = holdK c.2.1 [c] (holdK c.2.1 p k0)
   simp only [holdK]
   rw [if_neg (Int.lt_irrefl _), hc, holdK_all hp (fun x h => Int.le_trans (hp x h) hce)]
  ·rw [hf]; exact hr'
noncomputable def CHB0 : Cx := cx [] []
theorem CHB0_ok : CxOK Tryz.prog CHB0 := cx_ok (cs := []) (ps := []) mixed trivial trivial
abbrev pt_r12_Few : Pt := ⟨68, 0, ⟨[(5, .d i64)], [.x 2 31 histT, .r 2 2 0, .x 3 34 tarT, .r 3 3 0]⟩, ⟨[], [.x 3 34 tarT, .r 3 3 0]⟩, ⟨[(4, .d .bool)], []⟩⟩
def fr_r12_Few (x : pt_r12_Few.M.X) : Fr pt_r12_Few.Out :=
 Fr.br (decide (x.1.1 < ((List.length x.2.1.2.2.2.1) : Int))) (Fr.need (0 <= x.1.1 /\ x.1.1 < ((List.length x.2.1.2.2.2.1) : Int)) (Fr.br (decide (((List.length (List.getD x.2.1.2.2.2.1 (Int.toNat x.1.1) changeT.dflt).2.2.2.2.1) : Int) > 50)) (Fr.val (Rd.back ((false, ()), ()))) (Fr.val (Rd.next ((IntKind.i64.wrap (x.1.1 + 1), ()), (x.2.1.1, x.2.1.2.1, ((x.2.1.2.2.1.1.1, x.2.1.2.2.1.1.2.1, ()), (x.2.1.2.2.1.2.1.1, x.2.1.2.2.1.2.1.2.1, x.2.1.2.2.1.2.1.2.2.1, x.2.1.2.2.1.2.1.2.2.2.1, ()), x.2.1.2.2.1.2.2.1, ()), x.2.1.2.2.2.1, ()), (x.2.2.1.1, ()), ()))))) (Fr.val (Rd.out ((), (x.2.2.1.1, ()), ())))
theorem sem_r12_Few : Does Tryz.prog (loopF Tryz.f10 0) pt_r12_Few.M pt_r12_Few fr_r12_Few :=
 Does.of_run CHB0_ok (bs := 0) (Λ := lam0) rfl rfl rfl (fun E => lam0_ok _ 0) (fun x => by kernel_rfl)
abbrev st_r12_Few : Type := denP [] × denM [.x 2 31 histT, .r 2 2 0, .x 3 34 tarT, .r 3 3 0]
def step_r12_Few (e : changeT.den) (s : st_r12_Few) : Fr (st_r12_Few ⊕ pt_r12_Few.R.X) :=
 Fr.br (decide (((List.length e.2.2.2.2.1) : Int) > 50)) (Fr.val (.inr ((false, ()), ()))) (Fr.val (.inl ((), (s.2.1.1, s.2.1.2.1, ((s.2.1.2.2.1.1.1, s.2.1.2.2.1.1.2.1, ()), (s.2.1.2.2.1.2.1.1, s.2.1.2.2.1.2.1.2.1, s.2.1.2.2.1.2.1.2.2.1, s.2.1.2.2.1.2.1.2.2.2.1, ()), s.2.1.2.2.1.2.2.1, ()), s.2.1.2.2.2.1, ()), (s.2.2.1.1, ()), ())))
def un_r12_Few (x : pt_r12_Few.M.X) : Int × List changeT.den × st_r12_Few := (x.1.1, x.2.1.2.2.2.1, x.1.2, x.2)
def good_r12_Few (x : pt_r12_Few.M.X) : Prop := True
def out_r12_Few (s : st_r12_Few) : pt_r12_Few.E.X := ((), (s.2.2.1.1, ()), ())
def dS_r12_Few : st_r12_Few := (dfP _, dfM _)
def dR_r12_Few : pt_r12_Few.R.X := (dfP _, dfM _)
theorem loop_r12_Few : Does Tryz.prog (.loop (loopF Tryz.f10 0)) pt_r12_Few.M pt_r12_Few (FL step_r12_Few un_r12_Few good_r12_Few out_r12_Few Rd.back dS_r12_Few dR_r12_Few) := by
 refine Does.list sem_r12_Few step_r12_Few un_r12_Few good_r12_Few out_r12_Few Rd.back dS_r12_Few dR_r12_Few ?_ ?_
 ·rintro ⟨⟨i, s⟩, m⟩ hg h0 h1 hb e he Q h
  have h0 : 0 <= i := h0
  have h1 : i < (m.1.2.2.2.1.length : Int) := h1
  have hb : (m.1.2.2.2.1.length : Int) <= 9223372036854775807 := hb
  have hd : m.1.2.2.2.1.getD i.toNat changeT.dflt = e := getD_of he
  have hw := wrap_next h0 h1 hb
  dsimp only [un_r12_Few, step_r12_Few, fr_r12_Few, Fr.satP] at h ⊢
  simp only [hd, hw] at h ⊢
  refine ⟨fun _ => ?_, fun hn => absurd h1 (of_decide_eq_false hn)⟩
  repeat' first
   | exact h
   | exact ⟨h0, h1⟩
   | exact fun _ => ⟨h0, h1⟩
   | exact h _ rfl trivial
   | refine ⟨?_, ?_⟩
   | (intro (hc : _ = true); replace h := h.1 hc)
   | (intro (hc : _ = false); replace h := h.2 hc)
 ·rintro ⟨⟨i, s⟩, m⟩ hg h1 Q h
  exact ⟨fun hn => absurd (of_decide_eq_true hn) h1, fun _ => h⟩
def Λ_r12_Few (Γ : FuncId -> Option Ct) : St -> Option Tr := pt_r12_Few.han Γ pt_r12_Few.M (FL step_r12_Few un_r12_Few good_r12_Few out_r12_Few Rd.back dS_r12_Few dR_r12_Few)
def res_r12_Few (y : pt_r12_Few.M.X) : st_r12_Few ⊕ pt_r12_Few.R.X := goL step_r12_Few ((un_r12_Few y).2.1.drop (un_r12_Few y).1.toNat) (un_r12_Few y).2.2
def okr_r12_Few (y : pt_r12_Few.M.X) : Prop := okL step_r12_Few ((un_r12_Few y).2.1.drop (un_r12_Few y).1.toNat) (un_r12_Few y).2.2
abbrev pt_r12_Few1 : Pt := ⟨68, 2, ⟨[(6, .d i64)], [.x 3 34 tarT, .r 3 3 0]⟩, ⟨[], []⟩, ⟨[(4, .d .bool)], []⟩⟩
def fr_r12_Few1 (x : pt_r12_Few1.M.X) : Fr pt_r12_Few1.Out :=
 Fr.br (decide (x.1.1 < ((List.length x.2.1.1) : Int))) (Fr.need (0 <= x.1.1 /\ x.1.1 < ((List.length x.2.1.1) : Int)) (Fr.br (bif bif decide (((List.length (List.getD x.2.1.1 (Int.toNat x.1.1) verT.dflt).2.2.1) : Int) > 200) then true else decide (((List.length (List.getD x.2.1.1 (Int.toNat x.1.1) verT.dflt).2.2.2.1) : Int) > 200) then true else decide (((List.length (List.getD x.2.1.1 (Int.toNat x.1.1) verT.dflt).2.2.2.2.1) : Int) > 200)) (Fr.val (Rd.back ((false, ()), ()))) (Fr.val (Rd.next ((IntKind.i64.wrap (x.1.1 + 1), ()), (x.2.1.1, ()), ()))))) (Fr.val (Rd.out ((), ())))
theorem sem_r12_Few1 : Does Tryz.prog (loopF Tryz.f10 1) pt_r12_Few1.M pt_r12_Few1 fr_r12_Few1 :=
 Does.of_run CHB0_ok (bs := 0) (Λ := lam0) rfl rfl rfl (fun E => lam0_ok _ 0) (fun x => by kernel_rfl)
abbrev st_r12_Few1 : Type := denP [] × denM [.x 3 34 tarT, .r 3 3 0]
def step_r12_Few1 (e : verT.den) (s : st_r12_Few1) : Fr (st_r12_Few1 ⊕ pt_r12_Few1.R.X) :=
 Fr.br (bif bif decide (((List.length e.2.2.1) : Int) > 200) then true else decide (((List.length e.2.2.2.1) : Int) > 200) then true else decide (((List.length e.2.2.2.2.1) : Int) > 200)) (Fr.val (.inr ((false, ()), ()))) (Fr.val (.inl ((), (s.2.1.1, ()), ())))
def un_r12_Few1 (x : pt_r12_Few1.M.X) : Int × List verT.den × st_r12_Few1 := (x.1.1, x.2.1.1, x.1.2, x.2)
def good_r12_Few1 (x : pt_r12_Few1.M.X) : Prop := True
def out_r12_Few1 (s : st_r12_Few1) : pt_r12_Few1.E.X := ((), ())
def dS_r12_Few1 : st_r12_Few1 := (dfP _, dfM _)
def dR_r12_Few1 : pt_r12_Few1.R.X := (dfP _, dfM _)
theorem loop_r12_Few1 : Does Tryz.prog (.loop (loopF Tryz.f10 1)) pt_r12_Few1.M pt_r12_Few1 (FL step_r12_Few1 un_r12_Few1 good_r12_Few1 out_r12_Few1 Rd.back dS_r12_Few1 dR_r12_Few1) := by
 refine Does.list sem_r12_Few1 step_r12_Few1 un_r12_Few1 good_r12_Few1 out_r12_Few1 Rd.back dS_r12_Few1 dR_r12_Few1 ?_ ?_
 ·rintro ⟨⟨i, s⟩, m⟩ hg h0 h1 hb e he Q h
  have h0 : 0 <= i := h0
  have h1 : i < (m.1.1.length : Int) := h1
  have hb : (m.1.1.length : Int) <= 9223372036854775807 := hb
  have hd : m.1.1.getD i.toNat verT.dflt = e := getD_of he
  have hw := wrap_next h0 h1 hb
  dsimp only [un_r12_Few1, step_r12_Few1, fr_r12_Few1, Fr.satP] at h ⊢
  simp only [hd, hw] at h ⊢
  refine ⟨fun _ => ?_, fun hn => absurd h1 (of_decide_eq_false hn)⟩
  repeat' first
   | exact h
   | exact ⟨h0, h1⟩
   | exact fun _ => ⟨h0, h1⟩
   | exact h _ rfl trivial
   | refine ⟨?_, ?_⟩
   | (intro (hc : _ = true); replace h := h.1 hc)
   | (intro (hc : _ = false); replace h := h.2 hc)
 ·rintro ⟨⟨i, s⟩, m⟩ hg h1 Q h
  exact ⟨fun hn => absurd (of_decide_eq_true hn) h1, fun _ => h⟩
def Λ_r12_Few1 (Γ : FuncId -> Option Ct) : St -> Option Tr := pt_r12_Few1.han Γ pt_r12_Few1.M (FL step_r12_Few1 un_r12_Few1 good_r12_Few1 out_r12_Few1 Rd.back dS_r12_Few1 dR_r12_Few1)
def res_r12_Few1 (y : pt_r12_Few1.M.X) : st_r12_Few1 ⊕ pt_r12_Few1.R.X := goL step_r12_Few1 ((un_r12_Few1 y).2.1.drop (un_r12_Few1 y).1.toNat) (un_r12_Few1 y).2.2
def okr_r12_Few1 (y : pt_r12_Few1.M.X) : Prop := okL step_r12_Few1 ((un_r12_Few1 y).2.1.drop (un_r12_Few1 y).1.toNat) (un_r12_Few1 y).2.2
def ff_r12_Few (x : denP [.d histT, .d tarT]) : Fr (denL [.bool]) :=
 Fr.br (bif bif decide (((List.length x.1.2.2.2.1) : Int) > 60) then true else decide (((List.length x.2.1.1) : Int) > 100) then true else decide (((List.length x.1.2.2.1.2.2.1) : Int) > 50)) (Fr.val (false, ())) (Fr.need (InL (good_r12_Few ((0, ()), (x.1.1, x.1.2.1, ((x.1.2.2.1.1.1, x.1.2.2.1.1.2.1, ()), (x.1.2.2.1.2.1.1, x.1.2.2.1.2.1.2.1, x.1.2.2.1.2.1.2.2.1, x.1.2.2.1.2.1.2.2.2.1, ()), x.1.2.2.1.2.2.1, ()), x.1.2.2.2.1, ()), (x.2.1.1, ()), ())) (un_r12_Few ((0, ()), (x.1.1, x.1.2.1, ((x.1.2.2.1.1.1, x.1.2.2.1.1.2.1, ()), (x.1.2.2.1.2.1.1, x.1.2.2.1.2.1.2.1, x.1.2.2.1.2.1.2.2.1, x.1.2.2.1.2.1.2.2.2.1, ()), x.1.2.2.1.2.2.1, ()), x.1.2.2.2.1, ()), (x.2.1.1, ()), ()))) (Fr.need (okr_r12_Few ((0, ()), (x.1.1, x.1.2.1, ((x.1.2.2.1.1.1, x.1.2.2.1.1.2.1, ()), (x.1.2.2.1.2.1.1, x.1.2.2.1.2.1.2.1, x.1.2.2.1.2.1.2.2.1, x.1.2.2.1.2.1.2.2.2.1, ()), x.1.2.2.1.2.2.1, ()), x.1.2.2.2.1, ()), (x.2.1.1, ()), ())) (Fr.br (isL (res_r12_Few ((0, ()), (x.1.1, x.1.2.1, ((x.1.2.2.1.1.1, x.1.2.2.1.1.2.1, ()), (x.1.2.2.1.2.1.1, x.1.2.2.1.2.1.2.1, x.1.2.2.1.2.1.2.2.1, x.1.2.2.1.2.1.2.2.2.1, ()), x.1.2.2.1.2.2.1, ()), x.1.2.2.2.1, ()), (x.2.1.1, ()), ()))) (Fr.need (InL (good_r12_Few1 ((0, ()), ((out_r12_Few (getL dS_r12_Few (res_r12_Few ((0, ()), (x.1.1, x.1.2.1, ((x.1.2.2.1.1.1, x.1.2.2.1.1.2.1, ()), (x.1.2.2.1.2.1.1, x.1.2.2.1.2.1.2.1, x.1.2.2.1.2.1.2.2.1, x.1.2.2.1.2.1.2.2.2.1, ()), x.1.2.2.1.2.2.1, ()), x.1.2.2.2.1, ()), (x.2.1.1, ()), ())))).2.1.1, ()), ())) (un_r12_Few1 ((0, ()), ((out_r12_Few (getL dS_r12_Few (res_r12_Few ((0, ()), (x.1.1, x.1.2.1, ((x.1.2.2.1.1.1, x.1.2.2.1.1.2.1, ()), (x.1.2.2.1.2.1.1, x.1.2.2.1.2.1.2.1, x.1.2.2.1.2.1.2.2.1, x.1.2.2.1.2.1.2.2.2.1, ()), x.1.2.2.1.2.2.1, ()), x.1.2.2.2.1, ()), (x.2.1.1, ()), ())))).2.1.1, ()), ()))) (Fr.need (okr_r12_Few1 ((0, ()), ((out_r12_Few (getL dS_r12_Few (res_r12_Few ((0, ()), (x.1.1, x.1.2.1, ((x.1.2.2.1.1.1, x.1.2.2.1.1.2.1, ()), (x.1.2.2.1.2.1.1, x.1.2.2.1.2.1.2.1, x.1.2.2.1.2.1.2.2.1, x.1.2.2.1.2.1.2.2.2.1, ()), x.1.2.2.1.2.2.1, ()), x.1.2.2.2.1, ()), (x.2.1.1, ()), ())))).2.1.1, ()), ())) (Fr.br (isL (res_r12_Few1 ((0, ()), ((out_r12_Few (getL dS_r12_Few (goL step_r12_Few (List.drop (un_r12_Few ((0, ()), (x.1.1, x.1.2.1, ((x.1.2.2.1.1.1, x.1.2.2.1.1.2.1, ()), (x.1.2.2.1.2.1.1, x.1.2.2.1.2.1.2.1, x.1.2.2.1.2.1.2.2.1, x.1.2.2.1.2.1.2.2.2.1, ()), x.1.2.2.1.2.2.1, ()), x.1.2.2.2.1, ()), (x.2.1.1, ()), ())).1.toNat (un_r12_Few ((0, ()), (x.1.1, x.1.2.1, ((x.1.2.2.1.1.1, x.1.2.2.1.1.2.1, ()), (x.1.2.2.1.2.1.1, x.1.2.2.1.2.1.2.1, x.1.2.2.1.2.1.2.2.1, x.1.2.2.1.2.1.2.2.2.1, ()), x.1.2.2.1.2.2.1, ()), x.1.2.2.2.1, ()), (x.2.1.1, ()), ())).2.1) (un_r12_Few ((0, ()), (x.1.1, x.1.2.1, ((x.1.2.2.1.1.1, x.1.2.2.1.1.2.1, ()), (x.1.2.2.1.2.1.1, x.1.2.2.1.2.1.2.1, x.1.2.2.1.2.1.2.2.1, x.1.2.2.1.2.1.2.2.2.1, ()), x.1.2.2.1.2.2.1, ()), x.1.2.2.2.1, ()), (x.2.1.1, ()), ())).2.2))).2.1.1, ()), ()))) (Fr.val (true, ())) (Fr.val ((getR dR_r12_Few1 (res_r12_Few1 ((0, ()), ((out_r12_Few (getL dS_r12_Few (goL step_r12_Few (List.drop (un_r12_Few ((0, ()), (x.1.1, x.1.2.1, ((x.1.2.2.1.1.1, x.1.2.2.1.1.2.1, ()), (x.1.2.2.1.2.1.1, x.1.2.2.1.2.1.2.1, x.1.2.2.1.2.1.2.2.1, x.1.2.2.1.2.1.2.2.2.1, ()), x.1.2.2.1.2.2.1, ()), x.1.2.2.2.1, ()), (x.2.1.1, ()), ())).1.toNat (un_r12_Few ((0, ()), (x.1.1, x.1.2.1, ((x.1.2.2.1.1.1, x.1.2.2.1.1.2.1, ()), (x.1.2.2.1.2.1.1, x.1.2.2.1.2.1.2.1, x.1.2.2.1.2.1.2.2.1, x.1.2.2.1.2.1.2.2.2.1, ()), x.1.2.2.1.2.2.1, ()), x.1.2.2.2.1, ()), (x.2.1.1, ()), ())).2.1) (un_r12_Few ((0, ()), (x.1.1, x.1.2.1, ((x.1.2.2.1.1.1, x.1.2.2.1.1.2.1, ()), (x.1.2.2.1.2.1.1, x.1.2.2.1.2.1.2.1, x.1.2.2.1.2.1.2.2.1, x.1.2.2.1.2.1.2.2.2.1, ()), x.1.2.2.1.2.2.1, ()), x.1.2.2.2.1, ()), (x.2.1.1, ()), ())).2.2))).2.1.1, ()), ()))).1.1, ()))))) (Fr.val ((getR dR_r12_Few (res_r12_Few ((0, ()), (x.1.1, x.1.2.1, ((x.1.2.2.1.1.1, x.1.2.2.1.1.2.1, ()), (x.1.2.2.1.2.1.1, x.1.2.2.1.2.1.2.1, x.1.2.2.1.2.1.2.2.1, x.1.2.2.1.2.1.2.2.2.1, ()), x.1.2.2.1.2.2.1, ()), x.1.2.2.2.1, ()), (x.2.1.1, ()), ()))).1.1, ())))))
theorem ff_r12_Few_ok : SoundCt Tryz.prog 10 ⟨[.d histT, .d tarT], [.bool], fun xs => (ff_r12_Few xs).get, fun xs => [(ff_r12_Few xs).ok]⟩ :=
 fn_sound CHB0_ok (Λ := (fun k => if k = 0 then Λ_r12_Few CHB0.Γ else Λ_r12_Few1 CHB0.Γ)) (fn := Tryz.f10) (dfP [.d histT, .d tarT]) (by kernel_rfl) (fun c E hc => lam2f hc (by kernel_rfl) (b0 := loopF Tryz.f10 0) (b1 := loopF Tryz.f10 1) (by kernel_rfl) (by kernel_rfl) (Does.han CHB0_ok rfl loop_r12_Few) (Does.han CHB0_ok rfl loop_r12_Few1)) (fun x => by kernel_rfl)
def fewC (c : changeT.den) : Bool := decide (c.2.2.2.2.1.length <= 50)
def fewV (v : verT.den) : Bool := decide (v.2.2.1.length <= 200) && (decide (v.2.2.2.1.length <= 200) && decide (v.2.2.2.2.1.length <= 200))
def fewB (h : histT.den) (t : tarT.den) : Bool := (decide (h.2.2.2.1.length <= 60) && (decide (t.1.length <= 100) && decide (h.2.2.1.2.2.1.length <= 50))) && (h.2.2.2.1.all fewC && t.1.all fewV)
def cFew : Ct := ⟨[.d histT, .d tarT], [.bool], fun x => (fewB x.1 x.2.1, ()), fun _ => []⟩
theorem gt_b (n : Nat) (k : Nat) : decide ((n : Int) > (k : Int)) = !decide (n <= k) := by
 rw [Bool.eq_iff_iff]
 simp only [Bool.not_eq_true', decide_eq_true_eq, decide_eq_false_iff_not]
 omega
theorem fc_step (e : changeT.den) (s : st_r12_Few) : (step_r12_Few e s).get = if fewC e = true then .inl s else .inr ((false, ()), ()) := by
 show (if decide ((e.2.2.2.2.1.length : Int) > (50 : Nat)) = true then _ else _) = _
 rw [gt_b]
 unfold fewC
 cases decide (e.2.2.2.2.1.length <= 50) <;> rfl
theorem fv_step (e : verT.den) (s : st_r12_Few1) : (step_r12_Few1 e s).get = if fewV e = true then .inl s else .inr ((false, ()), ()) := by
 show (if (bif bif decide ((e.2.2.1.length : Int) > (200 : Nat)) then true else decide ((e.2.2.2.1.length : Int) > (200 : Nat)) then true else decide ((e.2.2.2.2.1.length : Int) > (200 : Nat))) = true then _ else _) = _
 rw [gt_b, gt_b, gt_b]
 unfold fewV
 cases decide (e.2.2.1.length <= 200) <;> cases decide (e.2.2.2.1.length <= 200) <;> cases decide (e.2.2.2.2.1.length <= 200) <;> rfl
theorem endF_keep {T σ : Type} (l : List T) (s : σ) : endF (fun _ s => s) l s = s := by
 induction l with
 | nil => rfl
 | cons e r ih => exact ih
theorem few_ok : SoundCt Tryz.prog 10 cFew :=
 conv ff_r12_Few_ok _ _ (fun w F x vs hr _ => by
  obtain ⟨h, t, _⟩ := x
  obtain ⟨v, vs', rfl, hv, v2, vs2, rfl, hv2, _⟩ := hr
  have hwf := RepT.wf hv.2.2
  have hwf2 := RepT.wf hv2.2.2
  have hlen : (h.2.2.2.1.length : Int) <= 9223372036854775807 := len_big hwf.2.2.2.1.1
  have hlen2 : (t.1.length : Int) <= 9223372036854775807 := len_big hwf2.1.1
  have hres := bool_loop (p := fun e _ => fewC e) (f := fun _ s => s) fc_step h.2.2.2.1 ((), (h, (t, ())))
  rw [allF_keep, endF_keep] at hres
  have hres' : res_r12_Few ((0, ()), (h, (t, ()))) = if h.2.2.2.1.all fewC = true then .inl ((), (h, (t, ()))) else .inr ((false, ()), ()) := hres
  have hres2 := bool_loop (p := fun e _ => fewV e) (f := fun _ s => s) fv_step t.1 ((), (t, ()))
  rw [allF_keep, endF_keep] at hres2
  have hres2' : res_r12_Few1 ((0, ()), (t, ())) = if t.1.all fewV = true then .inl ((), (t, ())) else .inr ((false, ()), ()) := hres2
  have ho : ∀ s, okr_r12_Few s := fun s => okL_of (step := step_r12_Few) (fun e s => ⟨fun _ => trivial, fun _ => trivial⟩) _ _
  have ho1 : ∀ s, okr_r12_Few1 s := fun s => okL_of (step := step_r12_Few1) (fun e s => ⟨fun _ => trivial, fun _ => trivial⟩) _ _
  have hcond : (bif bif decide ((h.2.2.2.1.length : Int) > (60 : Nat)) then true else decide ((t.1.length : Int) > (100 : Nat)) then true else decide ((h.2.2.1.2.2.1.length : Int) > (50 : Nat))) = !(decide (h.2.2.2.1.length <= 60) && (decide (t.1.length <= 100) && decide (h.2.2.1.2.2.1.length <= 50))) := by
   rw [gt_b, gt_b, gt_b]
   cases decide (h.2.2.2.1.length <= 60) <;> cases decide (t.1.length <= 100) <;> cases decide (h.2.2.1.2.2.1.length <= 50) <;> rfl
  have hin2 : isL (res_r12_Few ((0, ()), (h, (t, ())))) = true -> (out_r12_Few (getL dS_r12_Few (res_r12_Few ((0, ()), (h, (t, ())))))).2.1 = t := by
   rw [hres']
   cases h.2.2.2.1.all fewC with
   | true => exact fun _ => rfl
   | false => exact fun hh => (by cases hh)
  have hlen3 : isL (res_r12_Few ((0, ()), (h, (t, ())))) = true -> (((out_r12_Few (getL dS_r12_Few (res_r12_Few ((0, ()), (h, (t, ())))))).2.1.1.length : Int)) <= 9223372036854775807 := fun hh => by
   rw [hin2 hh]
   exact hlen2
  refine ⟨⟨fun _ => trivial, fun _ => ⟨⟨trivial, Int.le_refl _, Int.natCast_nonneg _, hlen⟩, ho _, fun hh => ⟨⟨trivial, Int.le_refl _, Int.natCast_nonneg _, hlen3 hh⟩, ho1 _, fun _ => trivial, fun _ => trivial⟩, fun _ => trivial⟩⟩, ?_⟩
  show (if (bif bif decide ((h.2.2.2.1.length : Int) > (60 : Nat)) then true else decide ((t.1.length : Int) > (100 : Nat)) then true else decide ((h.2.2.1.2.2.1.length : Int) > (50 : Nat))) = true then ((false, ()) : Bool × Unit) else
   if isL (res_r12_Few ((0, ()), (h, (t, ())))) = true then (if isL (res_r12_Few1 ((0, ()), ((out_r12_Few (getL dS_r12_Few (res_r12_Few ((0, ()), (h, (t, ())))))).2.1, ()))) = true then (true, ()) else ((getR dR_r12_Few1 (res_r12_Few1 ((0, ()), ((out_r12_Few (getL dS_r12_Few (res_r12_Few ((0, ()), (h, (t, ())))))).2.1, ())))).1.1, ()))
   else ((getR dR_r12_Few (res_r12_Few ((0, ()), (h, (t, ()))))).1.1, ())) = (fewB h t, ())
  rw [hcond]
  unfold fewB
  by_cases hall : h.2.2.2.1.all fewC = true
  ·rw [if_pos hall] at hres'
   rw [hin2 (by rw [hres']; rfl), hres', hres2', hall]
   cases (decide (h.2.2.2.1.length <= 60) && (decide (t.1.length <= 100) && decide (h.2.2.1.2.2.1.length <= 50))) <;> cases t.1.all fewV <;> rfl
  ·have hall' : h.2.2.2.1.all fewC = false := by simpa using hall
   rw [if_neg hall] at hres'
   rw [hres', hall']
   cases (decide (h.2.2.2.1.length <= 60) && (decide (t.1.length <= 100) && decide (h.2.2.1.2.2.1.length <= 50))) <;> rfl)
def bandD (age : Int) : List bandT.den -> Int -> Int
 | [], d => d
 | b :: r, d => if b.1 < age then bandD age r d else b.2.1
def cBand : Ct := ⟨[.d (.sl bandT), .d i64], [i64], fun x => (bandD x.2.1 x.1 10000, ()), fun _ => []⟩
def Fr.way {α : Type} : Fr α -> Fr α
 | .br true x _ => Fr.way x
 | .br false _ y => Fr.way y
 | .need p x => .need p (Fr.way x)
 | .val v => .val v
theorem Fr.way_ok {α : Type} : {f : Fr α} -> (Fr.way f).ok -> f.ok /\ f.get = (Fr.way f).get
 | .br true x _, h => by
  have := Fr.way_ok (f := x) h
  exact ⟨⟨fun _ => this.1, fun hb => (by cases hb)⟩, this.2⟩
 | .br false _ y, h => by
  have := Fr.way_ok (f := y) h
  exact ⟨⟨fun hb => (by cases hb), fun _ => this.1⟩, this.2⟩
 | .need _ x, h => by
  have := Fr.way_ok (f := x) h.2
  exact ⟨⟨h.1, this.1⟩, this.2⟩
 | .val _, _ => ⟨trivial, rfl⟩
theorem Fr.way_eq {α : Type} {f g : Fr α} (h : Fr.way f = g) (hg : g.ok) : f.ok /\ f.get = g.get := by
 subst h
 exact Fr.way_ok hg
theorem convF {P : Program} {f : FuncId} {ps : List PT} {rs : List Ty} {fr : denP ps -> Fr (denL rs)} (h : SoundCt P f ⟨ps, rs, fun xs => (fr xs).get, fun xs => [(fr xs).ok]⟩) (g : denP ps -> denL rs) (ok : denP ps -> List Prop)
  (hg : ∀ w F xs vs, RepPs P w F ps xs vs -> conj (ok xs) -> (fr xs).ok /\ (fr xs).get = g xs) : SoundCt P f ⟨ps, rs, g, ok⟩ :=
 conv h g ok hg
noncomputable def frLen (x : denP [.d u64]) : Fr (denL [i64]) := (runFn Tryz.prog (cx [] []) lam0 Tryz.f169 [.d u64] [i64] x).getD (Fr.need False (Fr.val (0, ())))
theorem frLen_way : Fr.way (frLen (10000, ())) = Fr.need (¬ (8 : Int) < 0) (Fr.need (0 <= (39 : Int) /\ (39 : Int) < ((256 : Nat) : Int)) (Fr.val (14, ()))) := by kernel_rfl
def cLen : Ct := ⟨[.d u64], [i64], fun _ => (14, ()), fun x => [x.1 = 10000]⟩
theorem len_ok : SoundCt Tryz.prog 169 cLen :=
 convF (fn_sound (cx_ok (cs := []) (ps := []) mixed trivial trivial) (Λ := lam0) (fn := Tryz.f169) (fr := frLen) (ps := [.d u64]) (rs := [i64]) (0, ()) (by kernel_rfl) (fun c E _ => lam0_ok c 0) (fun x => by kernel_rfl)) _ _
  (fun w F x vs _ hok => by
   obtain ⟨n, _⟩ := x
   have hn : n = 10000 := hok
   subst hn
   exact Fr.way_eq frLen_way ⟨by decide, ⟨by decide, by decide⟩, trivial⟩)
def cLz : Ct := ⟨[.d u64], [i64], fun _ => (50, ()), fun x => [x.1 = 10000]⟩
theorem lz_ok : SoundCt Tryz.prog 161 cLz :=
 conv (fn_sound (cx_ok (cs := [(169, cLen)]) (ps := []) mixed ⟨len_ok, trivial⟩ trivial) (Λ := lam0) (fn := Tryz.f161) (fr := fun x => Fr.need (x.1 = 10000) (Fr.val (IntKind.i64.wrap (64 - (cLen.f (x.1, ())).1), ()))) (ps := [.d u64]) (rs := [i64]) (0, ()) (by kernel_rfl) (fun c E _ => lam0_ok c 0) (fun x => by kernel_rfl)) _ _
  (fun w F x vs _ hok => ⟨⟨hok, trivial⟩, rfl⟩)
abbrev dU : PT := .d u64
def MD0 : LS := ⟨[(2, dU), (8, dU), (9, dU), (10, dU), (11, dU), (13, dU), (14, dU), (15, dU), (16, dU)], []⟩
def MD2 : LS := ⟨[(2, dU), (8, dU), (9, dU), (10, dU), (13, dU), (14, dU), (15, dU), (16, dU), (17, dU), (18, dU)], []⟩
def ptD0 : Pt := ⟨135, 0, MD0, MD0, ⟨[], []⟩⟩
def ptD2 : Pt := ⟨135, 2, MD2, MD2, ⟨[], []⟩⟩
def more (q yn r u : Int) : Bool := bif decide (q ≥ 4294967296) then true else decide (IntKind.u64.wrap (q * yn) > IntKind.u64.wrap (IntKind.u64.wrap (4294967296 * r) + u))
def fD0 (x : MD0.X) : Fr ptD0.Out :=
 match x with
 | ((y, s, a, b, c, d, e, q, r, _), _) => Fr.br (more q b r d)
  (Fr.br (decide (IntKind.u64.wrap (r + a) ≥ 4294967296))
   (Fr.val (Rd.out ((y, s, a, b, c, d, e, IntKind.u64.wrap (q - 1), IntKind.u64.wrap (r + a), ()), ())))
   (Fr.val (Rd.next ((y, s, a, b, c, d, e, IntKind.u64.wrap (q - 1), IntKind.u64.wrap (r + a), ()), ()))))
  (Fr.val (Rd.out ((y, s, a, b, c, d, e, q, r, ()), ())))
def fD2 (x : MD2.X) : Fr ptD2.Out :=
 match x with
 | ((y, s, a, b, d, e, q, r, u, v, _), _) => Fr.br (more v b r e)
  (Fr.br (decide (IntKind.u64.wrap (r + a) ≥ 4294967296))
   (Fr.val (Rd.out ((y, s, a, b, d, e, q, IntKind.u64.wrap (r + a), u, IntKind.u64.wrap (v - 1), ()), ())))
   (Fr.val (Rd.next ((y, s, a, b, d, e, q, IntKind.u64.wrap (r + a), u, IntKind.u64.wrap (v - 1), ()), ()))))
  (Fr.val (Rd.out ((y, s, a, b, d, e, q, r, u, v, ()), ())))
def FD0 (x : MD0.X) : Fr ptD0.Out := Fr.need (more x.1.2.2.2.2.2.2.2.1 x.1.2.2.2.1 x.1.2.2.2.2.2.2.2.2.1 x.1.2.2.2.2.2.1 = false) (Fr.val (.out x))
def FD2 (x : MD2.X) : Fr ptD2.Out := Fr.need (more x.1.2.2.2.2.2.2.2.2.2.1 x.1.2.2.2.1 x.1.2.2.2.2.2.2.2.1 x.1.2.2.2.2.2.1 = false) (Fr.val (.out x))
noncomputable def CD : Cx := cx [(161, cLz)] []
theorem CD_ok : CxOK Tryz.prog CD := cx_ok mixed ⟨lz_ok, trivial⟩ trivial
theorem semD0 : Does Tryz.prog (loopF Tryz.f148 0) MD0 ptD0 fD0 := Does.of_run CD_ok (bs := 0) rfl rfl rfl (fun _ => lam0_ok _ 0) (fun x => by kernel_rfl)
theorem semD2 : Does Tryz.prog (loopF Tryz.f148 1) MD2 ptD2 fD2 := Does.of_run CD_ok (bs := 0) rfl rfl rfl (fun _ => lam0_ok _ 0) (fun x => by kernel_rfl)
theorem doesD0 : Does Tryz.prog (.loop (loopF Tryz.f148 0)) MD0 ptD0 FD0 :=
 Does.loop (n := 135) (id := 0) semD0 (inv := fun x => more x.1.2.2.2.2.2.2.2.1 x.1.2.2.2.1 x.1.2.2.2.2.2.2.2.2.1 x.1.2.2.2.2.2.1 = false) (μ := fun _ => 0)
  (by
   rintro ⟨⟨y, s, a, b, c, d, e, q, r, _⟩, _⟩ hinv Q hq
   exact ⟨fun h => (by rw [show more q b r d = false from hinv] at h; cases h), fun _ => hq.2⟩)
  (fun x Q h => h.1)
theorem doesD2 : Does Tryz.prog (.loop (loopF Tryz.f148 1)) MD2 ptD2 FD2 :=
 Does.loop (n := 135) (id := 2) semD2 (inv := fun x => more x.1.2.2.2.2.2.2.2.2.2.1 x.1.2.2.2.1 x.1.2.2.2.2.2.2.2.1 x.1.2.2.2.2.2.1 = false) (μ := fun _ => 0)
  (by
   rintro ⟨⟨y, s, a, b, d, e, q, r, u, v, _⟩, _⟩ hinv Q hq
   exact ⟨fun h => (by rw [show more v b r e = false from hinv] at h; cases h), fun _ => hq.2⟩)
  (fun x Q h => h.1)
noncomputable def lamD : Nat -> St -> Option Tr := fun k => if k = 0 then ptD0.han CD.Γ MD0 FD0 else ptD2.han CD.Γ MD2 FD2
abbrev wU (n : Int) : Int := IntKind.u64.wrap n
def shl50 (a : Int) : Int := wU (a * 2 ^ min (wU 50).toNat IntKind.u64.bits)
def dU32 (hi lo : Int) : Int := wU ((BitVec.ofInt IntKind.u64.bits (shl50 hi) ||| BitVec.ofInt IntKind.u64.bits (lo.fdiv (2 ^ min (wU (64 - wU 50)).toNat IntKind.u64.bits))).toNat : Int)
def dQ (u y : Int) : Int := wU (u.tdiv (h32 (shl50 y)))
def dR (u y : Int) : Int := wU (u - wU (dQ u y * h32 (shl50 y)))
def dU21 (hi lo y : Int) : Int := wU (wU (wU (dU32 hi lo * 4294967296) + h32 (shl50 lo)) - wU (dQ (dU32 hi lo) y * shl50 y))
def frDivI (hi lo y : Int) : Fr (denL [u64, u64]) :=
 Fr.need (y = 10000) (Fr.need (¬ wU 50 < 0) (Fr.need (¬ (32 : Int) < 0) (Fr.need (¬ wU 50 < 0) (Fr.need (¬ wU (64 - wU 50) < 0) (Fr.need (¬ wU 50 < 0) (Fr.need (¬ (32 : Int) < 0)
  (Fr.need (h32 (shl50 y) ≠ 0)
   (Fr.need (more (dQ (dU32 hi lo) y) (m32 (shl50 y)) (dR (dU32 hi lo) y) (h32 (shl50 lo)) = false)
    (Fr.need (h32 (shl50 y) ≠ 0)
     (Fr.need (more (dQ (dU21 hi lo y) y) (m32 (shl50 y)) (dR (dU21 hi lo y) y) (m32 (shl50 lo)) = false)
      (Fr.need (¬ wU 50 < 0)
       (Fr.val (wU (wU (dQ (dU32 hi lo) y * 4294967296) + dQ (dU21 hi lo y) y),
        (wU (wU (wU (dU21 hi lo y * 4294967296) + m32 (shl50 lo)) - wU (dQ (dU21 hi lo y) y * shl50 y))).fdiv (2 ^ min (wU 50).toNat IntKind.u64.bits), ())))))))))))))
def frDivW (x : denP [dU, dU, dU]) : Fr (denL [u64, u64]) :=
 Fr.br (x.2.2.1 == 0) (Fr.need False (Fr.val (0, 0, ())))
  (Fr.br (decide (x.2.2.1 <= x.1)) (Fr.need False (Fr.val (0, 0, ())))
   (Fr.br (x.1 == 0) (Fr.need (x.2.2.1 ≠ 0) (Fr.need (x.2.2.1 ≠ 0) (Fr.val (IntKind.u64.wrap (x.2.1.tdiv x.2.2.1), x.2.1.tmod x.2.2.1, ()))))
    (frDivI x.1 x.2.1 x.2.2.1)))
theorem Fr.br_f {α : Type} {b : Bool} {x y : Fr α} {v : α} (hb : b = false) (h : y.ok /\ y.get = v) : (Fr.br b x y).ok /\ (Fr.br b x y).get = v := by
 subst hb
 exact ⟨⟨fun h => (by cases h), fun _ => h.1⟩, h.2⟩
theorem Fr.br_t {α : Type} {b : Bool} {x y : Fr α} {v : α} (hb : b = true) (h : x.ok /\ x.get = v) : (Fr.br b x y).ok /\ (Fr.br b x y).get = v := by
 subst hb
 exact ⟨⟨fun _ => h.1, fun h => (by cases h)⟩, h.2⟩
theorem Fr.need_ {α : Type} {p : Prop} {x : Fr α} {v : α} (hp : p) (h : x.ok /\ x.get = v) : (Fr.need p x).ok /\ (Fr.need p x).get = v := ⟨⟨hp, h.1⟩, h.2⟩
theorem div_run : SoundCt Tryz.prog 148 ⟨[dU, dU, dU], [u64, u64], fun xs => (frDivW xs).get, fun xs => [(frDivW xs).ok]⟩ :=
 fn_sound CD_ok (Λ := lamD) (fn := Tryz.f148) (fr := frDivW) (ps := [dU, dU, dU]) (rs := [u64, u64]) (0, 0, 0, ()) (by kernel_rfl)
  (fun c E hc => lam2f hc (by kernel_rfl) (b0 := loopF Tryz.f148 0) (b1 := loopF Tryz.f148 1) (by kernel_rfl) (by kernel_rfl) (Does.han CD_ok rfl doesD0) (Does.han CD_ok rfl doesD2)) (fun x => by kernel_rfl)
theorem shl50_eq {a : Int} : shl50 a = wU (a * 1125899906842624) := by
 have e1 : wU 50 = 50 := by decide
 have e2 : min (50 : Int).toNat IntKind.u64.bits = 50 := by decide
 unfold shl50
 rw [e1, e2]
 rfl
theorem or_add {a b : Int} (h1 : 0 <= a) (h2 : 0 <= b) (h3 : b < 1125899906842624) (h4 : a * 1125899906842624 < 18446744073709551616) :
  wU ((BitVec.ofInt IntKind.u64.bits (a * 1125899906842624) ||| BitVec.ofInt IntKind.u64.bits b).toNat : Int) = a * 1125899906842624 + b := by
 obtain ⟨m, rfl⟩ : ∃ m : Nat, a = m := ⟨a.toNat, by omega⟩
 obtain ⟨n, rfl⟩ : ∃ n : Nat, b = n := ⟨b.toNat, by omega⟩
 have e1 : (BitVec.ofInt IntKind.u64.bits ((m : Int) * 1125899906842624)).toNat = m * 1125899906842624 := by
  rw [BitVec.toNat_ofInt]
  show (((m : Int) * 1125899906842624) % ((2 ^ 64 : Nat) : Int)).toNat = m * 1125899906842624
  omega
 have e2 : (BitVec.ofInt IntKind.u64.bits (n : Int)).toNat = n := by
  rw [BitVec.toNat_ofInt]
  show ((n : Int) % ((2 ^ 64 : Nat) : Int)).toNat = n
  omega
 have e3 : (m * 1125899906842624 ||| n) = m * 1125899906842624 + n := by
  have := Nat.shiftLeft_add_eq_or_of_lt (i := 50) (b := n) (by omega) m
  rw [Nat.shiftLeft_eq] at this
  have e : (2 : Nat) ^ 50 = 1125899906842624 := by decide
  rw [e] at this
  exact this.symm
 rw [BitVec.toNat_or, e1, e2, e3]
 show IntKind.u64.wrap _ = _
 rw [u64w (by omega)]
 omega
theorem div_a {hi lo q1 q0 un32 un10 un1 un0 r1 un21 : Int} (h1 : 0 <= hi /\ hi < 10000) (h2 : 0 <= lo /\ lo <= 18446744073709551615)
  (e32 : un32 = hi * 1125899906842624 + lo / 16384) (e10 : un10 = lo * 1125899906842624 % 18446744073709551616) (e1 : un1 = un10 / 4294967296) (e0 : un0 = un10 % 4294967296)
  (eq1 : q1 = un32 / 2621440000) (er : r1 = un32 - q1 * 2621440000) (e21 : un21 = r1 * 4294967296 + un1) (eq0 : q0 = un21 / 2621440000) :
  un0 = 0 /\ 0 <= un1 /\ un1 < 4294967296 /\ 0 <= q1 /\ q1 < 4294967296 /\ 0 <= r1 /\ r1 < 2621440000 /\ 0 <= q0 /\ q0 < 4294967296 /\ q1 * 4294967296 + q0 = (hi * 18446744073709551616 + lo) / 10000 /\ (un21 - q0 * 2621440000) * 4294967296 / 1125899906842624 = (hi * 18446744073709551616 + lo) % 10000 := by
 have a1 : un1 = (lo % 16384) * 262144 := by omega
 have a0 : un0 = 0 := by omega
 have a2 : 0 <= un1 /\ un1 < 4294967296 := by omega
 clear e1 e0 e10
 have b1 : 0 <= q1 /\ q1 < 4294967296 := by omega
 have b2 : 0 <= r1 /\ r1 < 2621440000 := by omega
 have b3 : 0 <= q0 /\ q0 < 4294967296 := by omega
 refine ⟨a0, a2.1, a2.2, b1.1, b1.2, b2.1, b2.2, b3.1, b3.2, ?_, ?_⟩
 ·omega
 ·omega
theorem more_no {q r u : Int} (h1 : 0 <= q /\ q < 4294967296) : more q 0 r u = false := by
 unfold more
 have e1 : decide (q ≥ 4294967296) = false := by simp; omega
 rw [e1, Int.mul_zero]
 have e2 : IntKind.u64.wrap 0 = 0 := by decide
 rw [e2]
 have : 0 <= IntKind.u64.wrap (IntKind.u64.wrap (4294967296 * r) + u) := by
  rw [IntKind.wrap_u64]
  omega
 simp
 omega
theorem dqL {u : Int} (h : 0 <= u /\ u < 18446744073709551616) : wU (u.tdiv 2621440000) = u / 2621440000 := by
 rw [Int.tdiv_eq_ediv_of_nonneg h.1]
 exact u64w (by omega)
theorem g1L {q1 q0 : Int} (h1 : 0 <= q1 /\ q1 < 4294967296) (h0 : 0 <= q0 /\ q0 < 4294967296) : wU (wU (q1 * 4294967296) + q0) = q1 * 4294967296 + q0 := by
 rw [show wU (q1 * 4294967296) = q1 * 4294967296 from u64w (by omega)]
 exact u64w (by omega)
theorem g2L {u q0 : Int} (hq : q0 = u / 2621440000) (hu : 0 <= u /\ u < 18446744073709551616) : wU (wU (wU (u * 4294967296) + 0) - wU (q0 * 11258999068426240000)) = (u - q0 * 2621440000) * 4294967296 := by
 unfold wU
 simp only [IntKind.wrap_u64]
 omega
theorem e21L {u q1 u1 : Int} (h : 0 <= u - q1 * 2621440000 /\ u - q1 * 2621440000 < 2621440000) (h1 : 0 <= u1 /\ u1 < 4294967296) : wU (wU (wU (u * 4294967296) + u1) - wU (q1 * 11258999068426240000)) = (u - q1 * 2621440000) * 4294967296 + u1 := by
 unfold wU
 simp only [IntKind.wrap_u64]
 omega
theorem u21L {r u1 : Int} (h : 0 <= r /\ r < 2621440000) (h1 : 0 <= u1 /\ u1 < 4294967296) : 0 <= r * 4294967296 + u1 /\ r * 4294967296 + u1 < 18446744073709551616 := by omega
theorem u32L {hi lo : Int} (h1 : 0 <= hi /\ hi < 10000) (h2 : 0 <= lo /\ lo <= 18446744073709551615) : 0 <= hi * 1125899906842624 + lo / 16384 /\ hi * 1125899906842624 + lo / 16384 < 18446744073709551616 := by omega
theorem divW_plain {hi lo : Int} (h0 : hi ≠ 0) (h1 : 0 <= hi /\ hi < 10000) (h2 : 0 <= lo /\ lo <= 18446744073709551615) :
  (frDivW (hi, lo, 10000, ())).ok /\ (frDivW (hi, lo, 10000, ())).get = ((hi * 18446744073709551616 + lo) / 10000, (hi * 18446744073709551616 + lo) % 10000, ()) := by
 have ey : shl50 10000 = 11258999068426240000 := by decide
 have ey1 : h32 (shl50 10000) = 2621440000 := by decide
 have ey0 : m32 (shl50 10000) = 0 := by decide
 have es : shl50 hi = hi * 1125899906842624 := by rw [shl50_eq]; exact u64w (by omega)
 have eu : dU32 hi lo = hi * 1125899906842624 + lo / 16384 := by
  unfold dU32
  have e1 : lo.fdiv (2 ^ min (wU (64 - wU 50)).toNat IntKind.u64.bits) = lo / 16384 := by
   have : (2 : Int) ^ min (wU (64 - wU 50)).toNat IntKind.u64.bits = 16384 := by decide
   rw [this, Int.fdiv_eq_ediv_of_nonneg _ (by decide)]
  rw [e1, es]
  exact or_add (by omega) (by omega) (by omega) (by omega)
 have el : shl50 lo = lo * 1125899906842624 % 18446744073709551616 := by rw [shl50_eq]; exact IntKind.wrap_u64 _
 have hs : 0 <= shl50 lo /\ shl50 lo <= 18446744073709551615 := by rw [el]; omega
 have eU1 : h32 (shl50 lo) = shl50 lo / 4294967296 := h32_eq
 have eU0 : m32 (shl50 lo) = shl50 lo % 4294967296 := m32_eq hs
 have eq1 : dQ (dU32 hi lo) 10000 = dU32 hi lo / 2621440000 := by
  unfold dQ
  rw [ey1, eu]
  exact dqL (u32L h1 h2)
 obtain ⟨k0, k1, k2, k3, k4, k5, k6, k7, k8, k9, k10⟩ := div_a (q1 := dQ (dU32 hi lo) 10000) (un32 := dU32 hi lo) (un10 := shl50 lo) (un1 := h32 (shl50 lo)) (un0 := m32 (shl50 lo)) (r1 := dU32 hi lo - dQ (dU32 hi lo) 10000 * 2621440000) h1 h2 eu el eU1 eU0 eq1 rfl rfl rfl
 have e21 : dU21 hi lo 10000 = (dU32 hi lo - dQ (dU32 hi lo) 10000 * 2621440000) * 4294967296 + h32 (shl50 lo) := by
  unfold dU21
  rw [ey]
  exact e21L ⟨k5, k6⟩ ⟨k1, k2⟩
 have b21 := u21L ⟨k5, k6⟩ ⟨k1, k2⟩
 rw [← e21] at k7 k8 k9 k10 b21
 have eq0 : dQ (dU21 hi lo 10000) 10000 = dU21 hi lo 10000 / 2621440000 := by
  unfold dQ
  rw [ey1]
  exact dqL b21
 rw [← eq0] at k7 k8 k9 k10
 have g1 : wU (wU (dQ (dU32 hi lo) 10000 * 4294967296) + dQ (dU21 hi lo 10000) 10000) = (hi * 18446744073709551616 + lo) / 10000 := by
  rw [← k9]
  exact g1L ⟨k3, k4⟩ ⟨k7, k8⟩
 have g2 : (wU (wU (wU (dU21 hi lo 10000 * 4294967296) + m32 (shl50 lo)) - wU (dQ (dU21 hi lo 10000) 10000 * shl50 10000))).fdiv (2 ^ min (wU 50).toNat IntKind.u64.bits) = (hi * 18446744073709551616 + lo) % 10000 := by
  have e50 : (2 : Int) ^ min (wU 50).toNat IntKind.u64.bits = 1125899906842624 := by decide
  rw [e50, ey, k0, Int.fdiv_eq_ediv_of_nonneg _ (by decide), ← k10, g2L eq0 b21]
 have hge : ¬ (10000 : Int) <= hi := by omega
 have h0' : (hi == 0) = false := by simpa using h0
 refine Fr.br_f rfl (Fr.br_f (decide_eq_false hge) (Fr.br_f h0' ?_))
 show (frDivI hi lo 10000).ok /\ (frDivI hi lo 10000).get = _
 refine Fr.need_ rfl (Fr.need_ (by decide) (Fr.need_ (by decide) (Fr.need_ (by decide) (Fr.need_ (by decide) (Fr.need_ (by decide) (Fr.need_ (by decide) (Fr.need_ ?_ (Fr.need_ ?_ (Fr.need_ ?_ (Fr.need_ ?_ (Fr.need_ (by decide) ⟨trivial, ?_⟩)))))))))))
 ·rw [ey1]; decide
 ·rw [ey0]; exact more_no ⟨k3, k4⟩
 ·rw [ey1]; decide
 ·rw [ey0]; exact more_no ⟨k7, k8⟩
 ·exact Prod.ext g1 (Prod.ext g2 rfl)
def cDivW : Ct := ⟨[dU, dU, dU], [u64, u64], fun x => ((x.1 * 18446744073709551616 + x.2.1) / x.2.2.1, (x.1 * 18446744073709551616 + x.2.1) % x.2.2.1, ()), fun x => [(x.1 = 0 /\ 0 < x.2.2.1) ∨ (x.2.2.1 = 10000 /\ x.1 < 10000)]⟩
theorem divW_0 {lo y : Int} (b2 : 0 <= lo /\ lo <= 18446744073709551615) (hy : 0 < y) : (frDivW (0, lo, y, ())).ok /\ (frDivW (0, lo, y, ())).get = ((0 * 18446744073709551616 + lo) / y, (0 * 18446744073709551616 + lo) % y, ()) := by
 rw [Int.zero_mul, Int.zero_add]
 have e1 : (y == 0) = false := by simp; omega
 have e2 : ¬ y <= (0 : Int) := by omega
 have e3 : y ≠ 0 := by omega
 refine Fr.br_f e1 (Fr.br_f (decide_eq_false e2) (Fr.br_t rfl (Fr.need_ e3 (Fr.need_ e3 ⟨trivial, ?_⟩))))
 exact Prod.ext (IntWalk.u64_quo lo y ⟨b2.1, b2.2, by omega⟩) (Prod.ext (IntWalk.rem_in lo y b2.1) rfl)
theorem divW_ok : SoundCt Tryz.prog 148 cDivW :=
  convF div_run _ _ (fun w F x vs hr hok => by
    obtain ⟨hi, lo, y, _⟩ := x
    obtain ⟨v1, vs1, rfl, h1, v2, vs2, rfl, h2, v3, vs3, rfl, h3, _⟩ := hr
    have b1 : 0 <= hi /\ hi <= 18446744073709551615 := u64_of h1
    have b2 : 0 <= lo /\ lo <= 18446744073709551615 := u64_of h2
    have hok' : (hi = 0 /\ 0 < y) ∨ (y = 10000 /\ hi < 10000) := hok
    have hcase : (hi = 0 /\ 0 < y) ∨ (hi ≠ 0 /\ y = 10000 /\ hi < 10000) := by
      clear hok
      by_cases hz : hi = 0
      · exact .inl ⟨hz, by rcases hok' with h | h
                           · exact h.2
                           · rw [h.1]; decide⟩
      · rcases hok' with h | h
        · exact absurd h.1 hz
        · exact .inr ⟨hz, h⟩
    rcases hcase with ⟨rfl, hy⟩ | ⟨h0, rfl, hlt⟩
    · exact divW_0 b2 hy
    · exact divW_plain h0 ⟨b1.1, hlt⟩ b2)
def scopeOf : Code -> Code
 | .seq _ (.scope c) => c
 | _ => .skip
def headOf : Code -> Code
 | .seq a _ => a
 | _ => .skip
noncomputable def bandC : Code := (Tryz.f133.body.map scopeOf).getD .skip
noncomputable def bandA : Code := (Tryz.f133.body.map headOf).getD .skip
noncomputable def bandR : Code := (findLabel bandC 0).getD .skip
def MBd : LS := ⟨[(0, .d (.sl bandT)), (1, .d i64)], []⟩
def ptBd : Pt := ⟨20, 0, MBd, ⟨[], []⟩, ⟨[(4, .d i64)], []⟩⟩
noncomputable def CB0 : Cx := cx [] []
theorem CB0_ok : CxOK Tryz.prog CB0 := cx_ok (cs := []) (ps := []) mixed trivial trivial
def fBd (x : MBd.X) : Fr ptBd.Out :=
 match x with
 | ((l, a, _), _) => Fr.br ((l.length : Int) == 0) (Fr.val (Rd.back ((10000, ()), ())))
  (Fr.need (0 <= (0 : Int) /\ (0 : Int) < l.length)
   (Fr.br (decide ((l.getD (Int.toNat 0) bandT.dflt).1 < a))
    (Fr.need (0 <= (some (1 : Int)).getD 0 /\ (some (1 : Int)).getD 0 <= (none : Option Int).getD l.length /\ (none : Option Int).getD l.length <= l.length)
     (Fr.val (Rd.next ((List.take ((none : Option Int).getD l.length - (some (1 : Int)).getD 0).toNat (List.drop ((some (1 : Int)).getD 0).toNat l), a, ()), ()))))
    (Fr.need (0 <= (0 : Int) /\ (0 : Int) < l.length) (Fr.val (Rd.back (((l.getD (Int.toNat 0) bandT.dflt).2.1, ()), ()))))))
def FBdJ (x : MBd.X) : Fr ptBd.Out := Fr.val (.back ((bandD x.1.2.1 x.1.1 10000, ()), ()))
theorem semBC : DoesJ Tryz.prog 0 bandC MBd ptBd fBd := DoesJ.of_run CB0_ok (bs := 0) rfl rfl rfl (fun _ => lam0_ok _ 0) (fun x => by kernel_rfl)
theorem semBR : DoesJ Tryz.prog 0 bandR MBd ptBd fBd := DoesJ.of_run CB0_ok (bs := 0) rfl rfl rfl (fun _ => lam0_ok _ 0) (fun x => by kernel_rfl)
theorem bandLaw (l : List bandT.den) (a : Int) (Q : ptBd.Out -> Prop) (hq : Q (.back ((bandD a l 10000, ()), ()))) :
  (fBd ((l, a, ()), ())).satP fun
   | .next x' => True /\ x'.1.1.length < l.length /\ (FBdJ x').satP Q
   | .out y => Q (.out y)
   | .back z => Q (.back z)
   | .pan p => Q (.pan p) := by
 cases l with
 | nil => exact ⟨fun _ => hq, fun h => by cases h⟩
 | cons b r =>
  have h0 : (0 : Int) < ((b :: r).length : Int) := by simp only [List.length_cons]; omega
  have h1 : (((b :: r).length : Int) == 0) = false := by simp; omega
  refine ⟨fun h => (by rw [h1] at h; cases h), fun _ => ⟨⟨Int.le_refl 0, h0⟩, fun h => ⟨⟨by decide, ?_, Int.le_refl _⟩, trivial, ?_, ?_⟩, fun h => ⟨⟨Int.le_refl 0, h0⟩, ?_⟩⟩⟩
  ·show (1 : Int) <= ((b :: r).length : Int)
   omega
  ·show (List.take (((b :: r).length : Int) - 1).toNat r).length < (b :: r).length
   rw [List.length_take]
   simp only [List.length_cons]
   omega
  ·show Q (.back ((bandD a (List.take (((b :: r).length : Int) - 1).toNat r) 10000, ()), ()))
   have e : List.take (((b :: r).length : Int) - 1).toNat r = r := List.take_of_length_le (by simp)
   have hc : b.1 < a := of_decide_eq_true h
   rw [e]
   have : bandD a (b :: r) 10000 = bandD a r 10000 := if_pos hc
   rw [← this]
   exact hq
  ·have hc : ¬ b.1 < a := of_decide_eq_false h
   have : bandD a (b :: r) 10000 = b.2.1 := if_neg hc
   rw [this] at hq
   exact hq
theorem bandS : Does Tryz.prog (.scope bandC) MBd ptBd FBdJ :=
 DoesJ.scope (n := 20) (id := 0) (N := MBd) (rest := bandR) (by kernel_rfl) semBC semBR (inv := fun _ => True) (μ := fun x => x.1.1.length)
  (by
   rintro ⟨⟨l, a, _⟩, _⟩ _ Q hq
   exact bandLaw l a Q hq)
  (fun _ _ _ => trivial)
theorem band_ok : SoundCt Tryz.prog 133 cBand :=
 convF (fx_sound (run := thenA (codeA Tryz.prog CB0 0 lam0 bandA 0) (ptBd.han CB0.Γ MBd FBdJ)) (fn := Tryz.f133) (c := .seq bandA (.scope bandC)) (ps := [.d (.sl bandT), .d i64]) (rs := [i64])
  (fr := fun x => Fr.val (bandD x.2.1 x.1 10000, ())) ([], 0, ()) (by kernel_rfl) (by kernel_rfl)
  (fun E => thenA_run (codeA_run CB0_ok (lam0_ok _ 0)) (Does.run CB0_ok rfl bandS)) (fun x => by kernel_rfl)) _ _ (fun _ _ _ _ _ _ => ⟨trivial, rfl⟩)
def noVer : verT.den := (0, (0, 0, 0, 0, ()), [], [], [], 0, ())
def verAt (day : Int) : List verT.den -> verT.den × Int
 | [] => (noVer, 7)
 | v :: r => if v.1 <= day then (v, 0) else verAt day r
def frClone (T : Ty) (n : Nat) (x : denP [.d (.sl T)]) : Fr (denL [.sl T]) :=
 Fr.need (x.1 = [] ->
   (Fr.br true (Fr.val (([] : List T.den), ())) (Fr.need (([] : List T.den).length + x.1.length <= maxLen /\ (([] : List T.den).length + x.1.length) * n <= 140737488355328) (Fr.val (([] : List T.den) ++ x.1, ())))).ok /\
   (Fr.br true (Fr.val (([] : List T.den), ())) (Fr.need (([] : List T.den).length + x.1.length <= maxLen /\ (([] : List T.den).length + x.1.length) * n <= 140737488355328) (Fr.val (([] : List T.den) ++ x.1, ())))).get =
    (Fr.br false (Fr.val (([] : List T.den), ())) (Fr.need (([] : List T.den).length + x.1.length <= maxLen /\ (([] : List T.den).length + x.1.length) * n <= 140737488355328) (Fr.val (([] : List T.den) ++ x.1, ())))).get)
  (Fr.br false (Fr.val (([] : List T.den), ())) (Fr.need (([] : List T.den).length + x.1.length <= maxLen /\ (([] : List T.den).length + x.1.length) * n <= 140737488355328) (Fr.val (([] : List T.den) ++ x.1, ()))))
def cClone (T : Ty) : Ct := ⟨[.d (.sl T)], [.sl T], fun x => (x.1, ()), fun x => [x.1.length <= 1000000]⟩
theorem clone_eq {T : Ty} {n : Nat} (hn : n <= 1000) {l : List T.den} (hl : l.length <= 1000000) : (frClone T n (l, ())).ok /\ (frClone T n (l, ())).get = (l, ()) := by
 have h1 : ([] : List T.den).length + l.length <= maxLen /\ (([] : List T.den).length + l.length) * n <= 140737488355328 := by
  refine ⟨by simp only [List.length_nil]; unfold maxLen; omega, ?_⟩
  have : (([] : List T.den).length + l.length) * n <= 1000000 * 1000 := Nat.mul_le_mul (by simp only [List.length_nil]; omega) hn
  omega
 refine Fr.need_ (fun h => ?_) (Fr.br_f rfl (Fr.need_ h1 ⟨trivial, rfl⟩))
 subst h
 exact ⟨⟨fun _ => trivial, fun h => by cases h⟩, rfl⟩
noncomputable def CI17 : Cx := cx [] []
theorem CI17_ok : CxOK Tryz.prog CI17 := cx_ok (cs := []) (ps := []) mixed trivial trivial
theorem cloneB_ok : SoundCt Tryz.prog 127 (cClone bandT) :=
 convF (fn_sound CI17_ok (Λ := lam0) (fn := Tryz.f127) (fr := frClone bandT 16) (ps := [.d (.sl bandT)]) (rs := [.sl bandT]) ([], ()) (by kernel_rfl) (fun c E _ => lam0_ok c 0) (fun x => by kernel_rfl)) _ _
  (fun _ _ x _ _ hok => clone_eq (by decide) hok)
theorem cloneI_ok : SoundCt Tryz.prog 128 (cClone i64) :=
 convF (fn_sound CI17_ok (Λ := lam0) (fn := Tryz.f128) (fr := frClone i64 8) (ps := [.d (.sl i64)]) (rs := [.sl i64]) ([], ()) (by kernel_rfl) (fun c E _ => lam0_ok c 0) (fun x => by kernel_rfl)) _ _
  (fun _ _ x _ _ hok => clone_eq (by decide) hok)
theorem cloneC_ok : SoundCt Tryz.prog 72 (cClone coverT) :=
 convF (fn_sound CI17_ok (Λ := lam0) (fn := Tryz.f72) (fr := frClone coverT 40) (ps := [.d (.sl coverT)]) (rs := [.sl coverT]) ([], ()) (by kernel_rfl) (fun c E _ => lam0_ok c 0) (fun x => by kernel_rfl)) _ _
  (fun _ _ x _ _ hok => clone_eq (by decide) hok)
def findI (g : Int -> Bool) : List Int -> Int -> Option Int
 | [], _ => none
 | x :: r, i => if g x = true then some i else findI g r (i + 1)
abbrev fnB : PT := .fn [i64] [.bool]
def MIx : LS := ⟨[(0, .d ints), (1, fnB), (7, .d i64), (8, .d i64)], []⟩
def ptIx : Pt := ⟨19, 0, MIx, ⟨[], []⟩, ⟨[(4, .d i64)], []⟩⟩
def fIx (x : MIx.X) : Fr ptIx.Out :=
 match x with
 | ((l, g, n, i, _), _) => Fr.br (decide (i < n))
  (Fr.need (0 <= i /\ i < l.length)
   (Fr.br (g (l.getD i.toNat i64.dflt, ())).1 (Fr.val (Rd.back ((i, ()), ())))
    (Fr.val (Rd.next ((l, g, n, IntKind.i64.wrap (i + 1), ()), ())))))
  (Fr.val (Rd.out ((), ())))
def InIx (l : List Int) (n i : Int) : Prop := 0 <= i /\ i <= n /\ n = l.length /\ n <= 9223372036854775807
def FIx (x : MIx.X) : Fr ptIx.Out :=
 Fr.need (InIx x.1.1 x.1.2.2.1 x.1.2.2.2.1) (Fr.br (findI (fun n => (x.1.2.1 (n, ())).1) (x.1.1.drop x.1.2.2.2.1.toNat) x.1.2.2.2.1).isSome
   (Fr.val (.back (((findI (fun n => (x.1.2.1 (n, ())).1) (x.1.1.drop x.1.2.2.2.1.toNat) x.1.2.2.2.1).getD (-1), ()), ()))) (Fr.val (.out ((), ()))))
theorem semIx : Does Tryz.prog (loopF Tryz.f170 0) MIx ptIx fIx := Does.of_run CI17_ok (bs := 0) rfl rfl rfl (fun _ => lam0_ok _ 0) (fun x => by kernel_rfl)
theorem lawIx (l : List Int) (g : denL [i64] -> denL [.bool]) (n i : Int) (hinv : InIx l n i) (Q : ptIx.Out -> Prop) (hq : (Fr.br (findI (fun n => (g (n, ())).1) (l.drop i.toNat) i).isSome (Fr.val (Rd.back (((findI (fun n => (g (n, ())).1) (l.drop i.toNat) i).getD (-1), ()), ()))) (Fr.val (Rd.out ((), ())))  : Fr ptIx.Out).satP Q) :
  (fIx ((l, g, n, i, ()), ())).satP fun
   | .next x' => InIx x'.1.1 x'.1.2.2.1 x'.1.2.2.2.1 /\ (x'.1.2.2.1 - x'.1.2.2.2.1).toNat < (n - i).toNat /\ (FIx x').satP Q
   | .out y => Q (.out y)
   | .back z => Q (.back z)
   | .pan p => Q (.pan p) := by
 obtain ⟨h1, h2, h3, h4⟩ := hinv
 subst h3
 refine ⟨fun hi => ?_, fun hi => ?_⟩
 ·have hi' : i < (l.length : Int) := of_decide_eq_true hi
  obtain ⟨k, rfl⟩ : ∃ k : Nat, i = k := ⟨i.toNat, by omega⟩
  have hl : k < l.length := by omega
  have g1 : l.getD (k : Int).toNat i64.dflt = l[k] := by
   rw [show (k : Int).toNat = k by omega, List.getD_eq_getElem?_getD, List.getElem?_eq_getElem hl]; rfl
  have hw : IntKind.i64.wrap ((k : Int) + 1) = k + 1 := IntWalk.i64_in _ (by omega)
  have hd : l.drop (k : Int).toNat = l[k] :: l.drop (k + 1) := by
   rw [show (k : Int).toNat = k by omega]
   exact (List.drop_eq_getElem_cons hl)
  rw [hd] at hq
  dsimp only [fIx, Fr.satP]
  rw [g1, hw]
  refine ⟨⟨by omega, by omega⟩, fun hb => ?_, fun hb => ?_⟩
  ·have : findI (fun n => (g (n, ())).1) (l[k] :: l.drop (k + 1)) k = some (k : Int) := if_pos hb
   rw [this] at hq
   exact hq.1 rfl
  ·have hb' : ¬ (g (l[k], ())).1 = true := by rw [hb]; decide
   have : findI (fun n => (g (n, ())).1) (l[k] :: l.drop (k + 1)) k = findI (fun n => (g (n, ())).1) (l.drop (k + 1)) (k + 1) := if_neg hb'
   rw [this] at hq
   have hI : InIx l l.length ((k : Int) + 1) := ⟨by omega, by omega, rfl, h4⟩
   refine ⟨hI, by omega, hI, ?_⟩
   rw [show ((k : Int) + 1).toNat = k + 1 by omega]
   exact hq
 ·have hi' : ¬ i < (l.length : Int) := of_decide_eq_false hi
  have e : l.drop i.toNat = [] := List.drop_eq_nil_of_le (by omega)
  rw [e] at hq
  exact hq.2 rfl
theorem loopIx : Does Tryz.prog (.loop (loopF Tryz.f170 0)) MIx ptIx FIx := by
 refine Does.loop (n := 19) (id := 0) semIx (inv := fun x => InIx x.1.1 x.1.2.2.1 x.1.2.2.2.1) (μ := fun x => (x.1.2.2.1 - x.1.2.2.2.1).toNat) ?_ (fun x Q h => h.1)
 rintro ⟨⟨l, g, n, i, _⟩, _⟩ hinv Q hq
 exact lawIx l g n i hinv Q hq.2
def cIdx : Ct := ⟨[.d ints, fnB], [i64], fun x => ((findI (fun n => (x.2.1 (n, ())).1) x.1 0).getD (-1), ()), fun _ => []⟩
theorem idx_ok : SoundCt Tryz.prog 170 cIdx :=
 convF (fn_sound CI17_ok (Λ := fun _ => ptIx.han CI17.Γ MIx FIx) (fn := Tryz.f170) (ps := [.d ints, fnB]) (rs := [i64])
  (fr := fun x => Fr.need (InIx x.1 x.1.length 0) (Fr.br (findI (fun n => (x.2.1 (n, ())).1) x.1 0).isSome (Fr.val ((findI (fun n => (x.2.1 (n, ())).1) x.1 0).getD (-1), ())) (Fr.val (-1, ())))) ([], fun _ => (false, ()), ()) (by kernel_rfl)
  (fun c E hc => lam1f hc (by kernel_rfl) (b := loopF Tryz.f170 0) (by kernel_rfl) (Does.han CI17_ok rfl loopIx)) (fun x => by kernel_rfl)) _ _ (fun w F x vs hr _ => by
  obtain ⟨l, g, _⟩ := x
  obtain ⟨v, vs', rfl, hv, _⟩ := hr
  have hlen : (l.length : Int) <= 9223372036854775807 := wf_len hv
  have hI : InIx l l.length 0 := ⟨by omega, by omega, rfl, hlen⟩
  refine Fr.need_ hI ?_
  cases hf : findI (fun n => (g (n, ())).1) l 0 with
  | some k => exact Fr.br_t rfl ⟨trivial, rfl⟩
  | none => exact Fr.br_f rfl ⟨trivial, rfl⟩)
theorem findI_some (g : Int -> Bool) : (l : List Int) -> (i : Int) -> 0 <= i -> decide ((findI g l i).getD (-1) ≥ 0) = l.any g
 | [], i, _ => rfl
 | x :: r, i, h => by
  unfold findI
  simp only [List.any_cons]
  split
  ·rename_i hg
   rw [hg]
   simpa using h
  ·rename_i hg
   rw [findI_some g r (i + 1) (by omega)]
   simp only [Bool.not_eq_true] at hg
   rw [hg]
   rfl
def cAny : Ct := ⟨[.d ints, fnB], [.bool], fun x => (x.1.any fun n => (x.2.1 (n, ())).1, ()), fun _ => []⟩
noncomputable def CI17b : Cx := cx [(170, cIdx)] []
theorem CI17b_ok : CxOK Tryz.prog CI17b := cx_ok mixed ⟨idx_ok, trivial⟩ trivial
theorem any_ok : SoundCt Tryz.prog 164 cAny :=
 convF (fn_sound CI17b_ok (Λ := lam0) (fn := Tryz.f164) (fr := fun x => Fr.val (decide ((cIdx.f (x.1, x.2.1, ())).1 ≥ 0), ())) (ps := [.d ints, fnB]) (rs := [.bool]) ([], fun _ => (false, ()), ()) (by kernel_rfl) (fun c E _ => lam0_ok c 0) (fun x => by kernel_rfl)) _ _
  (fun _ _ x _ _ _ => by
   obtain ⟨l, g, _⟩ := x
   exact ⟨trivial, Prod.ext (findI_some (fun n => (g (n, ())).1) l 0 (Int.le_refl 0)) rfl⟩)
def facBad (n : Int) : Bool := bif decide (n < 0) then true else decide (n > 100000)
def cFacBad : Ct := ⟨[.d i64], [.bool], fun x => (facBad x.1, ()), fun _ => []⟩
theorem facBad_ok : SoundCt Tryz.prog 165 cFacBad :=
 convF (fn_sound CI17_ok (Λ := lam0) (fn := Tryz.f165) (fr := fun x => Fr.val (facBad x.1, ())) (ps := [.d i64]) (rs := [.bool]) (0, ()) (by kernel_rfl) (fun c E _ => lam0_ok c 0) (fun x => by kernel_rfl)) _ _ (fun _ _ _ _ _ _ => ⟨trivial, rfl⟩)
theorem facs_eq (l : List Int) : (!l.any facBad) = factorsB l := by
 unfold factorsB
 rw [List.not_any_eq_all_not]
 congr 1
 funext n
 unfold facBad
 rw [Bool.eq_iff_iff]
 by_cases h : n < 0
 ·simp [h]; omega
 ·simp [h]; omega
noncomputable def CI17c : Cx := cx [(164, cAny), (165, cFacBad)] []
theorem CI17c_ok : CxOK Tryz.prog CI17c := cx_ok mixed ⟨any_ok, facBad_ok, trivial⟩ trivial
theorem facs_ok : SoundCt Tryz.prog 153 cFactors :=
 convF (fn_sound CI17c_ok (Λ := lam0) (fn := Tryz.f153) (fr := fun x => Fr.need (∀ (y : denL [i64]), WfL [i64] y -> True) (Fr.val (!(cAny.f (x.1, fun y => cFacBad.f (y.1, ()), ())).1, ()))) (ps := [.d ints]) (rs := [.bool]) ([], ()) (by kernel_rfl) (fun c E _ => lam0_ok c 0) (fun x => by kernel_rfl)) _ _
  (fun _ _ x _ _ _ => by
   obtain ⟨l, _⟩ := x
   exact ⟨⟨fun _ _ => trivial, trivial⟩, Prod.ext (facs_eq l) rfl⟩)
def verB (v : verT.den) : Bool :=
 decide (1 <= v.1 /\ v.1 <= 292194 /\ 0 <= v.2.2.2.2.2.1 /\ v.2.2.2.2.2.1 <= 1000000000000000 /\ v.2.2.1.length <= 100 /\ 1 <= v.2.2.2.1.length /\ v.2.2.2.1.length <= 100 /\ v.2.2.2.2.1.length = 8) &&
  (factorsB [v.2.1.1, v.2.1.2.1, v.2.1.2.2.1, v.2.1.2.2.2.1] && (factorsB v.2.2.2.1 && (factorsB v.2.2.2.2.1 && bandsL v.2.2.1)))
def cVer : Ct := ⟨[.d verT], [.bool], fun x => (verB x.1, ()), fun _ => []⟩
noncomputable def CI17d : Cx := cx [(153, cFactors), (154, cBands), (127, cClone bandT), (128, cClone i64)] []
theorem CI17d_ok : CxOK Tryz.prog CI17d := cx_ok mixed ⟨facs_ok, bands_ok, cloneB_ok, cloneI_ok, trivial⟩ trivial
def ver1 (a b : Int) : Bool := bif bif bif decide (a < 1) then true else decide (a > 292194) then true else decide (b < 0) then true else decide (b > 1000000000000000)
def ver2 (n z p : Nat) : Bool := bif bif bif decide ((n : Int) > 100) then true else decide ((z : Int) < 1) then true else decide ((z : Int) > 100) then true else (p : Int) != 8
def frVer (x : denP [.d verT]) : Fr (denL [.bool]) :=
 Fr.br (ver1 x.1.1 x.1.2.2.2.2.2.1) (Fr.val (false, ()))
  (Fr.br (ver2 x.1.2.2.1.length x.1.2.2.2.1.length x.1.2.2.2.2.1.length) (Fr.val (false, ()))
   (Fr.val (bif bif bif (cFactors.f ([x.1.2.1.1, x.1.2.1.2.1, x.1.2.1.2.2.1, x.1.2.1.2.2.2.1], ())).1 then (cFactors.f (x.1.2.2.2.1, ())).1 else false then (cFactors.f (x.1.2.2.2.2.1, ())).1 else false then (cBands.f (x.1.2.2.1, ())).1 else false, ())))
theorem ver_dec (a b : Int) (n z p : Nat) : (!(ver1 a b || ver2 n z p)) = decide (1 <= a /\ a <= 292194 /\ 0 <= b /\ b <= 1000000000000000 /\ n <= 100 /\ 1 <= z /\ z <= 100 /\ p = 8) := by
 have e1 : ver1 a b = decide (a < 1 ∨ a > 292194 ∨ b < 0 ∨ b > 1000000000000000) := by
  unfold ver1
  simp only [cond_eq_ite, Bool.decide_or]
  cases decide (a < 1) <;> cases decide (a > 292194) <;> cases decide (b < 0) <;> simp
 have e2 : ver2 n z p = decide ((n : Int) > 100 ∨ (z : Int) < 1 ∨ (z : Int) > 100 ∨ (p : Int) ≠ 8) := by
  unfold ver2
  simp only [cond_eq_ite, Bool.decide_or]
  cases decide ((n : Int) > 100) <;> cases decide ((z : Int) < 1) <;> cases decide ((z : Int) > 100) <;> simp [bne, Bool.beq_eq_decide_eq]
 rw [e1, e2, Bool.eq_iff_iff]
 simp only [Bool.not_eq_true', Bool.or_eq_false_iff, decide_eq_false_iff_not, decide_eq_true_eq]
 omega
theorem tVer_ok : SoundCt Tryz.prog 131 cVer :=
 convF (fn_sound CI17d_ok (Λ := lam0) (fn := Tryz.f131) (fr := frVer) (ps := [.d verT]) (rs := [.bool]) (verT.dflt, ()) (by kernel_rfl) (fun c E _ => lam0_ok c 0) (fun x => by kernel_rfl)) _ _
  (fun _ _ x _ _ _ => by
   obtain ⟨v, _⟩ := x
   show (frVer (v, ())).ok /\ (frVer (v, ())).get = (verB v, ())
   unfold verB
   rw [← ver_dec]
   unfold frVer
   cases h1 : ver1 v.1 v.2.2.2.2.2.1 with
   | true => exact Fr.br_t rfl ⟨trivial, rfl⟩
   | false =>
    refine Fr.br_f rfl ?_
    cases h2 : ver2 v.2.2.1.length v.2.2.2.1.length v.2.2.2.2.1.length with
    | true => exact Fr.br_t rfl ⟨trivial, rfl⟩
    | false =>
     refine Fr.br_f rfl ⟨trivial, Prod.ext ?_ rfl⟩
     show (bif bif bif factorsB _ then factorsB _ else false then factorsB _ else false then bandsL _ else false) = _
     cases factorsB [v.2.1.1, v.2.1.2.1, v.2.1.2.2.1, v.2.1.2.2.2.1] <;> cases factorsB v.2.2.2.1 <;> cases factorsB v.2.2.2.2.1 <;> rfl)
def verFew (v : verT.den) : Prop := v.2.2.1.length <= 1000000 /\ v.2.2.2.1.length <= 1000000 /\ v.2.2.2.2.1.length <= 1000000
def cOwn : Ct := ⟨[.d verT], [verT], fun x => (x.1, ()), fun x => [verFew x.1]⟩
theorem own_ok : SoundCt Tryz.prog 89 cOwn :=
 convF (fn_sound CI17d_ok (Λ := lam0) (fn := Tryz.f89) (fr := fun x => Fr.need (x.1.2.2.1.length <= 1000000) (Fr.need (x.1.2.2.2.1.length <= 1000000) (Fr.need (x.1.2.2.2.2.1.length <= 1000000) (Fr.val (x.1, ()))))) (ps := [.d verT]) (rs := [verT]) (verT.dflt, ()) (by kernel_rfl) (fun c E _ => lam0_ok c 0) (fun x => by kernel_rfl)) _ _
  (fun _ _ x _ _ hok => ⟨⟨hok.1, hok.2.1, hok.2.2, trivial⟩, rfl⟩)
end Go.Proofs.YtplkgghjldndkaaGreat
namespace Go.Proofs.YtplkgghjldndkaaGreat
open Go Go.Ab Go.RowKit Go.Proofs Go.Shelf
attribute [local go_sem] Oper.semAt_some
def firstN (f : Nat -> Nat) (k : Nat) : List Nat := (List.range k).map f
theorem firstN_succ (f : Nat -> Nat) (k : Nat) : firstN f (k + 1) = firstN f k ++ [f k] := by simp [firstN, List.range_succ]
theorem firstN_length (f : Nat -> Nat) (k : Nat) : (firstN f k).length = k := by simp [firstN]
def verV (c : Nat -> Nat -> Value) (k : Nat) : Value := .agg #[c k 0, c k 1, c k 2, c k 3, c k 4, c k 5, c k 6, c k 7, c k 8]
set_option maxRecDepth 100000 in
set_option maxHeartbeats 2000000 in
theorem back1_in (n : Nat) (hn : 1 <= n) (l Bs n₀ b off len cap : Nat) (c : Nat -> Nat -> Value) (hreach : len <= 1000000) (A : Option Addr) (hA : 0 < len -> A = some ⟨b, off, none⟩ /\ b < n₀) (J Jx : List (Fin len) -> World -> Prop)
  (hY : ∀ pre (k : Fin len) W, J pre W -> pre.length < len -> YieldAt Fence.wide (n - 1) Tryz.prog l #[.int .i64 ((k.1 : Nat) : Int), verV c k.1] W fun e W' =>
   (e = .returned (.bool true) /\ J (pre ++ [k]) W' /\ KpS n₀ Bs Bs W W') ∨ (e = .returned (.bool false) /\ Jx (pre ++ [k]) W'))
  (W : World) (hBs : W.heap[Bs]? = some (.cells #[.slice A len cap] 32 (0, 0))) (hc : ∀ k j, k < len -> j < 9 -> W.cell? ⟨b, off + (k * 9 + j), none⟩ = some (c k j)) (h0 : J [] W) :
  CallsIn Fence.wide n Tryz.prog 126 #[.func (.yield l) #[] #[], .pointer (some ⟨Bs, 0, none⟩)] W fun e W' => (∃ v, e = .returned v) /\
   ((∃ ys : List (Fin len), ys.map Fin.val = firstN (fun j => len - 1 - j) len /\ J ys W') ∨ (∃ pre : List (Fin len), (∃ k, k <= len /\ pre.map Fin.val = firstN (fun j => len - 1 - j) k) /\ Jx pre W')) := by
 have hro : Fence.wide.round = none := rfl
 refine callsIn_of_wp Tryz.func126 rfl trivial ?_ hro
 simp only [Tryz.ntmps126, List.size_toArray, List.length_cons, List.length_nil, Nat.reduceAdd, Nat.reduceSub, Array.replicate_succ, Array.replicate_zero, List.push_toArray, List.append_toArray, List.nil_append, List.cons_append]
 have c0 : W.cell? ⟨Bs, 0, none⟩ = some (.slice A len cap) := cell_of_block hBs 0
 gi_wp2
 gi_loopw [3] (fun i wr => ∃ (k : Nat) (pre : List (Fin len)), k <= len /\ i = .int .i64 ((len : Int) - 1 - k) /\ pre.map Fin.val = firstN (fun j => len - 1 - j) k /\ J pre wr /\ KpS n₀ Bs Bs W wr)
  (fun i _ => (intOf i + 1).toNat)
 case atStart => exact ⟨0, [], Nat.zero_le _, by simp, rfl, h0, KpS.refl _ _ _ _⟩
 case round =>
  obtain ⟨k, pre, hk, rfl, hpre, hJs, hnx⟩ := hrel
  have e0 : wr.cell? ⟨Bs, 0, none⟩ = some (.slice A len cap) := cell_of_block (hnx.2.1.trans hBs) 0
  by_cases hlt : k < len
  ·obtain ⟨rfl, hb⟩ := hA (by omega)
   obtain ⟨fn, tmps, assign, body, hy, hR⟩ := hY pre ⟨len - 1 - k, by omega⟩ wr hJs (by have := congrArg List.length hpre; rw [firstN_length, List.length_map] at this; omega)
   have hcx : ∀ j, j < 9 -> wr.cell? ⟨b, off + (len - 1 - k) * 9 + j, none⟩ = some (c (len - 1 - k) j) := fun j hj => by
    rw [Nat.add_assoc]
    exact (hnx.1.cell (p := ⟨b, off + ((len - 1 - k) * 9 + j), none⟩) hb).trans (hc _ j (by omega) hj)
   have x0 := hcx 0 (by omega)
   have x1 := hcx 1 (by omega)
   have x2 := hcx 2 (by omega)
   have x3 := hcx 3 (by omega)
   have x4 := hcx 4 (by omega)
   have x5 := hcx 5 (by omega)
   have x6 := hcx 6 (by omega)
   have x7 := hcx 7 (by omega)
   have x8 := hcx 8 (by omega)
   rw [Nat.add_zero] at x0
   have ek : ((len - 1 - k : Nat) : Int) = (len : Int) - 1 - k := by omega
   dsimp only at hy
   rw [ek] at hy
   unfold verV at hy
   clear hcx hc hBs
   gi_wp2
   refine hR.mono ?_
   rintro e W3 (⟨rfl, hJ3, hk3⟩ | ⟨rfl, hJx3⟩)
   ·gi_wp2
    go_roundw
    case rel => exact ⟨k + 1, pre ++ [⟨len - 1 - k, by omega⟩], by omega, by simp; omega, by rw [firstN_succ, List.map_append, hpre]; rfl, hJ3, hnx.trans hk3⟩
    case measure => simp [intOf]; omega
   ·gi_wp2
    refine bodyPost_ret (results_none rfl _ _ _) rfl ?_
    exact ⟨⟨_, rfl⟩, .inr ⟨_, ⟨k + 1, by omega, by rw [firstN_succ, List.map_append, hpre]; rfl⟩, hJx3⟩⟩
  ·obtain rfl : k = len := by omega
   gi_wp2
   go_end0
   exact ⟨⟨_, rfl⟩, .inl ⟨_, hpre, hJs⟩⟩
end Go.Proofs.YtplkgghjldndkaaGreat
namespace Go.Ab
open Go Go.RowKit
def Ty.plain : Ty -> Bool
 | .fm _ => false
 | .sl e => e.plain && decide (0 < e.size)
 | .pair a b => a.plain && b.plain
 | _ => true
theorem RepT.some_cell {w : World} {F : Nat -> Prop} : {t : Ty} -> {x : t.den} -> {g : Nat -> Value -> Prop} -> 0 < t.size -> RepT w F t x g -> ∃ j u, g j u
 | .int _, _, _, _, h => ⟨0, _, h.1⟩
 | .bool, _, _, _, h => ⟨0, _, h⟩
 | .str, _, _, _, h => ⟨0, _, h.1⟩
 | .sl _, _, _, _, h => by
  obtain ⟨A, c, h1, _⟩ := h
  exact ⟨0, _, h1⟩
 | .unit, _, _, h, _ => absurd h (by decide)
 | .pair a b, _, _, h, hr => by
  by_cases ha : 0 < a.size
  ·exact RepT.some_cell ha hr.1
  ·have hb : 0 < b.size := by simp only [Ty.size] at h; omega
   obtain ⟨j, u, hu⟩ := RepT.some_cell hb hr.2
   exact ⟨_, u, hu⟩
 | .fm _, _, _, _, h => by
  obtain ⟨r, arr, ck, h1, _⟩ := h
  exact ⟨0, _, h1⟩
theorem cell_cells {w : World} {a : Addr} {u : Value} (h : w.cell? a = some u) : ∃ arr ty p, w.heap[a.block]? = some (.cells arr ty p) := by
 unfold World.cell? at h
 split at h
 ·rename_i arr ty p he
  exact ⟨arr, ty, p, he⟩
 ·cases h
theorem RepT.only {w : World} {F G : Nat -> Prop} (hG : ∀ b, F b -> (∃ arr ty p, w.heap[b]? = some (.cells arr ty p)) -> G b) : {t : Ty} -> {x : t.den} -> {g : Nat -> Value -> Prop} -> t.plain = true -> RepT w F t x g -> RepT w G t x g
 | .int _, _, _, _, h => h
 | .bool, _, _, _, h => h
 | .str, _, _, _, h => h
 | .sl e, _, _, hp, h => by
  obtain ⟨A, c, h1, h2, h3, h4⟩ := h
  simp only [Ty.plain, Bool.and_eq_true, decide_eq_true_eq] at hp
  refine ⟨A, c, h1, h2, h3, fun i x hx => ?_⟩
  obtain ⟨ad, ha, hf, hr⟩ := h4 i x hx
  obtain ⟨j, u, hu⟩ := RepT.some_cell hp.2 hr
  have hc := cell_cells hu
  have hb : (ad.add (i * e.size + j)).block = ad.block := by unfold Addr.add; split <;> rfl
  rw [hb] at hc
  exact ⟨ad, ha, hG _ hf hc, RepT.only hG hp.1 hr⟩
 | .unit, _, _, _, _ => trivial
 | .pair a b, _, _, hp, h => by
  simp only [Ty.plain, Bool.and_eq_true] at hp
  exact ⟨RepT.only hG hp.1 h.1, RepT.only hG hp.2 h.2⟩
 | .fm _, _, _, hp, _ => by cases hp
theorem RepV.only {w : World} {F G : Nat -> Prop} (hG : ∀ b, F b -> (∃ arr ty p, w.heap[b]? = some (.cells arr ty p)) -> G b) {t : Ty} {x : t.den} {v : Value} (hp : t.plain = true) (h : RepV w F t x v) : RepV w G t x v :=
 ⟨h.1, h.2.1, h.2.2.only hG hp⟩
end Go.Ab
namespace Go.Proofs.YtplkgghjldndkaaGreat
open Go Go.Ab Go.RowKit Go.Proofs Go.Shelf
attribute [local go_sem] Oper.semAt_some
structure VC where
 p : Nat -> Int
 A : Nat -> Option Addr
 l : Nat -> Nat
 c : Nat -> Nat
def arr9 (d : VC) : Array Value := #[.int .i64 (d.p 0), .int .i64 (d.p 1), .int .i64 (d.p 2), .int .i64 (d.p 3), .int .i64 (d.p 4), .slice (d.A 0) (d.l 0) (d.c 0), .slice (d.A 1) (d.l 1) (d.c 1), .slice (d.A 2) (d.l 2) (d.c 2), .int .i64 (d.p 5)]
def agg9 (d : VC) : Value := .agg (arr9 d)
theorem ver_cells {w : World} {F : Nat -> Prop} {x : verT.den} {g : Nat -> Value -> Prop} (h : RepT w F verT x g) : ∃ d : VC, (∀ j u, (arr9 d)[j]? = some u -> g j u) /\ d.p 0 = x.1 := by
 obtain ⟨h0, ⟨b0, b1, b2, b3, _⟩, ⟨A1, c1, h1, _⟩, ⟨A2, c2, h2, _⟩, ⟨A3, c3, h3, _⟩, h4, _⟩ := h
 refine ⟨⟨fun j => match j with | 0 => x.1 | 1 => x.2.1.1 | 2 => x.2.1.2.1 | 3 => x.2.1.2.2.1 | 4 => x.2.1.2.2.2.1 | _ => x.2.2.2.2.2.1, fun j => match j with | 0 => A1 | 1 => A2 | _ => A3, fun j => match j with | 0 => x.2.2.1.length | 1 => x.2.2.2.1.length | _ => x.2.2.2.2.1.length, fun j => match j with | 0 => c1 | 1 => c2 | _ => c3⟩, fun j u hj => ?_, rfl⟩
 match j, hj with
 | 0, hj => cases hj; exact h0.1
 | 1, hj => cases hj; exact b0.1
 | 2, hj => cases hj; exact b1.1
 | 3, hj => cases hj; exact b2.1
 | 4, hj => cases hj; exact b3.1
 | 5, hj => cases hj; exact h1
 | 6, hj => cases hj; exact h2
 | 7, hj => cases hj; exact h3
 | 8, hj => cases hj; exact h4.1
 | j + 9, hj => simp [arr9] at hj
theorem ver_agg {w : World} {F : Nat -> Prop} {x : verT.den} {v : Value} (h : RepV w F verT x v) : ∃ d : VC, v = agg9 d /\ d.p 0 = x.1 := by
 obtain ⟨cs, rfl⟩ := h.2.1.1 rfl
 have hs : cs.size = 9 := h.1
 obtain ⟨d, hd, h0⟩ := ver_cells h.2.2
 refine ⟨d, ?_, h0⟩
 unfold agg9
 congr 1
 apply Array.ext
 ·exact hs
 ·intro i hi1 hi2
  have := hd i (arr9 d)[i] (Array.getElem?_eq_getElem hi2)
  have h2 : cs[i]? = some (arr9 d)[i] := this
  rw [Array.getElem?_eq_getElem hi1] at h2
  exact Option.some.inj h2
def zero9 : Array Value := #[.int .i64 0, .int .i64 0, .int .i64 0, .int .i64 0, .int .i64 0, .slice none 0 0, .slice none 0 0, .slice none 0 0, .int .i64 0]
def OwnRes (F : Nat -> Prop) (x : verT.den) (d : VC) (W w' : World) : Prop :=
 ∃ F', RepV w' F' verT x (agg9 d) /\ ∀ b, F' b -> (F b ∨ W.heap.size <= b) /\ ∃ arr ty p, w'.heap[b]? = some (.cells arr ty p)
theorem own_calls {w W : World} {F : Nat -> Prop} {x : verT.den} {v : Value} (hb : ∀ b, F b -> b < w.heap.size) (hW : Below w.heap.size w W) (hx : RepV w F verT x v) (hf : verFew x) :
  Calls Tryz.prog 89 #[v] W fun e w' => ∃ d, e = .returned (agg9 d) /\ Below W.heap.size W w' /\ OwnRes F x d W w' := by
 have hx' : RepV W F verT x v := hx.mono (fun _ h => h) (fun b h => hW.block b (hb b h))
 refine (own_ok.2 W F (x, ()) [v] (fun b h => Nat.lt_of_lt_of_le (hb b h) hW.size) ⟨v, [], rfl, hx', rfl⟩ hf).mono ?_
 rintro e w' ⟨u, F', rfl, hbel, h1, h2, h3⟩
 have h3' : RepV w' F' verT x u := h3
 obtain ⟨d, rfl, _⟩ := ver_agg h3'
 exact ⟨d, rfl, hbel, fun b => F' b /\ ∃ arr ty p, w'.heap[b]? = some (.cells arr ty p), h3'.only (fun b h hc => ⟨h, hc⟩) rfl, fun b h => ⟨(h2 b h.1).1, h.2⟩⟩
structure AtI (w : World) {len : Nat} (day : Int) (sv : Value) (fr : Nat -> Int) (pre : List (Fin len)) (W : World) : Prop where
 x3 : Boxed W (w.heap.size + 1) 3 (.int .i64 day)
 x4 : W.heap[w.heap.size + 2]? = some (.cells zero9 71 (0, 0))
 x5 : Boxed W (w.heap.size + 3) 41 (.int .i64 0)
 xs : Boxed W (w.heap.size + 4) 32 sv
 bel : Below w.heap.size w W
 sz : w.heap.size + 5 <= W.heap.size
 no : ∀ k ∈ pre, ¬ fr k.1 <= day
structure AtX (w : World) {len : Nat} (F : Nat -> Prop) (day : Int) (x : Nat -> verT.den) (fr : Nat -> Int) (c : Code) (pre : List (Fin len)) (W : World) : Prop where
 ret : c = .ret
 res : ∃ ini k d F', pre = ini ++ [k] /\ (∀ k ∈ ini, ¬ fr k.1 <= day) /\ fr k.1 <= day /\ W.heap[w.heap.size + 2]? = some (.cells (arr9 d) 71 (0, 0)) /\ RepV W F' verT (x k.1) (agg9 d) /\ (∀ b, F' b -> (F b ∨ w.heap.size <= b) /\ ∃ arr ty p, W.heap[b]? = some (.cells arr ty p))
 x5 : Boxed W (w.heap.size + 3) 41 (.int .i64 0)
 bel : Below w.heap.size w W
theorem block_abides {X Y : World} {row : Option Nat} {B b : Nat} {cs : Array Value} {t : TypeId} {p : Nat × Nat} (h : X.heap[b]? = some (.cells cs t p)) (hg : X.grownBy Y row) (hr : ∀ r, row = some r -> B <= r /\ ∃ o : Obj, X.heap[r]? = some o /\ o.isCells = false) : Y.heap[b]? = some (.cells cs t p) :=
 (hg.block b (Array.getElem?_eq_some_iff.1 h).1 (fun e => by
  obtain ⟨_, o, ho, hc⟩ := hr b e.symm
  rw [h] at ho
  cases ho
  cases hc)).trans h
theorem atI_own {w : World} {len : Nat} {day : Int} {sv : Value} {fr : Nat -> Int} {B : Nat} (hB : w.heap.size <= B) : OwnFrom B (fun (pre : List (Fin len)) W => AtI w day sv fr pre W) := fun pre X Y row h hg hr =>
 ⟨box_abides h.x3 hg hr, block_abides h.x4 hg hr, box_abides h.x5 hg hr, box_abides h.xs hg hr, h.bel.grown hg h.bel.size (fun k e => Nat.le_trans hB (hr k e).1), Nat.le_trans h.sz hg.size, h.no⟩
theorem atX_own {w : World} {len : Nat} {F : Nat -> Prop} {day : Int} {x : Nat -> verT.den} {fr : Nat -> Int} {B : Nat} (hB : w.heap.size <= B) (c : Code) : OwnFrom B (fun (pre : List (Fin len)) W => AtX w F day x fr c pre W) := fun pre X Y row h hg hr => by
 refine ⟨h.ret, ?_, box_abides h.x5 hg hr, h.bel.grown hg h.bel.size (fun k e => Nat.le_trans hB (hr k e).1)⟩
 obtain ⟨ini, k, d, F', e1, e2, e3, e4, e5, e6⟩ := h.res
 refine ⟨ini, k, d, F', e1, e2, e3, block_abides e4 hg hr, e5.mono (fun _ h => h) (fun b hb => ?_), fun b hb => ?_⟩
 ·obtain ⟨_, arr, ty, p, hc⟩ := e6 b hb
  rw [hc]
  exact block_abides hc hg hr
 ·obtain ⟨hh, arr, ty, p, hc⟩ := e6 b hb
  exact ⟨hh, arr, ty, p, block_abides hc hg hr⟩
def AtA (w0 : Nat) (c : Nat -> VC) (a : Nat -> Nat -> Act) (k : Nat) (a' : Act) (W : World) : Prop := ∃ Bx, w0 <= Bx /\ W.heap[Bx]? = some (.cells (arr9 (c k)) 71 (0, 0)) /\ a' = a k Bx
theorem atA_own {w0 B : Nat} {c : Nat -> VC} {a : Nat -> Nat -> Act} (k : Nat) (a' : Act) : OwnFrom B (fun (_ : Unit) W => AtA w0 c a k a' W) := fun _ X Y row hs hg hr => by
 obtain ⟨Bx, h1, h2, h3⟩ := hs
 exact ⟨Bx, h1, block_abides h2 hg hr, h3⟩
set_option maxRecDepth 100000 in
set_option maxHeartbeats 1000000 in
theorem back_in (n : Nat) (A : Option Addr) (len cap : Nat) (w : World) :
  CallsIn Fence.wide n Tryz.prog 88 #[.slice A len cap] w fun e w' => e = .returned (.func (.func 126) #[] #[.pointer (some ⟨w.heap.size, 0, none⟩)]) /\ w' = w.alloc (.cells #[.slice A len cap] 32) := by
 refine callsIn_of_wp Tryz.func88 rfl trivial ?_ rfl
 simp only [Tryz.ntmps88, List.size_toArray, List.length_cons, List.length_nil, Nat.reduceAdd, Nat.reduceSub, Array.replicate_succ, Array.replicate_zero, List.push_toArray, List.append_toArray, List.nil_append, List.cons_append]
 gi_wp2
 go_ret
 exact ⟨rfl, rfl⟩
end Go.Proofs.YtplkgghjldndkaaGreat
namespace Go.Proofs.YtplkgghjldndkaaGreat
open Go Go.Ab Go.RowKit Go.Proofs Go.Shelf
attribute [local go_sem] Oper.semAt_some
def AtEnd (w : World) (F : Nat -> Prop) (day : Int) (x : Nat -> verT.den) (fr : Nat -> Int) (len : Nat) (e : Ending) (w' : World) : Prop :=
 (e = .returned (.tuple #[.agg zero9, .int .i64 7]) /\ ∀ k, k < len -> ¬ fr k <= day) ∨
 ∃ k d F', k < len /\ fr k <= day /\ (∀ j, k < j -> j < len -> ¬ fr j <= day) /\ e = .returned (.tuple #[agg9 d, .int .i64 0]) /\ RepV w' F' verT (x k) (agg9 d) /\ (∀ b, F' b -> (F b ∨ w.heap.size <= b) /\ b < w'.heap.size)
theorem setCells9_same {W : World} {B : Nat} {a0 a1 a2 a3 a4 a5 a6 a7 a8 : Value} {t : TypeId} (h : W.heap[B]? = some (.cells #[a0, a1, a2, a3, a4, a5, a6, a7, a8] t (0, 0))) (v0 v1 v2 v3 v4 v5 v6 v7 v8 : Value) :
  (W.setCells B 0 [v0, v1, v2, v3, v4, v5, v6, v7, v8]).heap[B]? = some (.cells #[v0, v1, v2, v3, v4, v5, v6, v7, v8] t (0, 0)) := by
 have h0 := heap_setCell_same W B 0 _ t v0 h
 rw [show (#[a0, a1, a2, a3, a4, a5, a6, a7, a8] : Array Value).setIfInBounds 0 v0 = #[v0, a1, a2, a3, a4, a5, a6, a7, a8] from rfl] at h0
 have h1 := heap_setCell_same _ B 1 _ t v1 h0
 rw [show (#[v0, a1, a2, a3, a4, a5, a6, a7, a8] : Array Value).setIfInBounds 1 v1 = #[v0, v1, a2, a3, a4, a5, a6, a7, a8] from rfl] at h1
 have h2 := heap_setCell_same _ B 2 _ t v2 h1
 rw [show (#[v0, v1, a2, a3, a4, a5, a6, a7, a8] : Array Value).setIfInBounds 2 v2 = #[v0, v1, v2, a3, a4, a5, a6, a7, a8] from rfl] at h2
 have h3 := heap_setCell_same _ B 3 _ t v3 h2
 rw [show (#[v0, v1, v2, a3, a4, a5, a6, a7, a8] : Array Value).setIfInBounds 3 v3 = #[v0, v1, v2, v3, a4, a5, a6, a7, a8] from rfl] at h3
 have h4 := heap_setCell_same _ B 4 _ t v4 h3
 rw [show (#[v0, v1, v2, v3, a4, a5, a6, a7, a8] : Array Value).setIfInBounds 4 v4 = #[v0, v1, v2, v3, v4, a5, a6, a7, a8] from rfl] at h4
 have h5 := heap_setCell_same _ B 5 _ t v5 h4
 rw [show (#[v0, v1, v2, v3, v4, a5, a6, a7, a8] : Array Value).setIfInBounds 5 v5 = #[v0, v1, v2, v3, v4, v5, a6, a7, a8] from rfl] at h5
 have h6 := heap_setCell_same _ B 6 _ t v6 h5
 rw [show (#[v0, v1, v2, v3, v4, v5, a6, a7, a8] : Array Value).setIfInBounds 6 v6 = #[v0, v1, v2, v3, v4, v5, v6, a7, a8] from rfl] at h6
 have h7 := heap_setCell_same _ B 7 _ t v7 h6
 rw [show (#[v0, v1, v2, v3, v4, v5, v6, a7, a8] : Array Value).setIfInBounds 7 v7 = #[v0, v1, v2, v3, v4, v5, v6, v7, a8] from rfl] at h7
 have h8 := heap_setCell_same _ B 8 _ t v8 h7
 rw [show (#[v0, v1, v2, v3, v4, v5, v6, v7, a8] : Array Value).setIfInBounds 8 v8 = #[v0, v1, v2, v3, v4, v5, v6, v7, v8] from rfl] at h8
 exact h8
theorem setCells_other {B k : Nat} (h : k ≠ B) : (vs : List Value) -> (o : Nat) -> (W : World) -> (W.setCells B o vs).heap[k]? = W.heap[k]?
 | [], _, _ => rfl
 | v :: r, o, W => (setCells_other h r (o + 1) _).trans (heap_setCell_other W _ k v h)
theorem setCells_below {B n : Nat} (h : n <= B) : (vs : List Value) -> (o : Nat) -> (W : World) -> Below n W (W.setCells B o vs)
 | [], _, W => Below.refl n W
 | v :: r, o, W => ((Below.refl n W).setCell (p := ⟨B, o, none⟩) h v).trans (setCells_below h r (o + 1) _)
theorem setCells_keeps {B : Nat} : (vs : List Value) -> (o : Nat) -> (W : World) -> KeepsOthers W (W.setCells B o vs)
 | [], _, W => KeepsOthers.refl W
 | v :: r, o, W => (KeepsOthers.setCell W _ v).trans (setCells_keeps r (o + 1) _)
theorem keeps_below {B : Nat} {W W' : World} (h : Below W.heap.size W W') : KeepsFrom B W W' :=
 ⟨h.size, fun k o _ hk _ => (h.block k (Array.getElem?_eq_some_iff.1 hk).1).trans hk⟩
set_option maxRecDepth 100000 in
theorem at_ret {W : World} {R : Ending -> World -> Prop} {D z : Nat} {v0 v1 v2 v3 v4 v5 v6 v7 v8 a0 a1 a2 a3 a6 a7 a8 a9 a10 a11 a12 a13 a14 a15 a16 a17 a18 a19 : Value} {n : Int}
  (z4 : W.heap[z + 2]? = some (.cells #[v0, v1, v2, v3, v4, v5, v6, v7, v8] 71 (0, 0))) (z5 : Boxed W (z + 3) 41 (.int .i64 n)) (hK : W.heap[D]? = some (.deferred (some []))) (hD : z + 5 <= D)
  (hR : R (.returned (.tuple #[.agg #[v0, v1, v2, v3, v4, v5, v6, v7, v8], .int .i64 n])) (W.putObj D (.deferred none))) :
  bodyPostM Fence.wide 8 Tryz.prog Tryz.f53 R .ret { tmps := #[a0, a1, a2, a3, .pointer (some ⟨z + 1 + 1, 0, none⟩), .pointer (some ⟨z + 1 + 1 + 1, 0, none⟩), a6, a7, a8, a9, a10, a11, a12, a13, a14, a15, a16, a17, a18, a19], defers := [{ target := .collected D, args := #[] }] } W := by
 have k4 := (World.putObj_heap_other (w := W) (r := D) (k := z + 2) (o := .deferred none) (by omega)).trans z4
 have k5 : (W.putObj D (.deferred none)).heap[z + 3]? = _ := (World.putObj_heap_other (w := W) (r := D) (k := z + 3) (o := .deferred none) (by omega)).trans z5
 have u0 := cell_of_block k4 0
 have u1 := cell_of_block k4 1
 have u2 := cell_of_block k4 2
 have u3 := cell_of_block k4 3
 have u4 := cell_of_block k4 4
 have u5 := cell_of_block k4 5
 have u6 := cell_of_block k4 6
 have u7 := cell_of_block k4 7
 have u8 := cell_of_block k4 8
 simp at u0 u1 u2 u3 u4 u5 u6 u7 u8
 have g5 := cell_of_block k5 0
 simp at g5
 refine ⟨by simp, .inl ⟨_, _, rfl, run_takeDeferred hK, ?_⟩⟩
 refine ⟨.tuple #[.agg #[v0, v1, v2, v3, v4, v5, v6, v7, v8], .int .i64 n], ?_, hR⟩
 simp [results, Tryz.results53, go_sem, u0, u1, u2, u3, u4, u5, u6, u7, u8, g5]
set_option maxRecDepth 100000 in
set_option maxHeartbeats 4000000 in
theorem at_in (b off len cap : Nat) (day : Int) (c : Nat -> VC) (x : Nat -> verT.den) (F : Nat -> Prop) (w : World) (hlen : len <= 1000000) (A : Option Addr) (hA : 0 < len -> A = some ⟨b, off, none⟩ /\ b < w.heap.size) (hbF : ∀ q, F q -> q < w.heap.size)
  (hc : ∀ k j u, k < len -> (arr9 (c k))[j]? = some u -> w.cell? ⟨b, off + (k * 9 + j), none⟩ = some u)
  (hown : ∀ k W, k < len -> Below w.heap.size w W -> Calls Tryz.prog 89 #[agg9 (c k)] W fun e w' => ∃ d, e = .returned (agg9 d) /\ Below W.heap.size W w' /\ OwnRes F (x k) d W w') :
  CallsIn Fence.wide 8 Tryz.prog 53 #[.agg #[.slice A len cap], .int .i64 day] w fun e w' => AtEnd w F day x (fun k => (c k).p 0) len e w' /\ Below w.heap.size w w' := by
 refine callsIn_of_wp_marks Tryz.func53 rfl trivial ?_ rfl
 simp only [Tryz.ntmps53, List.size_toArray, List.length_cons, List.length_nil, Nat.reduceAdd, Nat.reduceSub, Array.replicate_succ, Array.replicate_zero, List.push_toArray, List.append_toArray, List.nil_append, List.cons_append]
 gi_wp2_with (refine ⟨trivial, ?_⟩; gi_at_call 88; refine (back_in _ _ _ _ _).mono ?_; rintro e w' ⟨rfl, rfl⟩)
 have q1 := World.alloc_heap_new (w.alloc (.cells #[.slice A len cap] 34)) (.cells #[.int .i64 day] 3)
 have q2 := World.alloc_heap_new ((w.alloc (.cells #[.slice A len cap] 34)).alloc (.cells #[.int .i64 day] 3)) (.cells zero9 71)
 have q3 := World.alloc_heap_new (((w.alloc (.cells #[.slice A len cap] 34)).alloc (.cells #[.int .i64 day] 3)).alloc (.cells zero9 71)) (.cells #[.int .i64 0] 41)
 have q4 := World.alloc_heap_new ((((w.alloc (.cells #[.slice A len cap] 34)).alloc (.cells #[.int .i64 day] 3)).alloc (.cells zero9 71)).alloc (.cells #[.int .i64 0] 41)) (.cells #[.slice A len cap] 32)
 have hbel : Below w.heap.size w (((((w.alloc (.cells #[.slice A len cap] 34)).alloc (.cells #[.int .i64 day] 3)).alloc (.cells zero9 71)).alloc (.cells #[.int .i64 0] 41)).alloc (.cells #[.slice A len cap] 32)) :=
  (((((Below.refl _ w).alloc (Nat.le_refl _) _).alloc (by simp) _).alloc (by simp; omega) _).alloc (by simp; omega) _).alloc (by simp; omega) _
 have hsz : (((((w.alloc (.cells #[.slice A len cap] 34)).alloc (.cells #[.int .i64 day] 3)).alloc (.cells zero9 71)).alloc (.cells #[.int .i64 0] 41)).alloc (.cells #[.slice A len cap] 32)).heap.size = w.heap.size + 5 := by simp
 simp only [World.size_alloc] at q1 q2 q3 q4
 have r1 := (Below.heap_alloc ((((w.alloc (.cells #[.slice A len cap] 34)).alloc (.cells #[.int .i64 day] 3)).alloc (.cells zero9 71)).alloc (.cells #[.int .i64 0] 41)) (.cells #[.slice A len cap] 32) (w.heap.size + 1) (by simp only [World.size_alloc]; omega)).trans ((Below.heap_alloc _ _ _ (by simp only [World.size_alloc]; omega)).trans ((Below.heap_alloc _ _ _ (by simp only [World.size_alloc]; omega)).trans q1))
 have r2 := (Below.heap_alloc ((((w.alloc (.cells #[.slice A len cap] 34)).alloc (.cells #[.int .i64 day] 3)).alloc (.cells zero9 71)).alloc (.cells #[.int .i64 0] 41)) (.cells #[.slice A len cap] 32) (w.heap.size + 1 + 1) (by simp only [World.size_alloc]; omega)).trans ((Below.heap_alloc _ _ _ (by simp only [World.size_alloc]; omega)).trans q2)
 have r3 := (Below.heap_alloc ((((w.alloc (.cells #[.slice A len cap] 34)).alloc (.cells #[.int .i64 day] 3)).alloc (.cells zero9 71)).alloc (.cells #[.int .i64 0] 41)) (.cells #[.slice A len cap] 32) (w.heap.size + 1 + 1 + 1) (by simp only [World.size_alloc]; omega)).trans q3
 unfold zero9 at hbel hsz r1 r2 r3 q4
 obtain ⟨W0, hW0⟩ : ∃ W0, ((((w.alloc (.cells #[.slice A len cap] 34)).alloc (.cells #[.int .i64 day] 3)).alloc (.cells #[.int .i64 0, .int .i64 0, .int .i64 0, .int .i64 0, .int .i64 0, .slice none 0 0, .slice none 0 0, .slice none 0 0, .int .i64 0] 71)).alloc (.cells #[.int .i64 0] 41)).alloc (.cells #[.slice A len cap] 32) = W0 := ⟨_, rfl⟩
 rw [hW0] at hbel hsz r1 r2 r3 q4 ⊢
 clear hW0 q1 q2 q3
 have hI0 : AtI w day (.slice A len cap) (fun k => (c k).p 0) ([] : List (Fin len)) W0 := ⟨r1, r2, r3, q4, hbel, by omega, fun k hk => by cases hk⟩
 refine wpIn_rangeFunc_ownH rfl (by omega) (gf := 126) (lb := #[.pointer (some ⟨w.heap.size + 1 + 1 + 1 + 1, 0, none⟩)]) rfl trivial (enters_of Tryz.func126 (by kernel_rfl) rfl)
  (α := Fin len) (encs := fun (k : Fin len) => #[.int .i64 ((k.1 : Nat) : Int), agg9 (c k.1)]) (Kp := KpS w.heap.size (w.heap.size + 4) (w.heap.size + 4)) (S := fun ys => ys.map Fin.val = firstN (fun j => len - 1 - j) len) (Sp := fun pre => ∃ k, k <= len /\ pre.map Fin.val = firstN (fun j => len - 1 - j) k) (N := len) (w0 := W0)
  (fun l J Jx W hW _ _ hY h0 => back1_in 7 (by omega) l (w.heap.size + 4) w.heap.size b off len cap (fun k j => (arr9 (c k)).getD j undef) hlen A hA J Jx hY W ((hW.block _ (by omega)).trans q4) (fun k j hk hj => have hb := (hA (by omega)).2; ((hW.mono (by omega)).cell (p := ⟨b, off + (k * 9 + j), none⟩) hb).trans ((hbel.cell (p := ⟨b, off + (k * 9 + j), none⟩) hb).trans (hc k j _ hk (by match j, hj with | 0, _ | 1, _ | 2, _ | 3, _ | 4, _ | 5, _ | 6, _ | 7, _ | 8, _ => rfl)))) h0)
  (fun h k => h.trans k) (fun W l o o' hl ho hoc how => ⟨belowK_b (w := w) (Nat.le_refl _) W l o o' (by omega) ho hoc how, World.putObj_heap_other (by omega), World.putObj_heap_other (by omega)⟩) (Below.refl _ _) (fun _ => rfl)
  (fun pre W => AtI w day (.slice A len cap) (fun k => (c k).p 0) pre W)
  (fun cd pre W => AtX w F day x (fun k => (c k).p 0) cd pre W)
  (atI_own (by omega)) (atX_own (by omega)) hI0
  (fun k a' W => AtA W0.heap.size c (fun k Bx => { tmps := #[.agg #[.slice A len cap], .int .i64 day, .pointer (some ⟨w.heap.size, 0, none⟩), .pointer (some ⟨w.heap.size + 1, 0, none⟩), .pointer (some ⟨w.heap.size + 1 + 1, 0, none⟩), .pointer (some ⟨w.heap.size + 1 + 1 + 1, 0, none⟩), undef, .pointer (some ⟨Bx, 0, none⟩),
   .pointer (some ⟨w.heap.size, 0, none⟩), .slice A len cap, .func (.func 126) #[] #[.pointer (some ⟨w.heap.size + 1 + 1 + 1 + 1, 0, none⟩)], .int .i64 (k : Int), agg9 (c k), undef, undef, undef, undef, undef, undef, undef], defers := [] }) k.1 a' W)
  (fun k a' => atA_own k.1 a') ?assign ?body ?done ?stop
 case assign =>
  rintro l pre ⟨k, hkl⟩ W K hi hK
  unfold agg9 arr9
  gi_wp2
  have hsz1 := hi.sz
  have hB := (Below.refl w.heap.size W).alloc (by have := hi.bel.size; omega) (.cells (arr9 (c k)) 71)
  exact hK _ _ ((KeepsOthers.alloc _ _).from _) (KpS.below ((Below.refl _ W).alloc (Nat.le_refl _) _) hi.bel.size (by omega) (by omega))
   ⟨hi.x3.alloc _, (Below.heap_alloc _ _ _ (by omega)).trans hi.x4, hi.x5.alloc _, hi.xs.alloc _, hi.bel.alloc hi.bel.size _, by simp; omega, hi.no⟩ ⟨W.heap.size, by omega, World.alloc_heap_new W _, rfl⟩
 case body =>
  rintro l pre ⟨k, hkl⟩ a' W hl ⟨r, hr⟩ hi ⟨Bx, hBx, bX, rfl⟩ hlt
  have bX' := bX
  unfold arr9 at bX'
  have y0 := cell_of_block bX' 0
  have y1 := cell_of_block bX' 1
  have y2 := cell_of_block bX' 2
  have y3 := cell_of_block bX' 3
  have y4 := cell_of_block bX' 4
  have y5 := cell_of_block bX' 5
  have y6 := cell_of_block bX' 6
  have y7 := cell_of_block bX' 7
  have y8 := cell_of_block bX' 8
  simp at y0 y1 y2 y3 y4 y5 y6 y7 y8
  have c3 := hi.x3.cell
  have hown' := hown k W hkl hi.bel
  unfold agg9 arr9 at hown'
  clear bX' hr hc hown
  gi_wp2
  ·refine ⟨trivial, ?_⟩
   refine (CallsIn.inRound l (callsIn_wide.2 hown')).mono ?_
   rintro e w1 ⟨d, rfl, hb1, hres⟩
   have hsz1 := hi.sz
   have z4 := (hb1.block (w.heap.size + 2) (by omega)).trans hi.x4
   have z5 : w1.heap[w.heap.size + 3]? = _ := (hb1.block (w.heap.size + 3) (by omega)).trans hi.x5
   unfold zero9 at z4
   have u0 := cell_of_block z4 0
   have u1 := cell_of_block z4 1
   have u2 := cell_of_block z4 2
   have u3 := cell_of_block z4 3
   have u4 := cell_of_block z4 4
   have u5 := cell_of_block z4 5
   have u6 := cell_of_block z4 6
   have u7 := cell_of_block z4 7
   have u8 := cell_of_block z4 8
   simp at u0 u1 u2 u3 u4 u5 u6 u7 u8
   have ff : ∀ j, w1.frozen? ⟨w.heap.size + 2, j, none⟩ = false := fun j => by simp [World.frozen?, z4]
   have g5 := cell_of_block z5 0
   have h5 : w1.frozen? ⟨w.heap.size + 3, 0, none⟩ = false := by simp [World.frozen?, z5]
   gi_wp2
   have hday : (c k).p 0 <= day := by assumption
   have s4 := setCells9_same z4 (.int .i64 (d.p 0)) (.int .i64 (d.p 1)) (.int .i64 (d.p 2)) (.int .i64 (d.p 3)) (.int .i64 (d.p 4)) (.slice (d.A 0) (d.l 0) (d.c 0)) (.slice (d.A 1) (d.l 1) (d.c 1)) (.slice (d.A 2) (d.l 2) (d.c 2)) (.int .i64 (d.p 5))
   have s5 : Boxed (w1.setCells (w.heap.size + 2) 0 [.int .i64 (d.p 0), .int .i64 (d.p 1), .int .i64 (d.p 2), .int .i64 (d.p 3), .int .i64 (d.p 4), .slice (d.A 0) (d.l 0) (d.c 0), .slice (d.A 1) (d.l 1) (d.c 1), .slice (d.A 2) (d.l 2) (d.c 2), .int .i64 (d.p 5)]) (w.heap.size + 3) 41 (.int .i64 0) := (setCells_other (by omega) _ _ _).trans z5
   have kk := setCells_keeps (B := w.heap.size + 2) [.int .i64 (d.p 0), .int .i64 (d.p 1), .int .i64 (d.p 2), .int .i64 (d.p 3), .int .i64 (d.p 4), .slice (d.A 0) (d.l 0) (d.c 0), .slice (d.A 1) (d.l 1) (d.c 1), .slice (d.A 2) (d.l 2) (d.c 2), .int .i64 (d.p 5)] 0 w1
   have bb := setCells_below (B := w.heap.size + 2) (n := w.heap.size) (by omega) [.int .i64 (d.p 0), .int .i64 (d.p 1), .int .i64 (d.p 2), .int .i64 (d.p 3), .int .i64 (d.p 4), .slice (d.A 0) (d.l 0) (d.c 0), .slice (d.A 1) (d.l 1) (d.c 1), .slice (d.A 2) (d.l 2) (d.c 2), .int .i64 (d.p 5)] 0 w1
   have oo : ∀ q, q ≠ w.heap.size + 2 -> (w1.setCells (w.heap.size + 2) 0 [.int .i64 (d.p 0), .int .i64 (d.p 1), .int .i64 (d.p 2), .int .i64 (d.p 3), .int .i64 (d.p 4), .slice (d.A 0) (d.l 0) (d.c 0), .slice (d.A 1) (d.l 1) (d.c 1), .slice (d.A 2) (d.l 2) (d.c 2), .int .i64 (d.p 5)]).heap[q]? = w1.heap[q]? := fun q hq => setCells_other hq _ _ _
   show KeepsFrom _ W ((w1.setCells (w.heap.size + 2) 0 [.int .i64 (d.p 0), .int .i64 (d.p 1), .int .i64 (d.p 2), .int .i64 (d.p 3), .int .i64 (d.p 4), .slice (d.A 0) (d.l 0) (d.c 0), .slice (d.A 1) (d.l 1) (d.c 1), .slice (d.A 2) (d.l 2) (d.c 2), .int .i64 (d.p 5)]).setCell ⟨w.heap.size + 3, 0, none⟩ (.int .i64 0)) /\ AtX w F day x (fun k => (c k).p 0) .ret (pre ++ [⟨k, hkl⟩]) ((w1.setCells (w.heap.size + 2) 0 [.int .i64 (d.p 0), .int .i64 (d.p 1), .int .i64 (d.p 2), .int .i64 (d.p 3), .int .i64 (d.p 4), .slice (d.A 0) (d.l 0) (d.c 0), .slice (d.A 1) (d.l 1) (d.c 1), .slice (d.A 2) (d.l 2) (d.c 2), .int .i64 (d.p 5)]).setCell ⟨w.heap.size + 3, 0, none⟩ (.int .i64 0))
   generalize w1.setCells (w.heap.size + 2) 0 [.int .i64 (d.p 0), .int .i64 (d.p 1), .int .i64 (d.p 2), .int .i64 (d.p 3), .int .i64 (d.p 4), .slice (d.A 0) (d.l 0) (d.c 0), .slice (d.A 1) (d.l 1) (d.c 1), .slice (d.A 2) (d.l 2) (d.c 2), .int .i64 (d.p 5)] = W2 at *
   obtain ⟨F', hF1, hF2⟩ := hres
   have bel2 : Below w.heap.size w W2 := (hi.bel.trans (hb1.mono hi.bel.size)).trans bb
   have hne : ∀ q, F' q -> q ≠ w.heap.size + 2 /\ q ≠ w.heap.size + 3 := fun q hq => by
    have hs0 := hi.sz
    rcases (hF2 q hq).1 with h | h
    ·have := hbF q h
     omega
    ·omega
   have hsame : ∀ q, F' q -> (W2.setCell ⟨w.heap.size + 3, 0, none⟩ (.int .i64 0)).heap[q]? = w1.heap[q]? := fun q hq => (heap_setCell_other _ _ q _ (hne q hq).2).trans (oo q (hne q hq).1)
   refine ⟨(keeps_below hb1).trans ((kk.trans (KeepsOthers.setCell _ _ _)).from _), rfl, ⟨pre, ⟨k, hkl⟩, d, F', rfl, hi.no, hday, (heap_setCell_other _ _ _ _ (by show w.heap.size + 2 ≠ w.heap.size + 3; omega)).trans s4, hF1.mono (fun _ h => h) hsame, fun q hq => ?_⟩, s5.set _, bel2.setCell (p := ⟨w.heap.size + 3, 0, none⟩) (by show w.heap.size <= w.heap.size + 3; omega) _⟩
   obtain ⟨q1, arr, ty, p, q2⟩ := hF2 q hq
   exact ⟨q1.elim .inl (fun h => .inr (Nat.le_trans hi.bel.size h)), arr, ty, p, (hsame q hq).trans q2⟩
  ·have hday : ¬ (c k).p 0 <= day := by simp_all
   exact ⟨KeepsFrom.refl _ _, KpS.refl _ _ _ _, hi.x3, hi.x4, hi.x5, hi.xs, hi.bel, hi.sz, fun q hq => (List.mem_append.1 hq).elim (hi.no q) (fun e => by simp at e; subst e; exact hday)⟩
 case done =>
  rintro D zs W hD hzs hi hK
  have z4 := hi.x4
  have z5 : W.heap[w.heap.size + 3]? = _ := hi.x5
  unfold zero9 at z4
  have u0 := cell_of_block z4 0
  have u1 := cell_of_block z4 1
  have u2 := cell_of_block z4 2
  have u3 := cell_of_block z4 3
  have u4 := cell_of_block z4 4
  have u5 := cell_of_block z4 5
  have u6 := cell_of_block z4 6
  have u7 := cell_of_block z4 7
  have u8 := cell_of_block z4 8
  simp at u0 u1 u2 u3 u4 u5 u6 u7 u8
  have ff : ∀ j, W.frozen? ⟨w.heap.size + 2, j, none⟩ = false := fun j => by simp [World.frozen?, z4]
  have g5 := cell_of_block z5 0
  have h5 : W.frozen? ⟨w.heap.size + 3, 0, none⟩ = false := by simp [World.frozen?, z5]
  clear hown hc
  gi_wp2
  have s4 := setCells9_same z4 (.int .i64 0) (.int .i64 0) (.int .i64 0) (.int .i64 0) (.int .i64 0) (.slice none 0 0) (.slice none 0 0) (.slice none 0 0) (.int .i64 0)
  have s5 : Boxed (W.setCells (w.heap.size + 2) 0 [.int .i64 0, .int .i64 0, .int .i64 0, .int .i64 0, .int .i64 0, .slice none 0 0, .slice none 0 0, .slice none 0 0, .int .i64 0]) (w.heap.size + 3) 41 (.int .i64 0) := (setCells_other (by omega) _ _ _).trans z5
  have kk := (setCells_keeps (B := w.heap.size + 2) [.int .i64 0, .int .i64 0, .int .i64 0, .int .i64 0, .int .i64 0, .slice none 0 0, .slice none 0 0, .slice none 0 0, .int .i64 0] 0 W).same D _ hK rfl
  have bb := hi.bel.trans (setCells_below (B := w.heap.size + 2) (n := w.heap.size) (by omega) [.int .i64 0, .int .i64 0, .int .i64 0, .int .i64 0, .int .i64 0, .slice none 0 0, .slice none 0 0, .slice none 0 0, .int .i64 0] 0 W)
  have kk' := (KeepsOthers.setCell (W.setCells (w.heap.size + 2) 0 [.int .i64 0, .int .i64 0, .int .i64 0, .int .i64 0, .int .i64 0, .slice none 0 0, .slice none 0 0, .slice none 0 0, .int .i64 0]) ⟨w.heap.size + 3, 0, none⟩ (.int .i64 7)).same D _ kk rfl
  have bb' := bb.setCell (p := ⟨w.heap.size + 3, 0, none⟩) (by show w.heap.size <= w.heap.size + 3; omega) (.int .i64 7)
  refine at_ret ((heap_setCell_other _ _ _ _ (by show w.heap.size + 2 ≠ w.heap.size + 3; omega)).trans s4) (s5.set (.int .i64 7)) kk' (by omega) ⟨.inl ⟨rfl, fun k hk => ?_⟩, bb'.trans (belowK_b (w := w) (Nat.le_refl _) _ D _ _ (by omega) kk' rfl rfl)⟩
  have hm : k ∈ zs.map Fin.val := by
   rw [hzs]
   exact List.mem_map.2 ⟨len - 1 - k, List.mem_range.2 (by omega), by show len - 1 - (len - 1 - k) = k; omega⟩
  obtain ⟨q, hq, rfl⟩ := List.mem_map.1 hm
  exact hi.no q hq
 case stop =>
  rintro D cd pre W hD ⟨m, hm, hpre⟩ h hK
  obtain rfl := h.ret
  gi_wp2
  obtain ⟨ini, k, d, F', e1, e2, e3, e4, e5, e6⟩ := h.res
  refine at_ret e4 h.x5 hK (by omega) ⟨.inr ⟨k.1, d, F', k.2, e3, fun j hj1 hj2 => ?_, rfl, ?_, fun q hq => ?_⟩, h.bel.trans (belowK_b (w := w) (Nat.le_refl _) _ D _ _ (by omega) hK rfl rfl)⟩
  ·subst e1
   have hl := congrArg List.length hpre
   rw [firstN_length, List.length_map, List.length_append] at hl
   obtain rfl : m = ini.length + 1 := by simpa using hl.symm
   rw [firstN_succ, List.map_append] at hpre
   obtain ⟨h2, h3⟩ := List.append_inj' hpre rfl
   have hlast : k.1 = len - 1 - ini.length := by simpa using h3
   have hin : j ∈ (ini.map Fin.val) := by
    rw [h2]
    exact List.mem_map.2 ⟨len - 1 - j, List.mem_range.2 (by omega), by show len - 1 - (len - 1 - j) = j; omega⟩
   obtain ⟨q, hq, rfl⟩ := List.mem_map.1 hin
   exact e2 q hq
  ·refine e5.mono (fun _ h => h) (fun q hq => ?_)
   obtain ⟨_, arr, ty, p, hc2⟩ := e6 q hq
   exact World.putObj_heap_other (fun e => by subst e; rw [hK] at hc2; cases hc2)
  ·obtain ⟨h1, arr, ty, p, hc2⟩ := e6 q hq
   refine ⟨h1, ?_⟩
   have := (Array.getElem?_eq_some_iff.1 hc2).1
   simpa [World.putObj] using this
end Go.Proofs.YtplkgghjldndkaaGreat
namespace Go.Proofs.YtplkgghjldndkaaGreat
open Go Go.Ab Go.RowKit Go.Proofs Go.Shelf
theorem vers_cells {w : World} {F : Nat -> Prop} {l : List verT.den} {v : Value} (h : RepT w F (.sl verT) l (fun _ u => u = v)) :
  ∃ (A : Option Addr) (cap : Nat) (b off : Nat) (c : Nat -> VC), v = .slice A l.length cap /\ (0 < l.length -> A = some ⟨b, off, none⟩ /\ F b) /\
   (∀ k j u, k < l.length -> (arr9 (c k))[j]? = some u -> w.cell? ⟨b, off + (k * 9 + j), none⟩ = some u) /\ ∀ k x, l[k]? = some x -> (c k).p 0 = x.1 /\ RepV w F verT x (agg9 (c k)) := by
 obtain ⟨A, cap, h0, h1, h2, h3⟩ := h
 by_cases hp : 0 < l.length
 ·obtain ⟨ad, hA, hF, hc⟩ := h3 0 l[0] (List.getElem?_eq_getElem hp)
  have hsp : ad.spot = none := by
   have hc' : w.cell? (ad.add (0 * verT.size + 0)) = some (.int .i64 l[0].1) := hc.1.1
   have he : ad.add (0 * verT.size + 0) = ad := by simp [Addr.add]
   rw [he] at hc'
   unfold World.cell? at hc'
   split at hc'
   ·split at hc'
    ·cases hc'
    ·rename_i hsp
     cases hsp2 : ad.spot with
     | none => rfl
     | some _ => rw [hsp2] at hsp; exact absurd rfl hsp
   ·cases hc'
  obtain ⟨b, off, sp⟩ := ad
  simp only at hsp
  subst hsp
  have hall : ∀ k, ∃ d : VC, ∀ x, l[k]? = some x -> (∀ j u, (arr9 d)[j]? = some u -> w.cell? ⟨b, off + (k * 9 + j), none⟩ = some u) /\ d.p 0 = x.1 /\ RepV w F verT x (agg9 d) := by
   intro k
   cases hk : l[k]? with
   | none => exact ⟨⟨fun _ => 0, fun _ => none, fun _ => 0, fun _ => 0⟩, fun x hx => by cases hx⟩
   | some x =>
    obtain ⟨ad', hA', _, hr⟩ := h3 k x hk
    rw [hA] at hA'
    cases hA'
    obtain ⟨d, hd, hd0⟩ := ver_cells hr
    refine ⟨d, fun y hy => ?_⟩
    cases hy
    have hcell : ∀ j u, (arr9 d)[j]? = some u -> w.cell? ⟨b, off + (k * 9 + j), none⟩ = some u := fun j u hj => by
     have := hd j u hj
     rw [show verT.size = 9 from rfl] at this
     have e : (⟨b, off, none⟩ : Addr).add (k * 9 + j) = ⟨b, off + (k * 9 + j), none⟩ := by unfold Addr.add; split <;> simp_all
     rw [e] at this
     exact this
    refine ⟨hcell, hd0, rfl, ⟨fun _ => ⟨_, rfl⟩, fun _ => rfl⟩, ?_⟩
    refine hr.mono (fun _ h => h) (fun _ _ => rfl) fun j u hj hu => ?_
    have hj9 : j < (arr9 d).size := hj
    have h2 := hd j (arr9 d)[j] (Array.getElem?_eq_getElem hj9)
    have h3 : some u = some (arr9 d)[j] := hu.symm.trans h2
    show (arr9 d)[j]? = some u
    rw [Array.getElem?_eq_getElem hj9]
    exact h3.symm
  obtain ⟨c, hcc⟩ := Classical.axiomOfChoice hall
  refine ⟨A, cap, b, off, c, h0.symm, fun _ => ⟨hA, hF⟩, fun k j u hk hj => (hcc k l[k] (List.getElem?_eq_getElem hk)).1 j u hj, fun k x hx => (hcc k x hx).2⟩
 ·refine ⟨A, cap, 0, 0, fun _ => ⟨fun _ => 0, fun _ => none, fun _ => 0, fun _ => 0⟩, h0.symm, fun h => absurd h hp, fun k j u hk => absurd hk (by omega), fun k x hx => ?_⟩
  have := (List.getElem?_eq_some_iff.1 hx).1
  omega
theorem verAt_app (day : Int) (b : List verT.den) : (a : List verT.den) -> (∀ v ∈ a, ¬ v.1 <= day) -> verAt day (a ++ b) = verAt day b
 | [], _ => rfl
 | v :: a, h => by
  have hv : ¬ v.1 <= day := h v (by simp)
  have : verAt day (v :: a ++ b) = verAt day (a ++ b) := if_neg hv
  rw [this]
  exact verAt_app day b a fun x hx => h x (by simp [hx])
theorem verAt_no {day : Int} {l : List verT.den} (h : ∀ v ∈ l, ¬ v.1 <= day) : verAt day l.reverse = (noVer, 7) := by
 have := verAt_app day [] l.reverse fun v hv => h v (List.mem_reverse.1 hv)
 rw [List.append_nil] at this
 exact this
theorem verAt_yes {day : Int} {l : List verT.den} {k : Nat} {x : verT.den} (hk : l[k]? = some x) (hx : x.1 <= day) (h : ∀ j y, k < j -> l[j]? = some y -> ¬ y.1 <= day) : verAt day l.reverse = (x, 0) := by
 obtain ⟨hlt, rfl⟩ := List.getElem?_eq_some_iff.1 hk
 have hsplit : l = l.take k ++ l[k] :: l.drop (k + 1) := by
  rw [← List.drop_eq_getElem_cons hlt, List.take_append_drop]
 have hr : l.reverse = (l.drop (k + 1)).reverse ++ (l[k] :: (l.take k).reverse) := by
  conv => lhs; rw [hsplit]
  simp
 rw [hr, verAt_app]
 ·exact if_pos hx
 ·intro v hv
  obtain ⟨j, hj⟩ := List.getElem?_of_mem (List.mem_reverse.1 hv)
  rw [List.getElem?_drop] at hj
  exact h _ v (by omega) hj
def fewT (t : tarT.den) : Prop := t.1.length <= 1000000 /\ ∀ v ∈ t.1, verFew v
def cTarAt : Ct := ⟨[.d tarT, .d i64], [verT, i64], fun x => ((verAt x.2.1 x.1.1.reverse).1, (verAt x.2.1 x.1.1.reverse).2, ()), fun x => [fewT x.1]⟩
theorem noVer_rep (w : World) (F : Nat -> Prop) : RepV w F verT noVer (.agg zero9) := by
 have h0 : inR .i64 0 := ⟨by decide, by decide⟩
 refine ⟨rfl, ⟨fun _ => ⟨_, rfl⟩, fun _ => rfl⟩, ⟨rfl, h0⟩, ⟨⟨rfl, h0⟩, ⟨rfl, h0⟩, ⟨rfl, h0⟩, ⟨rfl, h0⟩, trivial⟩, ?_, ?_, ?_, ⟨rfl, h0⟩, trivial⟩
 all_goals exact ⟨none, 0, rfl, Nat.le_refl _, Nat.zero_le _, fun i x hx => by simp [noVer] at hx⟩
theorem rep_pair2 {w : World} {F : Nat -> Prop} {x : verT.den} {n : Int} {u : Value} (h : RepV w F verT x u) (hn : -9223372036854775808 <= n /\ n <= 9223372036854775807) : RepR w F [verT, i64] (x, n, ()) (.tuple #[u, .int .i64 n]) :=
 ⟨_, rfl, _, _, rfl, h, _, _, rfl, ⟨rfl, ⟨fun h => (by cases h), fun ⟨cs, h⟩ => (by cases h)⟩, rfl, hn⟩, rfl⟩
theorem tarAt_ok : SoundCt Tryz.prog 53 cTarAt := by
 refine ⟨enters (fn := Tryz.f53) (by kernel_rfl) rfl rfl, fun w F xs vs hbd hr hok => ?_⟩
 obtain ⟨⟨l, ut⟩, day, _⟩ := xs
 obtain ⟨va, vs', rfl, hva, vb, vs'', rfl, hvb, hn⟩ := hr
 cases hn
 have hva' : RepV w F tarT (l, ut) va := hva
 have hvb' : RepV w F i64 day vb := hvb
 have hb2 : vb = .int .i64 day := by
  have h : RepA Tryz.prog w F (fun _ _ => True) (encV i64 day) vb := encV_rep hvb'
  exact h.2.1
 subst hb2
 obtain ⟨cs, rfl⟩ := hva'.2.1.1 rfl
 have hs : cs.size = 1 := hva'.1
 obtain ⟨hsl, _⟩ : RepT w F (.sl verT) l (fun j u => cs[j]? = some u) /\ True := ⟨hva'.2.2.1, trivial⟩
 have hcs : cs = #[cs.getD 0 undef] := by
  apply Array.ext
  ·simp [hs]
  ·intro i h1 h2
   have : i = 0 := by omega
   subst this
   simp [Array.getD, hs]
 rw [hcs]
 have hsl' : RepT w F (.sl verT) l (fun _ u => u = cs.getD 0 undef) := by
  obtain ⟨A, c, h1, h2⟩ := hsl
  refine ⟨A, c, ?_, h2⟩
  simp [Array.getD, hs]
  rw [Array.getElem?_eq_getElem (by omega)] at h1
  exact (Option.some.inj h1).symm
 obtain ⟨A, cap, b, off, c, e1, hA, hc, hx⟩ := vers_cells hsl'
 rw [e1]
 obtain ⟨hfew1, hfew2⟩ : fewT (l, ut) := hok
 have key := at_in b off l.length cap day c (fun k => l.getD k verT.dflt) F w hfew1 A (fun h => ⟨(hA h).1, hbd b (hA h).2⟩) hbd hc (fun k W hk hW => by
  obtain ⟨_, h2⟩ := hx k l[k] (List.getElem?_eq_getElem hk)
  have e : l.getD k verT.dflt = l[k] := by rw [List.getD_eq_getElem?_getD, List.getElem?_eq_getElem hk]; rfl
  rw [e]
  exact own_calls hbd hW h2 (hfew2 _ (List.getElem_mem hk)))
 refine (callsIn_wide.1 key).mono ?_
 rintro e w' ⟨he, hbel⟩
 rcases he with ⟨rfl, hno⟩ | ⟨k, d, F', hk, hday, hafter, rfl, hrep, hF'⟩
 ·have hv : verAt day l.reverse = (noVer, 7) := verAt_no fun v hv => by
   obtain ⟨j, hj⟩ := List.getElem?_of_mem hv
   have := hno j (List.getElem?_eq_some_iff.1 hj).1
   dsimp only at this
   rw [(hx j v hj).1] at this
   exact this
  refine ⟨_, F, rfl, hbel, fun _ h => h, fun b hb => ⟨.inl hb, Nat.lt_of_lt_of_le (hbd b hb) hbel.size⟩, ?_⟩
  show RepR w' F [verT, i64] ((verAt day l.reverse).1, (verAt day l.reverse).2, ()) _
  rw [hv]
  exact rep_pair2 (noVer_rep _ _) (n := 7) (by decide)
 ·have hlk : l[k]? = some l[k] := List.getElem?_eq_getElem hk
  have hv : verAt day l.reverse = (l[k], 0) := verAt_yes hlk (by dsimp only at hday; rw [(hx k _ hlk).1] at hday; exact hday) fun j y hj hy => by
   have := hafter j hj (List.getElem?_eq_some_iff.1 hy).1
   dsimp only at this
   rw [(hx j y hy).1] at this
   exact this
  have e : l.getD k verT.dflt = l[k] := by rw [List.getD_eq_getElem?_getD, hlk]; rfl
  dsimp only at hrep
  rw [e] at hrep
  refine ⟨_, fun b => F b ∨ F' b, rfl, hbel, fun _ h => .inl h, fun b hb => ?_, ?_⟩
  ·rcases hb with h | h
   ·exact ⟨.inl h, Nat.lt_of_lt_of_le (hbd b h) hbel.size⟩
   ·exact hF' b h
  ·show RepR w' _ [verT, i64] ((verAt day l.reverse).1, (verAt day l.reverse).2, ()) _
   rw [hv]
   exact rep_pair2 (hrep.mono (fun _ h => .inr h) (fun _ _ => rfl)) (n := 0) (by decide)
attribute [local go_sem] Oper.semAt_some
theorem all1_run (Bn Ba Bo : Nat) (k : Int) (A : Option Addr) (len cap : Nat) (w : World) (hn : Boxed w Bn 3 (.int .i64 k)) (ha : Boxed w Ba 176 (.slice A len cap)) (ho : Boxed w Bo 4 (.bool false)) :
  CallsD Tryz.prog 152 #[.pointer (some ⟨Bn, 0, none⟩), .pointer (some ⟨Ba, 0, none⟩), .pointer (some ⟨Bo, 0, none⟩)] .returning w fun e u' w' =>
   u' = .returning /\ (∃ v, e = .returned v) /\ w' = w.setCell ⟨Bo, 0, none⟩ (.bool (decide (k = len))) := by
 have c1 := hn.cell
 have c2 := ha.cell
 have c3 := ho.cell
 have f3 := ho.frozen
 go_enter_d Tryz.func152, Tryz.ntmps152
 go_wp2
 go_end0
 exact ⟨⟨_, rfl⟩, by rw [Bool.beq_eq_decide_eq]⟩
structure AllI (w : World) (b off cap : Nat) (bs : Nat -> Bool) (k : Nat) (W : World) : Prop where
 x0 : Boxed W w.heap.size 176 (.slice (some ⟨b, off, none⟩) 4 cap)
 x1 : Boxed W (w.heap.size + 1) 4 (.bool false)
 x2 : Boxed W (w.heap.size + 2) 3 (.int .i64 k)
 bel : Below w.heap.size w W
 sz : w.heap.size + 3 <= W.heap.size
 yes : ∀ j, j < k -> bs j = true
structure FourFn (w : World) (b off : Nat) (g : Nat -> Nat) (caps : Nat -> Array Value) (bs : Nat -> Bool) : Prop where
 blk : b < w.heap.size
 cell : ∀ k, k < 4 -> w.cell? ⟨b, off + k, none⟩ = some (.func (.func (g k)) #[] (caps k))
 enter : ∀ k, k < 4 -> ∀ args w, (callFunc (g k) args).run Tryz.prog w = .ok (.enter (g k) args) w
 call : ∀ k, k < 4 -> ∀ W, Below w.heap.size w W -> Calls Tryz.prog (g k) (caps k) W fun e W' => e = .returned (.bool (bs k)) /\ Below W.heap.size W W'
theorem all_end {w W : World} {b off cap : Nat} {bs : Nat -> Bool} {k : Nat} {r : Bool} {a0 a4 a5 a7 a8 a9 a10 a11 a12 a13 a14 a15 a16 a17 a18 : Value} (hi : AllI w b off cap bs k W) (hr : decide ((k : Int) = (4 : Nat)) = r) :
    bodyPostD Tryz.prog Tryz.f118 (fun e w' => e = .returned (.bool r) /\ Below w.heap.size w w') .ret
      { tmps := #[a0, .pointer (some ⟨w.heap.size, 0, none⟩), .pointer (some ⟨w.heap.size + 1, 0, none⟩), .pointer (some ⟨w.heap.size + 1 + 1, 0, none⟩), a4, a5, .func (.func 152) #[] #[.pointer (some ⟨w.heap.size + 1 + 1, 0, none⟩), .pointer (some ⟨w.heap.size, 0, none⟩), .pointer (some ⟨w.heap.size + 1, 0, none⟩)], a7, a8, a9, a10, a11, a12, a13, a14, a15, a16, a17, a18],
        defers := [{ target := .fn (.func 152) #[.pointer (some ⟨w.heap.size + 1 + 1, 0, none⟩), .pointer (some ⟨w.heap.size, 0, none⟩), .pointer (some ⟨w.heap.size + 1, 0, none⟩)], args := #[] }] } W := by
  refine leaves_cons (f := 152) (args := #[.pointer (some ⟨w.heap.size + 2, 0, none⟩), .pointer (some ⟨w.heap.size, 0, none⟩), .pointer (some ⟨w.heap.size + 1, 0, none⟩)]) (by simp) (by simp [go_sem]) ?_
  refine (all1_run (w.heap.size + 2) w.heap.size (w.heap.size + 1) k _ 4 cap W hi.x2 hi.x0 hi.x1).mono ?_
  rintro e u' w'' ⟨rfl, ⟨v, rfl⟩, rfl⟩
  have c := (hi.x1.set (.bool (decide ((k : Int) = (4 : Nat))))).cell
  have hb := hi.bel.setCell (p := ⟨w.heap.size + 1, 0, none⟩) (by show w.heap.size <= w.heap.size + 1; omega) (.bool (decide ((k : Int) = (4 : Nat))))
  rw [hr] at c hb ⊢
  refine ⟨.bool r, ?_, rfl, hb⟩
  simp [results, Tryz.results118, go_sem, c]
set_option maxRecDepth 100000 in
set_option maxHeartbeats 1000000 in
theorem all_run (b off cap : Nat) (g : Nat -> Nat) (caps : Nat -> Array Value) (bs : Nat -> Bool) (w : World) (h : FourFn w b off g caps bs) :
    Calls Tryz.prog 118 #[.slice (some ⟨b, off, none⟩) 4 cap] w fun e w' => e = .returned (.bool (bs 0 && (bs 1 && (bs 2 && bs 3)))) /\ Below w.heap.size w w' := by
  have hmf : ∀ (fn : Fn) (first cap : Array Value) (w : World), (Instr.makeFunc fn first cap).run Tryz.prog w = .ok (.func fn first cap) w := fun _ _ _ _ => rfl
  go_enter_defers Tryz.func118, Tryz.ntmps118
  go_wp2
  have z0 := (Below.heap_alloc ((w.alloc (.cells #[.slice (some ⟨b, off, none⟩) 4 cap] 176)).alloc (.cells #[.bool false] 4)) (.cells #[.int .i64 0] 3) w.heap.size (by simp only [World.size_alloc]; omega)).trans ((Below.heap_alloc _ _ _ (by simp only [World.size_alloc]; omega)).trans (World.alloc_heap_new w (.cells #[.slice (some ⟨b, off, none⟩) 4 cap] 176)))
  have z1' := World.alloc_heap_new (w.alloc (.cells #[.slice (some ⟨b, off, none⟩) 4 cap] 176)) (.cells #[.bool false] 4)
  rw [World.size_alloc] at z1'
  have z1 := (Below.heap_alloc ((w.alloc (.cells #[.slice (some ⟨b, off, none⟩) 4 cap] 176)).alloc (.cells #[.bool false] 4)) (.cells #[.int .i64 0] 3) (w.heap.size + 1) (by simp only [World.size_alloc]; omega)).trans z1'
  have z2 : (((w.alloc (.cells #[.slice (some ⟨b, off, none⟩) 4 cap] 176)).alloc (.cells #[.bool false] 4)).alloc (.cells #[.int .i64 0] 3)).heap[w.heap.size + 2]? = some (.cells #[.int .i64 0] 3 (0, 0)) := by
    have := World.alloc_heap_new ((w.alloc (.cells #[.slice (some ⟨b, off, none⟩) 4 cap] 176)).alloc (.cells #[.bool false] 4)) (.cells #[.int .i64 0] 3)
    rwa [World.size_alloc, World.size_alloc] at this
  have hbel : Below w.heap.size w (((w.alloc (.cells #[.slice (some ⟨b, off, none⟩) 4 cap] 176)).alloc (.cells #[.bool false] 4)).alloc (.cells #[.int .i64 0] 3)) := (((Below.refl _ w).alloc (Nat.le_refl _) _).alloc (by simp) _).alloc (by simp; omega) _
  have hsz : (((w.alloc (.cells #[.slice (some ⟨b, off, none⟩) 4 cap] 176)).alloc (.cells #[.bool false] 4)).alloc (.cells #[.int .i64 0] 3)).heap.size = w.heap.size + 3 := by simp
  have hI0 : AllI w b off cap bs 0 (((w.alloc (.cells #[.slice (some ⟨b, off, none⟩) 4 cap] 176)).alloc (.cells #[.bool false] 4)).alloc (.cells #[.int .i64 0] 3)) := ⟨z0, z1, z2, hbel, by omega, fun j hj => by omega⟩
  go_loopw [9] (fun i wr => ∃ k : Nat, k <= 4 /\ i = .int .i64 k /\ AllI w b off cap bs k wr)
    (fun i _ => 4 - (intOf i).toNat)
  case atStart => exact ⟨0, by omega, rfl, hI0⟩
  case round =>
    obtain ⟨k, hk, rfl, hi⟩ := hrel
    by_cases hlt : k < 4
    · have hc : wr.cell? ⟨b, off + k, none⟩ = some (.func (.func (g k)) #[] (caps k)) := (hi.bel.cell (p := ⟨b, off + k, none⟩) h.blk).trans (h.cell k hlt)
      have he := h.enter k hlt
      have c2 := hi.x2.cell
      have f2 := hi.x2.frozen
      go_wp2
      refine (h.call k hlt wr hi.bel).mono ?_
      rintro e w1 ⟨rfl, hb1⟩
      have hs := hi.sz
      have y0 : Boxed w1 _ _ _ := (hb1.block _ (by omega)).trans hi.x0
      have y1 : Boxed w1 _ _ _ := (hb1.block (w.heap.size + 1) (by omega)).trans hi.x1
      have y2 : Boxed w1 _ _ _ := (hb1.block (w.heap.size + 2) (by omega)).trans hi.x2
      have hi1 : AllI w b off cap bs k w1 := ⟨y0, y1, y2, hi.bel.trans (hb1.mono hi.bel.size), Nat.le_trans hi.sz hb1.size, hi.yes⟩
      have d2 := y2.cell
      have e2 := y2.frozen
      clear hc he c2 f2
      cases hbk : bs k with
      | false =>
        go_wp2
        refine all_end hi1 ?_
        have h4 : ¬ ((k : Int) = (4 : Nat)) := by omega
        rw [decide_eq_false h4]
        have : k = 0 ∨ k = 1 ∨ k = 2 ∨ k = 3 := by omega
        rcases this with rfl | rfl | rfl | rfl <;> rw [hbk] <;> simp
      | true =>
        go_wp2
        go_roundw
        case rel => exact ⟨k + 1, by omega, by simp, y0.other (by omega) _, y1.other (by omega) _, y2.set _, hi1.bel.setCell (p := ⟨w.heap.size + 2, 0, none⟩) (by show w.heap.size <= w.heap.size + 2; omega) _, by simp; exact hi1.sz, fun j hj => by
          by_cases hjk : j = k
          · rw [hjk]; exact hbk
          · exact hi.yes j (by omega)⟩
        case measure => simp [intOf]; omega
    · obtain rfl : k = 4 := by omega
      go_wp2
      refine all_end hi ?_
      rw [hi.yes 0 (by omega), hi.yes 1 (by omega), hi.yes 2 (by omega), hi.yes 3 (by omega)]
      rfl
end Go.Proofs.YtplkgghjldndkaaGreat
namespace Go.Proofs.YtplkgghjldndkaaGreat
open Go Go.Ab Go.RowKit Go.Proofs Go.Shelf
attribute [local go_sem] Oper.semAt_some
noncomputable def CI23 : Cx := cx [(58, cRightS), (121, cManyS), (123, cRisk), (125, cCovers)] []
theorem CI23_ok : CxOK Tryz.prog CI23 := cx_ok mixed ⟨rightS_ok, manyS_ok, risk_ok, terms_Covers_ok, trivial⟩ trivial
def tq (k : Nat) (t : termsT.den) : Bool := match k with
 | 0 => (cRightS.f (t.1, ())).1
 | 1 => bif decide ((cManyS.f (t.1, ())).1 ≥ 1) then decide ((cManyS.f (t.1, ())).1 <= 1100) else false
 | 2 => (cRisk.f (t.2.1, ())).1
 | _ => (cCovers.f (t.2.2.1, ())).1
def cTq (k : Nat) : Ct := ⟨[.ptr termsT], [.bool], fun x => (tq k x.1, ()), fun _ => []⟩
theorem tq0_ok : SoundCt Tryz.prog 119 (cTq 0) :=
 convF (fn_sound CI23_ok (Λ := lam0) (fn := Tryz.f119) (fr := fun x => Fr.val (tq 0 x.1, ())) (ps := [.ptr termsT]) (rs := [.bool]) (termsT.dflt, ()) (by kernel_rfl) (fun c E _ => lam0_ok c 0) (fun x => by kernel_rfl)) _ _ (fun _ _ _ _ _ _ => ⟨trivial, rfl⟩)
theorem tq1_ok : SoundCt Tryz.prog 120 (cTq 1) :=
 convF (fn_sound CI23_ok (Λ := lam0) (fn := Tryz.f120) (fr := fun x => Fr.val (tq 1 x.1, ())) (ps := [.ptr termsT]) (rs := [.bool]) (termsT.dflt, ()) (by kernel_rfl) (fun c E _ => lam0_ok c 0) (fun x => by kernel_rfl)) _ _ (fun _ _ _ _ _ _ => ⟨trivial, rfl⟩)
theorem tq2_ok : SoundCt Tryz.prog 122 (cTq 2) :=
 convF (fn_sound CI23_ok (Λ := lam0) (fn := Tryz.f122) (fr := fun x => Fr.val (tq 2 x.1, ())) (ps := [.ptr termsT]) (rs := [.bool]) (termsT.dflt, ()) (by kernel_rfl) (fun c E _ => lam0_ok c 0) (fun x => by kernel_rfl)) _ _ (fun _ _ _ _ _ _ => ⟨trivial, rfl⟩)
theorem tq3_ok : SoundCt Tryz.prog 124 (cTq 3) :=
 convF (fn_sound CI23_ok (Λ := lam0) (fn := Tryz.f124) (fr := fun x => Fr.val (tq 3 x.1, ())) (ps := [.ptr termsT]) (rs := [.bool]) (termsT.dflt, ()) (by kernel_rfl) (fun c E _ => lam0_ok c 0) (fun x => by kernel_rfl)) _ _ (fun _ _ _ _ _ _ => ⟨trivial, rfl⟩)
def tqF : Nat -> Nat
 | 0 => 119
 | 1 => 120
 | 2 => 122
 | _ => 124
theorem tqF_ok : (k : Nat) -> k < 4 -> SoundCt Tryz.prog (tqF k) (cTq k)
 | 0, _ => tq0_ok
 | 1, _ => tq1_ok
 | 2, _ => tq2_ok
 | 3, _ => tq3_ok
 | n + 4, h => absurd h (by omega)
theorem tq_span {a b : Int} (hf : fullS (a, b, ()) = true) : rightS (a, b, ()) = true /\ decide (b - a ≥ 1) = true := by
 obtain ⟨h1, h2, h3⟩ := fullS_iff.1 hf
 refine ⟨?_, ?_⟩
 ·have h2' : a <= b := Int.le_of_lt h2
  simp only [rightS, Bool.and_eq_true, decide_eq_true_eq]
  exact ⟨h1, h2', h3⟩
 ·simp; omega
theorem terms_tq (t : termsT.den) : (tq 0 t && (tq 1 t && (tq 2 t && tq 3 t))) = termsB t := by
 obtain ⟨⟨a, b, _⟩, r, cs, _⟩ := t
 show (rightS (a, b, ()) && ((bif decide (manyS a b ≥ 1) then decide (manyS a b <= 1100) else false) && (riskB r.1 r.2.1 r.2.2.1 r.2.2.2.1 && coversL cs))) = (fullS (a, b, ()) && (decide (b - a <= 1100) && (riskB r.1 r.2.1 r.2.2.1 r.2.2.2.1 && coversL cs)))
 by_cases hf : fullS (a, b, ()) = true
 ·have hm : manyS a b = b - a := if_pos hf
  obtain ⟨hr, hge⟩ := tq_span hf
  rw [hm, hr, hf, hge]
  rfl
 ·have hm : manyS a b = 0 := if_neg hf
  have hf' : fullS (a, b, ()) = false := by simpa using hf
  rw [hm, hf']
  simp
set_option maxRecDepth 100000 in
set_option maxHeartbeats 1000000 in
theorem terms_run (c0 c1 c2 c3 c4 c5 c6 : Value) (R : Ending -> World -> Prop) (w : World)
  (hall : ∀ cap, Calls Tryz.prog 118 #[.slice (some ⟨w.heap.size + 1, 0, none⟩) 4 cap] ((w.alloc (.cells #[c0, c1, c2, c3, c4, c5, c6] 28)).alloc (.cells #[.func (.func (tqF 0)) #[] #[.pointer (some ⟨w.heap.size, 0, none⟩)], .func (.func (tqF 1)) #[] #[.pointer (some ⟨w.heap.size, 0, none⟩)], .func (.func (tqF 2)) #[] #[.pointer (some ⟨w.heap.size, 0, none⟩)], .func (.func (tqF 3)) #[] #[.pointer (some ⟨w.heap.size, 0, none⟩)]] 38)) R)
  (hR : ∀ e w', R e w' -> ∃ r, e = .returned (.bool r)) :
  Calls Tryz.prog 87 #[.agg #[c0, c1, c2, c3, c4, c5, c6]] w R := by
 have hmf : ∀ (fn : Fn) (first cap : Array Value) (w : World), (Instr.makeFunc fn first cap).run Tryz.prog w = .ok (.func fn first cap) w := fun _ _ _ _ => rfl
 go_enter Tryz.func87, Tryz.ntmps87
 go_wp2_with (go_at_call 118; refine (hall 4).mono ?_; rintro e w' hRe; obtain ⟨r, rfl⟩ := hR e w' hRe)
 exact hRe
theorem tRight_ok : SoundCt Tryz.prog 87 cTerms := by
 refine ⟨enters (fn := Tryz.f87) (by kernel_rfl) rfl rfl, fun w F xs vs hbd hr _ => ?_⟩
 obtain ⟨t, _⟩ := xs
 obtain ⟨va, vs', rfl, hva, hn⟩ := hr
 cases hn
 have hva' : RepV w F termsT t va := hva
 obtain ⟨cs, rfl⟩ := hva'.2.1.1 rfl
 have hs : cs.size = 7 := hva'.1
 obtain ⟨c0, c1, c2, c3, c4, c5, c6, rfl⟩ : ∃ c0 c1 c2 c3 c4 c5 c6, cs = #[c0, c1, c2, c3, c4, c5, c6] := by
  refine ⟨cs[0], cs[1], cs[2], cs[3], cs[4], cs[5], cs[6], ?_⟩
  apply Array.ext
  ·simp [hs]
  ·intro i h1 h2
   have : i < 7 := by omega
   match i, this with
   | 0, _ | 1, _ | 2, _ | 3, _ | 4, _ | 5, _ | 6, _ => rfl
 have hsz : ((w.alloc (.cells #[c0, c1, c2, c3, c4, c5, c6] 28)).alloc (.cells #[.func (.func (tqF 0)) #[] #[.pointer (some ⟨w.heap.size, 0, none⟩)], .func (.func (tqF 1)) #[] #[.pointer (some ⟨w.heap.size, 0, none⟩)], .func (.func (tqF 2)) #[] #[.pointer (some ⟨w.heap.size, 0, none⟩)], .func (.func (tqF 3)) #[] #[.pointer (some ⟨w.heap.size, 0, none⟩)]] 38)).heap.size = w.heap.size + 2 := by simp
 have z0 := (Below.heap_alloc (w.alloc (.cells #[c0, c1, c2, c3, c4, c5, c6] 28)) (.cells #[.func (.func (tqF 0)) #[] #[.pointer (some ⟨w.heap.size, 0, none⟩)], .func (.func (tqF 1)) #[] #[.pointer (some ⟨w.heap.size, 0, none⟩)], .func (.func (tqF 2)) #[] #[.pointer (some ⟨w.heap.size, 0, none⟩)], .func (.func (tqF 3)) #[] #[.pointer (some ⟨w.heap.size, 0, none⟩)]] 38) w.heap.size (by simp only [World.size_alloc]; omega)).trans (World.alloc_heap_new w (.cells #[c0, c1, c2, c3, c4, c5, c6] 28))
 have z1 := World.alloc_heap_new (w.alloc (.cells #[c0, c1, c2, c3, c4, c5, c6] 28)) (.cells #[.func (.func (tqF 0)) #[] #[.pointer (some ⟨w.heap.size, 0, none⟩)], .func (.func (tqF 1)) #[] #[.pointer (some ⟨w.heap.size, 0, none⟩)], .func (.func (tqF 2)) #[] #[.pointer (some ⟨w.heap.size, 0, none⟩)], .func (.func (tqF 3)) #[] #[.pointer (some ⟨w.heap.size, 0, none⟩)]] 38)
 have hbel : Below w.heap.size w ((w.alloc (.cells #[c0, c1, c2, c3, c4, c5, c6] 28)).alloc (.cells #[.func (.func (tqF 0)) #[] #[.pointer (some ⟨w.heap.size, 0, none⟩)], .func (.func (tqF 1)) #[] #[.pointer (some ⟨w.heap.size, 0, none⟩)], .func (.func (tqF 2)) #[] #[.pointer (some ⟨w.heap.size, 0, none⟩)], .func (.func (tqF 3)) #[] #[.pointer (some ⟨w.heap.size, 0, none⟩)]] 38)) := ((Below.refl _ w).alloc (Nat.le_refl _) _).alloc (by simp) _
 refine (terms_run c0 c1 c2 c3 c4 c5 c6 (fun e w' => e = .returned (.bool (termsB t)) /\ Below w.heap.size w w') w (fun cap => ?_) (fun e w' h => ⟨_, h.1⟩)).mono ?_
 ·rw [World.size_alloc] at z1
  generalize ((w.alloc (.cells #[c0, c1, c2, c3, c4, c5, c6] 28)).alloc (.cells #[.func (.func (tqF 0)) #[] #[.pointer (some ⟨w.heap.size, 0, none⟩)], .func (.func (tqF 1)) #[] #[.pointer (some ⟨w.heap.size, 0, none⟩)], .func (.func (tqF 2)) #[] #[.pointer (some ⟨w.heap.size, 0, none⟩)], .func (.func (tqF 3)) #[] #[.pointer (some ⟨w.heap.size, 0, none⟩)]] 38)) = W0 at *
  have hf : FourFn W0 (w.heap.size + 1) 0 tqF (fun _ => #[.pointer (some ⟨w.heap.size, 0, none⟩)]) (fun k => tq k t) := by
   refine ⟨by omega, fun k hk => ?_, fun k hk => (tqF_ok k hk).1, fun k hk W hW => ?_⟩
   ·rw [Nat.zero_add, cell_of_block z1 k]
    match k, hk with
    | 0, _ | 1, _ | 2, _ | 3, _ => rfl
   ·have hz : W.heap[w.heap.size]? = _ := (hW.block _ (by omega)).trans z0
    have hrep : RepT W (fun b => F b ∨ b = w.heap.size) termsT t (fun j u => W.cell? ((⟨w.heap.size, 0, none⟩ : Addr).add j) = some u) := by
     refine hva'.2.2.mono (fun _ h => .inl h) (fun b hb => (hW.block b (by have := hbd b hb; omega)).trans (hbel.block b (hbd b hb))) fun j u _ hu => ?_
     have e : (⟨w.heap.size, 0, none⟩ : Addr).add j = ⟨w.heap.size, j, none⟩ := by unfold Addr.add; split <;> simp_all
     rw [e, cell_of_block hz j]
     exact hu
    refine ((tqF_ok k hk).2 W (fun b => F b ∨ b = w.heap.size) (t, ()) [.pointer (some ⟨w.heap.size, 0, none⟩)] (fun b hb => ?_) ⟨_, [], rfl, ⟨⟨w.heap.size, 0, none⟩, rfl, .inr rfl, hrep⟩, rfl⟩ trivial).mono ?_
    ·have := hW.size
     rcases hb with h | h
     ·have := hbd b h; omega
     ·omega
    ·rintro e W' ⟨v, F', rfl, hb', _, _, hv⟩
     have hv' : RepA Tryz.prog W' F' (fun _ _ => True) (encV .bool (tq k t)) v := encV_rep hv
     exact ⟨by rw [show v = .bool (tq k t) from hv'.2], hb'⟩
  refine (all_run (w.heap.size + 1) 0 cap tqF _ (fun k => tq k t) W0 hf).mono ?_
  rintro e w' ⟨rfl, hb⟩
  rw [terms_tq]
  exact ⟨rfl, hbel.trans (hb.mono (by omega))⟩
 ·rintro e w' ⟨rfl, hb⟩
  exact ⟨_, F, rfl, hb, fun _ h => h, fun b h => ⟨.inl h, Nat.lt_of_lt_of_le (hbd b h) hb.size⟩, rfl, ⟨fun h => (by cases h), fun ⟨cs, h⟩ => (by cases h)⟩, rfl⟩
end Go.Proofs.YtplkgghjldndkaaGreat
namespace Go.Proofs.YtplkgghjldndkaaGreat
open Go Go.Ab Go.RowKit Go.Proofs
attribute [local go_sem] Oper.semAt_some
abbrev chkL : List (Int × Nat) := [(1, 140), (2, 141), (3, 142), (4, 143)]
def FnMap (w : World) (r : Nat) (es : List (Int × Nat)) : Prop := ∃ arr ck, w.heap[r]? = some (.map arr ck) /\ arr.toList.map (fun e => (e.key, e.val)) = es.map (fun x => (Value.int .i64 x.1, Value.func (.func x.2) #[] #[]))
theorem insert_new {P : Program} {w : World} {t kt et : TypeId} {r f : Nat} {es : List (Int × Nat)} {n : Int} (ht : P.underlying t = some (.map kt et)) (hk : P.underlying kt = some (.int .i64))
  (h : FnMap w r es) (hn : es.find? (fun x => x.1 == n) = none) :
  ∃ w', (Instr.mapUpdate t (.map (some r)) (.int .i64 n) (.func (.func f) #[] #[])).run P w = .ok () w' /\ FnMap w' r (es ++ [(n, f)]) /\ w'.heap.size = w.heap.size /\ (∀ b, b ≠ r -> w'.heap[b]? = w.heap[b]?) /\ w'.os = w.os /\ w'.tape = w.tape /\ w'.output = w.output := by
 obtain ⟨arr, ck, hr, he⟩ := h
 obtain ⟨j, hj⟩ := findNow_run (n := n) arr.toList es 0 he
 rw [hn] at hj
 have hck : (Instr.checkKey false 10000 kt (.int .i64 n)).run P w = .ok () w := checkKey_int hk false 9999 n
 have hob : (getObj r).run P w = .ok (.map arr ck) w := by simp [getObj, Sem.run, hr]
 have hlt : r < w.heap.size := (Array.getElem?_eq_some_iff.1 hr).1
 refine ⟨{ w with heap := w.heap.setIfInBounds r (.map (arr.push { key := .int .i64 n, val := .func (.func f) #[] #[], born := ck }) (ck + 1)) }, ?_, ?_, ?_, ?_, rfl, rfl, rfl⟩
 ·simp [Instr.mapUpdate, run_underlying ht, hob, hck, Instr.findKey, run_underlying hk, hj, Go.MapKept.run_setObj_map _ hr]
 ·refine ⟨_, _, by simp [hlt]; exact ⟨rfl, rfl⟩, ?_⟩
  simp [he]
 ·simp
 ·intro b hb
  simp [Array.getElem?_setIfInBounds, Ne.symm hb]
theorem under_ck : Tryz.prog.underlying 142 = some (.map 3 109) := by kernel_rfl
theorem under_i : Tryz.prog.underlying 3 = some (.int .i64) := by kernel_rfl
set_option maxRecDepth 100000 in
set_option maxHeartbeats 1000000 in
theorem checks_run (w : World) : Calls Tryz.prog 104 #[] w fun e w' => e = .returned (.map (some w.heap.size)) /\ FnMap w' w.heap.size chkL /\ Below w.heap.size w w' /\ w'.heap.size = w.heap.size + 1 := by
 have hmm := @run_makeMap Tryz.prog
 have s0 : FnMap (w.alloc (.map #[] 0)) w.heap.size [] := ⟨#[], 0, by show (w.heap.push _)[w.heap.size]? = _; exact Array.getElem?_push_size, rfl⟩
 go_enter Tryz.func104, Tryz.ntmps104
 obtain ⟨w1, r1, m1, z1, o1, a1, b1, c1⟩ := insert_new (n := 1) (f := 140) under_ck under_i s0 rfl
 obtain ⟨w2, r2, m2, z2, o2, a2, b2, c2⟩ := insert_new (n := 2) (f := 141) under_ck under_i m1 rfl
 obtain ⟨w3, r3, m3, z3, o3, a3, b3, c3⟩ := insert_new (n := 3) (f := 142) under_ck under_i m2 rfl
 obtain ⟨w4, r4, m4, z4, o4, a4, b4, c4⟩ := insert_new (n := 4) (f := 143) under_ck under_i m3 rfl
 go_wp2
 go_ret
 refine ⟨rfl, m4, ⟨?_, ?_, ?_, ?_, ?_⟩, ?_⟩
 ·rw [a4, a3, a2, a1]; rfl
 ·rw [b4, b3, b2, b1]; rfl
 ·rw [c4, c3, c2, c1]; rfl
 ·rw [z4, z3, z2, z1, World.alloc, Array.size_push]; omega
 ·intro b hb
  rw [o4 b (by omega), o3 b (by omega), o2 b (by omega), o1 b (by omega), World.alloc]
  rw [Array.getElem?_push_lt hb, Array.getElem?_eq_getElem hb]
 ·rw [z4, z3, z2, z1, World.alloc, Array.size_push]
def cChecks : Ct := ⟨[], [.fm chkL], fun _ => ((), ()), fun _ => []⟩
theorem checks_ok : SoundCt Tryz.prog 104 cChecks := by
 refine ⟨enters (fn := Tryz.f104) (by kernel_rfl) rfl rfl, fun w F xs vs hb hr _ => ?_⟩
 have hv : vs = [] := hr
 subst hv
 refine (checks_run w).mono ?_
 rintro e w' ⟨rfl, ⟨arr, ck, hr, he⟩, hbel, hsz⟩
 refine ⟨_, fun b => F b ∨ b = w.heap.size, rfl, hbel, fun b h => .inl h, fun b h => ⟨h.elim .inl (fun h => .inr (by omega)), h.elim (fun h => by have := hb b h; omega) (fun h => by omega)⟩, ?_⟩
 refine ⟨rfl, ⟨fun h => (by cases h), fun ⟨cs, h⟩ => (by cases h)⟩, w.heap.size, arr, ck, rfl, .inr rfl, hr, he⟩
end Go.Proofs.YtplkgghjldndkaaGreat
namespace Go.Proofs.YtplkgghjldndkaaGreat
open Go Go.Ab Go.RowKit Go.Proofs
noncomputable def CI13 : Cx := cx [(104, cChecks), (105, cDay), (140, cCk1), (141, cCk2), (142, cCk3), (143, cCk4)] []
theorem CI13_ok : CxOK Tryz.prog CI13 := cx_ok mixed ⟨checks_ok, day_ok, ck1_ok, ck2_ok, ck3_ok, ck4_ok, trivial⟩ trivial
def chG (c : changeT.den) : Bool := bif bif (chkL.find? (fun x => x.1 == c.2.2.1)).isSome then (cDay.f (c.1, ())).1 else false then (cDay.f (c.2.1, ())).1 else false
def fr_chR (x : denP [.d changeT]) : Fr (denL [.bool]) :=
 Fr.need (chG x.1 = true -> x.1.2.2.1 = 1 -> True)
  (Fr.need (chG x.1 = true -> x.1.2.2.1 ≠ 1 -> (x.1.2.2.1 = 2 -> True) /\ (x.1.2.2.1 ≠ 2 -> (x.1.2.2.1 = 3 -> True) /\ (x.1.2.2.1 ≠ 3 -> x.1.2.2.1 = 4)))
   (Fr.val (bif chG x.1 then (bif x.1.2.2.1 == 1 then cCk1.f (x.1, ()) else bif x.1.2.2.1 == 2 then cCk2.f (x.1, ()) else bif x.1.2.2.1 == 3 then cCk3.f (x.1, ()) else cCk4.f (x.1, ())).1 else false, ())))
theorem chk_some (k : Int) : (chkL.find? (fun x => x.1 == k)).isSome = decide (k = 1 ∨ k = 2 ∨ k = 3 ∨ k = 4) := by
 rw [Bool.eq_iff_iff]
 simp only [List.find?_isSome, chkL, List.mem_cons, List.not_mem_nil, or_false, beq_iff_eq, decide_eq_true_eq]
 constructor
 ·rintro ⟨x, rfl | rfl | rfl | rfl, h⟩
  ·exact .inl h.symm
  ·exact .inr (.inl h.symm)
  ·exact .inr (.inr (.inl h.symm))
  ·exact .inr (.inr (.inr h.symm))
 ·rintro (h | h | h | h)
  ·exact ⟨(1, 140), .inl rfl, h.symm⟩
  ·exact ⟨(2, 141), .inr (.inl rfl), h.symm⟩
  ·exact ⟨(3, 142), .inr (.inr (.inl rfl)), h.symm⟩
  ·exact ⟨(4, 143), .inr (.inr (.inr rfl)), h.symm⟩
theorem chR_eq (c : changeT.den) : (fr_chR (c, ())).ok /\ (fr_chR (c, ())).get = (changeB c, ()) := by
 have hk := chk_some c.2.2.1
 have hg : chG c = true -> c.2.2.1 = 1 ∨ c.2.2.1 = 2 ∨ c.2.2.1 = 3 ∨ c.2.2.1 = 4 := by
  intro h
  unfold chG at h
  rw [hk] at h
  by_cases hd : c.2.2.1 = 1 ∨ c.2.2.1 = 2 ∨ c.2.2.1 = 3 ∨ c.2.2.1 = 4
  ·exact hd
  ·rw [decide_eq_false hd] at h
   cases h
 refine ⟨⟨fun _ _ => trivial, fun h hn => ⟨fun _ => trivial, fun h2 => ⟨fun _ => trivial, fun h3 => ?_⟩⟩, trivial⟩, ?_⟩
 ·rcases hg h with h1 | h1 | h1 | h1
  ·exact absurd h1 hn
  ·exact absurd h1 h2
  ·exact absurd h1 h3
  ·exact h1
 ·show (bif chG c then (bif c.2.2.1 == 1 then (ck1 c, ()) else bif c.2.2.1 == 2 then (ck2 c, ()) else bif c.2.2.1 == 3 then (ck3 c, ()) else (ck4 c, ())).1 else false, ()) = (changeB c, ())
  unfold chG changeB kindB
  rw [hk]
  show ((bif bif bif _ then dayB c.1 else false then dayB c.2.1 else false then _ else false), ()) = _
  by_cases h1 : c.2.2.1 = 1
  ·simp only [h1, true_or, decide_true, cond_true, beq_self_eq_true, if_true]
   cases dayB c.1 <;> cases dayB c.2.1 <;> rfl
  ·by_cases h2 : c.2.2.1 = 2
   ·simp [h2]
    cases dayB c.1 <;> cases dayB c.2.1 <;> rfl
   ·by_cases h3 : c.2.2.1 = 3
    ·simp [h3]
     cases dayB c.1 <;> cases dayB c.2.1 <;> rfl
    ·by_cases h4 : c.2.2.1 = 4
     ·simp [h4]
      cases dayB c.1 <;> cases dayB c.2.1 <;> rfl
     ·simp [h1, h2, h3, h4]
theorem chRight_ok : SoundCt Tryz.prog 71 cChange :=
 conv (fn_sound CI13_ok (Λ := lam0) (fn := Tryz.f71) (fr := fr_chR) (ps := [.d changeT]) (rs := [.bool]) ((changeT.dflt, ())) (by kernel_rfl) (fun c E _ => lam0_ok c 0) (fun x => by kernel_rfl)) _ _
  (fun _ _ x _ _ _ => by
   obtain ⟨c, _⟩ := x
   obtain ⟨h1, h2⟩ := chR_eq c
   exact ⟨h1, h2⟩)
end Go.Proofs.YtplkgghjldndkaaGreat
