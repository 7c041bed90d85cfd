/-
  Parts of the proof, one behind the other: L6, L7, L8, L9, L10, I34, I37, I38, I39, I40, I41, L11, L12.
-/
import Derived.Test.YtplkgghjldndkaaGreatMg
namespace Go.Proofs.YtplkgghjldndkaaGreat
open Go Go.Ab Go.RowKit Go.Proofs
noncomputable def CKp : Cx := cx [(26, cOf), (45, cTurn), (46, cConcat), (27, cBetwG), (47, cBp)] []
theorem CKp_ok : CxOK Tryz.prog CKp := cx_ok mixed ⟨of_ok, turn_ok, concat_ok, betwG_ok, bp_ok, trivial⟩ trivial
def pcsK (h : histT.den) (a : Int) : List (List changeT.den) :=
 [List.take (a - 0).toNat (List.drop (0 : Int).toNat (chL h)), List.take (((chL h).length : Int) - IntKind.i64.wrap (a + 1)).toNat (List.drop (IntKind.i64.wrap (a + 1)).toNat (chL h))]
def setCh (h : histT.den) (l : List changeT.den) : histT.den := (h.1, h.2.1, h.2.2.1, l, ())
def frKp2 (h x : histT.den) (t : tarT.den) (day : Int) : Fr (denL [i64, i64]) :=
 Fr.need (fewH x) (Fr.need (fewT t)
  (Fr.br ((cOf.f (x, t, ())).2.1 != 0) (Fr.val (0, (cOf.f (x, t, ())).2.1, ()))
   (Fr.br ((cBetwG.f ((cOf.f (x, t, ())).1, (day, h.2.2.1.1.2.1, ()), ())).2.1 != 0) (Fr.val (0, (cBetwG.f ((cOf.f (x, t, ())).1, (day, h.2.2.1.1.2.1, ()), ())).2.1, ()))
    (Fr.val ((cBp.f ((cBetwG.f ((cOf.f (x, t, ())).1, (day, h.2.2.1.1.2.1, ()), ())).1, 1000, ())).1, (cBp.f ((cBetwG.f ((cOf.f (x, t, ())).1, (day, h.2.2.1.1.2.1, ()), ())).1, 1000, ())).2.1, ())))))
def frKept (x : denP [.d histT, .d tarT]) : Fr (denL [i64, i64]) :=
 let h : histT.den := x.1; let t : tarT.den := x.2.1
 let a : Int := (cTurn.f (h, ())).1; let is : Bool := (cTurn.f (h, ())).2.1
 Fr.need (fewH h) (Fr.need (fewT t) (Fr.br ((cOf.f (h, t, ())).2.1 != 0) (Fr.val (0, (cOf.f (h, t, ())).2.1, ()))
  (Fr.need (((chL h).length : Int) <= 1000000)
   (Fr.need ((!is) = false -> 0 <= a /\ a < ((chL h).length : Int))
    (Fr.need ((bif !is then true else ((chL h).getD a.toNat changeT.dflt).2.2.1 != 3) = false -> 0 <= a /\ a < ((chL h).length : Int))
     (Fr.br (bif bif !is then true else ((chL h).getD a.toNat changeT.dflt).2.2.1 != 3 then true else ((chL h).getD a.toNat changeT.dflt).2.2.2.2.2.1 != 1) (Fr.val (0, 0, ()))
      (Fr.need (0 <= a /\ a < ((chL h).length : Int))
       (Fr.need (0 <= (none : Option Int).getD 0 /\ (none : Option Int).getD 0 <= a /\ a <= ((chL h).length : Int))
        (Fr.need (0 <= IntKind.i64.wrap (a + 1) /\ IntKind.i64.wrap (a + 1) <= ((chL h).length : Int) /\ ((chL h).length : Int) <= ((chL h).length : Int))
         (Fr.need ((pcsK h a).flatten.length <= 1000000)
          (frKp2 h (setCh h (cConcat.f (pcsK h a, ())).1) t ((chL h).getD a.toNat changeT.dflt).2.1)))))))))))
theorem kept_run : SoundCt Tryz.prog 18 ⟨[.d histT, .d tarT], [i64, i64], fun xs => (frKept xs).get, fun xs => [(frKept xs).ok]⟩ :=
 fn_sound CKp_ok (Λ := lam0) (fn := Tryz.f18) (fr := frKept) (ps := [.d histT, .d tarT]) (rs := [i64, i64]) (histT.dflt, tarT.dflt, ()) (by kernel_rfl) (fun c E _ => lam0_ok c 0) (fun x => by kernel_rfl)
def without (h : histT.den) (a : Nat) : histT.den := setCh h ((chL h).take a ++ (chL h).drop (a + 1))
def keptA (h : histT.den) (t : tarT.den) (a : Int) : Int × Int :=
 if (chAt h a).2.2.1 = 3 /\ (chAt h a).2.2.2.2.2.1 = 1 then
  (if (ofF (without h a.toNat) t).2 = 0 then
   (if (BetwG (ofF (without h a.toNat) t).1 ((chAt h a).2.1, h.2.2.1.1.2.1, ())).2 = 0 then bpF (BetwG (ofF (without h a.toNat) t).1 ((chAt h a).2.1, h.2.2.1.1.2.1, ())).1 1000
    else (0, (BetwG (ofF (without h a.toNat) t).1 ((chAt h a).2.1, h.2.2.1.1.2.1, ())).2))
   else (0, (ofF (without h a.toNat) t).2))
 else (0, 0)
def keptF (h : histT.den) (t : tarT.den) : Int × Int :=
 if (ofF h t).2 = 0 then (match turnO h with | none => (0, 0) | some a => keptA h t a) else (0, (ofF h t).2)
def cKeptP : Ct := ⟨[.d histT, .d tarT], [i64, i64], fun x => ((keptF x.1 x.2.1).1, (keptF x.1 x.2.1).2, ()), fun x => [fewH x.1, fewT x.2.1]⟩
theorem turnG_mem (h : histT.den) (l : List Int) : (k : Nat) -> k <= l.length -> ∀ v, turnG h l k = some v -> v ∈ l /\ isT (chAt h v) = true
 | 0, _, _, hv => by cases hv
 | k + 1, hk, v, hv => by
  unfold turnG at hv
  split at hv
  ·rename_i ht
   cases hv
   refine ⟨?_, ht⟩
   have : l.getD k 0 = l[k] := by rw [List.getD_eq_getElem?_getD, List.getElem?_eq_getElem (by omega)]; rfl
   rw [this]
   exact List.getElem_mem _
  ·exact turnG_mem h l k (by omega) v hv
theorem turnO_mem {h : histT.den} {a : Int} (ha : turnO h = some a) : (0 <= a /\ a < ((chL h).length : Int)) /\ isT (chAt h a) = true := by
 obtain ⟨h1, h2⟩ := turnG_mem h (orderL h) _ (Nat.le_refl _) a ha
 exact ⟨orderL_mem h1, h2⟩
theorem pcs_flat {h : histT.den} {a : Nat} (ha : a < (chL h).length) (hf : (chL h).length <= 1000000) : IntKind.i64.wrap ((a : Int) + 1) = ((a + 1 : Nat) : Int) /\ (pcsK h a).flatten = (chL h).take a ++ (chL h).drop (a + 1) := by
 have w : IntKind.i64.wrap ((a : Int) + 1) = ((a + 1 : Nat) : Int) := by rw [i64w (by omega)]; omega
 refine ⟨w, ?_⟩
 unfold pcsK
 rw [w, Int.sub_zero, Int.toNat_natCast, Int.toNat_natCast, show (((chL h).length : Int) - ((a + 1 : Nat) : Int)).toNat = (chL h).length - (a + 1) by omega]
 show List.flatten [List.take a (chL h), List.take ((chL h).length - (a + 1)) (List.drop (a + 1) (chL h))] = _
 have e : List.take ((chL h).length - (a + 1)) (List.drop (a + 1) (chL h)) = List.drop (a + 1) (chL h) := List.take_of_length_le (by rw [List.length_drop]; exact Nat.le_refl _)
 rw [e]
 simp
theorem without_few {h : histT.den} (hf : fewH h) (a : Nat) : fewH (without h a) := by
 have hsub : List.Sublist ((chL h).take a ++ (chL h).drop (a + 1)) (chL h) := by
  conv => rhs; rw [← List.take_append_drop a (chL h)]
  refine List.Sublist.append (List.Sublist.refl _) ?_
  rw [← List.drop_drop]
  exact List.drop_sublist 1 _
 refine ⟨Nat.le_trans (List.Sublist.length_le hsub) hf.1, hf.2.1, fun c hc => hf.2.2 c (hsub.subset hc)⟩
theorem bif3k {b : Bool} {x y : Int} : (bif bif !b then true else x != 3 then true else y != 1) = false ↔ b = true /\ x = 3 /\ y = 1 := by
 cases b with
 | false => simp
 | true =>
  by_cases h1 : x = 3
  ·by_cases h2 : y = 1
   ·simp [h1, h2]
   ·simp [h1, h2]
  ·simp [h1]
theorem kp2_eq {h x : histT.den} {t : tarT.den} {day : Int} (hx : fewH x) (ht : fewT t) : (frKp2 h x t day).ok /\ (frKp2 h x t day).get =
  (let r : Int × Int := if (ofF x t).2 = 0 then (if (BetwG (ofF x t).1 (day, h.2.2.1.1.2.1, ())).2 = 0 then bpF (BetwG (ofF x t).1 (day, h.2.2.1.1.2.1, ())).1 1000 else (0, (BetwG (ofF x t).1 (day, h.2.2.1.1.2.1, ())).2)) else (0, (ofF x t).2)
   (r.1, r.2, ())) := by
 refine Fr.need_ hx (Fr.need_ ht ?_)
 by_cases h1 : (ofF x t).2 = 0
 ·refine Fr.br_f (by show ((ofF x t).2 != 0) = false; simp [h1]) ?_
  simp only [h1, if_true]
  by_cases h2 : (BetwG (ofF x t).1 (day, h.2.2.1.1.2.1, ())).2 = 0
  ·refine Fr.br_f (by show ((BetwG (ofF x t).1 (day, h.2.2.1.1.2.1, ())).2 != 0) = false; simp [h2]) ⟨trivial, ?_⟩
   simp only [h2, if_true]
   rfl
  ·refine Fr.br_t (by show ((BetwG (ofF x t).1 (day, h.2.2.1.1.2.1, ())).2 != 0) = true; simp [h2]) ⟨trivial, ?_⟩
   simp only [h2, if_false]
   rfl
 ·refine Fr.br_t (by show ((ofF x t).2 != 0) = true; simp [h1]) ⟨trivial, ?_⟩
  simp only [h1, if_false]
  rfl
theorem kept_eq (h : histT.den) (t : tarT.den) (hf : fewH h) (ht : fewT t) : (frKept (h, t, ())).ok /\ (frKept (h, t, ())).get = ((keptF h t).1, (keptF h t).2, ()) := by
 have hl : (chL h).length <= 500000 := hf.1
 refine Fr.need_ hf (Fr.need_ ht ?_)
 unfold keptF
 by_cases h1 : (ofF h t).2 = 0
 ·refine Fr.br_f (by show ((ofF h t).2 != 0) = false; simp [h1]) (Fr.need_ (show ((chL h).length : Int) <= 1000000 by omega) ?_)
  rw [if_pos h1]
  cases ho : turnO h with
  | none =>
   have e2 : (cTurn.f (h, ())).2.1 = false := by show (turnO h).isSome = false; rw [ho]; rfl
   rw [e2]
   exact Fr.need_ (fun hh => by cases hh) (Fr.need_ (fun hh => by cases hh) (Fr.br_t rfl ⟨trivial, rfl⟩))
  | some a =>
   obtain ⟨⟨a0, a1⟩, hT⟩ := turnO_mem ho
   have e1 : (cTurn.f (h, ())).1 = a := by show (turnO h).getD 0 = a; rw [ho]; rfl
   have e2 : (cTurn.f (h, ())).2.1 = true := by show (turnO h).isSome = true; rw [ho]; rfl
   rw [e1, e2]
   refine Fr.need_ (fun _ => ⟨a0, a1⟩) (Fr.need_ (fun _ => ⟨a0, a1⟩) ?_)
   show _ /\ _ = ((keptA h t a).1, (keptA h t a).2, ())
   cases hb : (bif bif !true then true else ((chL h).getD a.toNat changeT.dflt).2.2.1 != 3 then true else ((chL h).getD a.toNat changeT.dflt).2.2.2.2.2.1 != 1) with
   | true =>
    refine Fr.br_t rfl ⟨trivial, ?_⟩
    have hn : ¬ ((chAt h a).2.2.1 = 3 /\ (chAt h a).2.2.2.2.2.1 = 1) := fun hh => by
     have hb' : (bif bif !true then true else (chAt h a).2.2.1 != 3 then true else (chAt h a).2.2.2.2.2.1 != 1) = true := hb
     rw [bif3k.2 ⟨rfl, hh⟩] at hb'
     cases hb'
    unfold keptA
    rw [if_neg hn]
    rfl
   | false =>
    obtain ⟨_, k1, k2⟩ := bif3k.1 hb
    obtain ⟨n, rfl⟩ : ∃ n : Nat, a = n := ⟨a.toNat, by omega⟩
    obtain ⟨w, hfl⟩ := pcs_flat (h := h) (a := n) (by omega) (by omega)
    have hwf := without_few hf n
    have hlen : ((pcsK h n).flatten).length <= 1000000 := by
     rw [hfl]
     have : (chL (without h n)).length <= 500000 := hwf.1
     exact Nat.le_trans this (by decide)
    have hnl : n < (chL h).length := by omega
    have q1 : 0 <= IntKind.i64.wrap ((n : Int) + 1) /\ IntKind.i64.wrap ((n : Int) + 1) <= ((chL h).length : Int) := by rw [w]; omega
    refine Fr.br_f rfl (Fr.need_ ⟨a0, a1⟩ (Fr.need_ ⟨Int.le_refl _, a0, Int.le_of_lt a1⟩ (Fr.need_ ⟨q1.1, q1.2, Int.le_refl _⟩ (Fr.need_ hlen ?_))))
    have hx : setCh h (cConcat.f (pcsK h n, ())).1 = without h n := by
     show setCh h (List.flatten (pcsK h n)) = setCh h _
     rw [hfl]
    rw [hx]
    have := kp2_eq (h := h) (x := without h n) (t := t) (day := (chAt h n).2.1) hwf ht
    refine ⟨this.1, this.2.trans ?_⟩
    unfold keptA
    have hk : (chAt h n).2.2.1 = 3 /\ (chAt h n).2.2.2.2.2.1 = 1 := ⟨k1, k2⟩
    rw [if_pos hk, Int.toNat_natCast]
 ·refine Fr.br_t (by show ((ofF h t).2 != 0) = true; simp [h1]) ⟨trivial, ?_⟩
  rw [if_neg h1]
  rfl
theorem keptP_ok : SoundCt Tryz.prog 18 cKeptP :=
 convF kept_run _ _ (fun w F x vs hr hok => by
  obtain ⟨h, t, _⟩ := x
  exact kept_eq h t hok.1 hok.2)
theorem keptF_val (h : histT.den) (t : tarT.den) : 0 <= (keptF h t).1 /\ (keptF h t).1 <= 4000000000000000000 := by
 have z : (0 : Int) <= 0 /\ (0 : Int) <= 4000000000000000000 := by decide
 unfold keptF
 split
 ·split
  ·exact z
  ·unfold keptA
   split
   ·split
    ·split
     ·exact evenF_val _ _ _ (by decide)
     ·exact z
    ·exact z
   ·exact z
 ·exact z
theorem UptoF_val (l : List sliceT.den) (d : Int) : 0 <= (UptoF l d).1 /\ (UptoF l d).1 <= 4000000000000000000 := by
 unfold UptoF
 split
 ·exact val0
 ·exact uptoO_val _ _
theorem over_iff {a b : Int} : a > 4000000000000000000 - b ↔ 4000000000000000000 < a + b := by omega
def dueW (w k : Int) : Int × Int := if 4000000000000000000 < w + k then (0, 5) else (w + k, 0)
def dueF (h : histT.den) (t : tarT.den) : Int × Int :=
 if (keptF h t).2 = 0 then (if (UptoF (ofF h t).1 292195).2 = 0 then dueW (UptoF (ofF h t).1 292195).1 (keptF h t).1 else (0, (UptoF (ofF h t).1 292195).2)) else (0, (keptF h t).2)
def cDue : Ct := ⟨[.d histT, .d tarT], [i64, i64], fun x => ((dueF x.1 x.2.1).1, (dueF x.1 x.2.1).2, ()), fun x => [fewH x.1, fewT x.2.1]⟩
theorem dueF_val (h : histT.den) (t : tarT.den) : 0 <= (dueF h t).1 /\ (dueF h t).1 <= 4000000000000000000 := by
 have z : (0 : Int) <= 0 /\ (0 : Int) <= 4000000000000000000 := by decide
 have k := keptF_val h t
 have u := UptoF_val (ofF h t).1 292195
 unfold dueF
 split
 ·split
  ·unfold dueW
   split
   ·exact z
   ·exact ⟨by show 0 <= _ + _; omega, by show _ + _ <= (4000000000000000000 : Int); omega⟩
  ·exact z
 ·exact z
noncomputable def CDu : Cx := cx [(18, cKeptP), (26, cOf), (29, cWritten)] []
theorem CDu_ok : CxOK Tryz.prog CDu := cx_ok mixed ⟨keptP_ok, of_ok, Written_ok, trivial⟩ trivial
def frDueG (h : histT.den) (t : tarT.den) (over : Bool) : Fr (denL [i64, i64]) :=
 let K : denL [i64, i64] := cKeptP.f (h, t, ()); let W : denL [i64, i64] := cWritten.f ((cOf.f (h, t, ())).1, ())
 Fr.need (fewH h) (Fr.need (fewT t) (Fr.br (K.2.1 != 0) (Fr.val (0, K.2.1, ()))
  (Fr.need (fewH h) (Fr.need (fewT t) (Fr.br (W.2.1 != 0) (Fr.val (0, W.2.1, ()))
   (Fr.br over (Fr.val (0, 5, ())) (Fr.val (IntKind.i64.wrap (W.1 + K.1), 0, ()))))))))
def frDue (x : denP [.d histT, .d tarT]) : Fr (denL [i64, i64]) :=
 frDueG x.1 x.2.1 (decide ((cWritten.f ((cOf.f (x.1, x.2.1, ())).1, ())).1 > IntKind.i64.wrap (4000000000000000000 - (cKeptP.f (x.1, x.2.1, ())).1)))
theorem due_run : SoundCt Tryz.prog 20 ⟨[.d histT, .d tarT], [i64, i64], fun xs => (frDue xs).get, fun xs => [(frDue xs).ok]⟩ :=
 fn_sound CDu_ok (Λ := lam0) (fn := Tryz.f20) (fr := frDue) (ps := [.d histT, .d tarT]) (rs := [i64, i64]) (histT.dflt, tarT.dflt, ()) (by kernel_rfl) (fun c E _ => lam0_ok c 0) (fun x => by kernel_rfl)
theorem dueG_eq {h : histT.den} {t : tarT.den} {over : Bool} (hf : fewH h) (ht : fewT t) (ho : over = decide (4000000000000000000 < (UptoF (ofF h t).1 292195).1 + (keptF h t).1)) :
  (frDueG h t over).ok /\ (frDueG h t over).get = ((dueF h t).1, (dueF h t).2, ()) := by
 have k := keptF_val h t
 have u := UptoF_val (ofF h t).1 292195
 refine Fr.need_ hf (Fr.need_ ht ?_)
 unfold dueF
 by_cases h1 : (keptF h t).2 = 0
 ·rw [if_pos h1]
  refine Fr.br_f (by show ((keptF h t).2 != 0) = false; simp [h1]) (Fr.need_ hf (Fr.need_ ht ?_))
  by_cases h2 : (UptoF (ofF h t).1 292195).2 = 0
  ·rw [if_pos h2]
   refine Fr.br_f (by show ((UptoF (ofF h t).1 292195).2 != 0) = false; simp [h2]) ?_
   unfold dueW
   by_cases h3 : 4000000000000000000 < (UptoF (ofF h t).1 292195).1 + (keptF h t).1
   ·rw [if_pos h3]
    exact Fr.br_t (ho.trans (decide_eq_true h3)) ⟨trivial, rfl⟩
   ·rw [if_neg h3]
    refine Fr.br_f (ho.trans (decide_eq_false h3)) ⟨trivial, ?_⟩
    show (IntKind.i64.wrap ((UptoF (ofF h t).1 292195).1 + (keptF h t).1), (0 : Int), ()) = _
    rw [i64w (by omega)]
  ·rw [if_neg h2]
   exact Fr.br_t (by show ((UptoF (ofF h t).1 292195).2 != 0) = true; simp [h2]) ⟨trivial, rfl⟩
 ·rw [if_neg h1]
  exact Fr.br_t (by show ((keptF h t).2 != 0) = true; simp [h1]) ⟨trivial, rfl⟩
theorem due_ok : SoundCt Tryz.prog 20 cDue :=
 convF due_run _ _ (fun w F x vs hr hok => by
  obtain ⟨h, t, _⟩ := x
  have k := keptF_val h t
  have u := UptoF_val (ofF h t).1 292195
  refine dueG_eq hok.1 hok.2 ?_
  show decide ((UptoF (ofF h t).1 292195).1 > IntKind.i64.wrap (4000000000000000000 - (keptF h t).1)) = _
  rw [i64w (by omega)]
  exact decide_eq_decide.2 over_iff)
def givenF (h : histT.den) (t : tarT.den) (c : changeT.den) : Int × Int :=
 if (putF h c).2 = 0 then (if (dueF h t).2 = 0 then (if (dueF (putF h c).1 t).2 = 0 then ((dueF h t).1 - (dueF (putF h c).1 t).1, 0) else (0, (dueF (putF h c).1 t).2)) else (0, (dueF h t).2)) else (0, (putF h c).2)
def cGiven : Ct := ⟨[.d histT, .d tarT, .d changeT], [i64, i64], fun x => ((givenF x.1 x.2.1 x.2.2.1).1, (givenF x.1 x.2.1 x.2.2.1).2, ()), fun x => [fewH x.1, fewT x.2.1, x.2.2.1.2.2.2.2.1.length <= 1000000]⟩
noncomputable def CGv : Cx := cx [(44, cPut), (20, cDue)] []
theorem CGv_ok : CxOK Tryz.prog CGv := cx_ok mixed ⟨put_ok, due_ok, trivial⟩ trivial
def frGiven (x : denP [.d histT, .d tarT, .d changeT]) : Fr (denL [i64, i64]) :=
 let h : histT.den := x.1; let t : tarT.den := x.2.1; let c : changeT.den := x.2.2.1
 let p : denL [histT, i64] := cPut.f (h, c, ()); let a : denL [i64, i64] := cDue.f (h, t, ()); let b : denL [i64, i64] := cDue.f (p.1, t, ())
 Fr.need (fewH h) (Fr.need (c.2.2.2.2.1.length <= 1000000) (Fr.br (p.2.1 != 0) (Fr.val (0, p.2.1, ()))
  (Fr.need (fewH h) (Fr.need (fewT t) (Fr.br (a.2.1 != 0) (Fr.val (0, a.2.1, ()))
   (Fr.need (fewH p.1) (Fr.need (fewT t) (Fr.br (b.2.1 != 0) (Fr.val (0, b.2.1, ())) (Fr.val (IntKind.i64.wrap (a.1 - b.1), 0, ()))))))))))
theorem given_run : SoundCt Tryz.prog 22 ⟨[.d histT, .d tarT, .d changeT], [i64, i64], fun xs => (frGiven xs).get, fun xs => [(frGiven xs).ok]⟩ :=
 fn_sound CGv_ok (Λ := lam0) (fn := Tryz.f22) (fr := frGiven) (ps := [.d histT, .d tarT, .d changeT]) (rs := [i64, i64]) (histT.dflt, tarT.dflt, changeT.dflt, ()) (by kernel_rfl) (fun c E _ => lam0_ok c 0) (fun x => by kernel_rfl)
theorem addCh_few {h : histT.den} {c : changeT.den} (hf : fewH h) (hl : (chL h).length < 2000) (hc : c.2.2.2.2.1.length <= 1000000) : fewH (addCh h c) := by
 have e : chL (addCh h c) = ([] ++ chL h) ++ [c] := rfl
 refine ⟨?_, hf.2.1, fun c' hc' => ?_⟩
 ·rw [e, List.nil_append, List.length_append]
  show _ + 1 <= 500000
  omega
 ·rw [e, List.nil_append, List.mem_append] at hc'
  rcases hc' with hc' | hc'
  ·exact hf.2.2 c' hc'
  ·cases List.mem_singleton.1 hc'
   exact hc
theorem put_few {h : histT.den} {c : changeT.den} (hf : fewH h) (hc : c.2.2.2.2.1.length <= 1000000) : fewH (putF h c).1 := by
 have z : fewH h00 := ⟨by decide, by decide, fun c hc => by cases hc⟩
 unfold putF
 split
 ·split
  ·exact z
  ·split
   ·exact z
   ·exact addCh_few hf (by omega) hc
 ·exact z
theorem given_eq (h : histT.den) (t : tarT.den) (c : changeT.den) (hf : fewH h) (ht : fewT t) (hc : c.2.2.2.2.1.length <= 1000000) : (frGiven (h, t, c, ())).ok /\ (frGiven (h, t, c, ())).get = ((givenF h t c).1, (givenF h t c).2, ()) := by
 have d1 := dueF_val h t
 have d2 := dueF_val (putF h c).1 t
 refine Fr.need_ hf (Fr.need_ hc ?_)
 unfold givenF
 by_cases h1 : (putF h c).2 = 0
 ·rw [if_pos h1]
  refine Fr.br_f (by show ((putF h c).2 != 0) = false; simp [h1]) (Fr.need_ hf (Fr.need_ ht ?_))
  by_cases h2 : (dueF h t).2 = 0
  ·rw [if_pos h2]
   refine Fr.br_f (by show ((dueF h t).2 != 0) = false; simp [h2]) (Fr.need_ (put_few hf hc) (Fr.need_ ht ?_))
   by_cases h3 : (dueF (putF h c).1 t).2 = 0
   ·rw [if_pos h3]
    refine Fr.br_f (by show ((dueF (putF h c).1 t).2 != 0) = false; simp [h3]) ⟨trivial, ?_⟩
    show (IntKind.i64.wrap ((dueF h t).1 - (dueF (putF h c).1 t).1), (0 : Int), ()) = _
    rw [i64w (by omega)]
   ·rw [if_neg h3]
    exact Fr.br_t (by show ((dueF (putF h c).1 t).2 != 0) = true; simp [h3]) ⟨trivial, rfl⟩
  ·rw [if_neg h2]
   exact Fr.br_t (by show ((dueF h t).2 != 0) = true; simp [h2]) ⟨trivial, rfl⟩
 ·rw [if_neg h1]
  exact Fr.br_t (by show ((putF h c).2 != 0) = true; simp [h1]) ⟨trivial, rfl⟩
theorem given_ok : SoundCt Tryz.prog 22 cGiven :=
 convF given_run _ _ (fun w F x vs hr hok => by
  obtain ⟨h, t, c, _⟩ := x
  exact given_eq h t c hok.1 hok.2.1 hok.2.2)
abbrev fsHi : List YF := [(none, i64), (none, i64), (none, i64), (none, i64), (none, i64), (none, i64), (none, i64), (none, i64), (none, .sl coverT), (some 53, changeT)]
def toYi (h : histT.den) : denY fsHi := (h.1, h.2.1, h.2.2.1.1.1, h.2.2.1.1.2.1, h.2.2.1.2.1.1, h.2.2.1.2.1.2.1, h.2.2.1.2.1.2.2.1, h.2.2.1.2.1.2.2.2.1, h.2.2.1.2.2.1, h.2.2.2.1, ())
def ofYi (y : denY fsHi) : histT.den := (y.1, y.2.1, ((y.2.2.1, y.2.2.2.1, ()), (y.2.2.2.2.1, y.2.2.2.2.2.1, y.2.2.2.2.2.2.1, y.2.2.2.2.2.2.2.1, ()), y.2.2.2.2.2.2.2.2.1, ()), y.2.2.2.2.2.2.2.2.2.1, ())
def chsYi (y : denY fsHi) : List changeT.den := y.2.2.2.2.2.2.2.2.2.1
def setCi (y : denY fsHi) (l : List changeT.den) : denY fsHi := (y.1, y.2.1, y.2.2.1, y.2.2.2.1, y.2.2.2.2.1, y.2.2.2.2.2.1, y.2.2.2.2.2.2.1, y.2.2.2.2.2.2.2.1, y.2.2.2.2.2.2.2.2.1, l, ())
noncomputable def CL8 : Cx := cx [(63, cOrder11)] []
theorem CL8_ok : CxOK Tryz.prog CL8 := cx_ok mixed ⟨order11_ok, trivial⟩ trivial
abbrev ptRtn : Pt := ⟨35, 0, ⟨[(5, .d i64), (3, .d ints), (4, .d i64)], [.x 1 31 histT, .r 1 1 0]⟩, ⟨[(4, .d i64)], []⟩, ⟨[], []⟩⟩
def frRtn (x : ptRtn.M.X) : Fr ptRtn.Out :=
 let k : Int := x.1.1; let l : List Int := x.1.2.1; let last : Int := x.1.2.2.1; let h : histT.den := x.2.1
 let v : Int := l.getD k.toNat 0
 Fr.br (decide (k < (l.length : Int)))
  (Fr.need (0 <= k /\ k < (l.length : Int)) (Fr.need (0 <= v /\ v < ((chL h).length : Int))
   (Fr.br (bif ((chL h).getD v.toNat changeT.dflt).2.2.1 == 3 then true else ((chL h).getD v.toNat changeT.dflt).2.2.1 == 4)
    (Fr.need (0 <= k /\ k < (l.length : Int)) (Fr.val (Rd.next ((IntKind.i64.wrap (k + 1), l, v, ()), (h, ())))))
    (Fr.val (Rd.next ((IntKind.i64.wrap (k + 1), l, last, ()), (h, ())))))))
  (Fr.val (Rd.out ((last, ()), ())))
theorem semRtn : Does Tryz.prog (loopF Tryz.f30 0) ptRtn.M ptRtn frRtn :=
 Does.of_run CL8_ok (bs := 0) (Λ := lam0) rfl rfl rfl (fun E => lam0_ok _ 0) (fun x => by kernel_rfl)
structure InvRtn (k : Int) (l : List Int) (last : Int) (h : histT.den) : Prop where
 k0 : 0 <= k
 kl : k <= l.length
 big : l.length <= 1000000
 mem : ∀ v ∈ l, 0 <= v /\ v < ((chL h).length : Int)
 la : last = (turnG h l k.toNat).getD (-1)
def FRtn (x : ptRtn.M.X) : Fr ptRtn.Out := Fr.need (InvRtn x.1.1 x.1.2.1 x.1.2.2.1 x.2.1) (Fr.val (Rd.out (((turnG x.2.1 x.1.2.1 (List.length (α := Int) x.1.2.1)).getD (-1), ()), ())))
theorem lawRtn (k : Int) (l : List Int) (last : Int) (h : histT.den) (hinv : InvRtn k l last h) (Q : ptRtn.Out -> Prop) (hq : Q (Rd.out (((turnG h l l.length).getD (-1), ()), ()))) : (frRtn ((k, l, last, ()), (h, ()))).satP fun
   | .next x' => InvRtn x'.1.1 x'.1.2.1 x'.1.2.2.1 x'.2.1 /\ (((List.length (α := Int) x'.1.2.1 : Nat) : Int) - x'.1.1).toNat < ((l.length : Int) - k).toNat /\ (FRtn x').satP Q
   | .out y => Q (.out y)
   | .back z => Q (.back z)
   | .pan p => Q (.pan p) := by
 obtain ⟨h0, h1, h2, h3, h4⟩ := hinv
 obtain ⟨m, rfl⟩ : ∃ n : Nat, k = n := ⟨k.toNat, by omega⟩
 rw [Int.toNat_natCast] at h4
 subst h4
 dsimp only [frRtn, Fr.satP]
 simp only [Int.toNat_natCast]
 refine ⟨fun hi => ?_, fun hi => ?_⟩
 ·have hm : m < l.length := by have : (m : Int) < (l.length : Int) := of_decide_eq_true hi; omega
  have w1 : IntKind.i64.wrap ((m : Int) + 1) = ((m + 1 : Nat) : Int) := by rw [i64w (by omega)]; omega
  have hv : l.getD m 0 = l[m] := by rw [List.getD_eq_getElem?_getD, List.getElem?_eq_getElem hm]; rfl
  have hmem := h3 (l.getD m 0) (by rw [hv]; exact List.getElem_mem hm)
  have hb : 0 <= (m : Int) /\ (m : Int) < (l.length : Int) := ⟨by omega, by omega⟩
  have hμ : ((l.length : Int) - ((m + 1 : Nat) : Int)).toNat < ((l.length : Int) - (m : Int)).toNat := by omega
  have hk : (bif (chAt h (l.getD m 0)).2.2.1 == 3 then true else (chAt h (l.getD m 0)).2.2.1 == 4) = isT (chAt h (l.getD m 0)) := by
   unfold isT
   cases (chAt h (l.getD m 0)).2.2.1 == 3 <;> rfl
  rw [w1]
  refine ⟨hb, hmem, fun ht => ⟨hb, ?_⟩, fun ht => ?_⟩
  ·have ht' : isT (chAt h (l.getD m 0)) = true := hk.symm.trans ht
   have e : turnG h l (m + 1) = some (l.getD m 0) := if_pos ht'
   have hI : InvRtn ((m + 1 : Nat) : Int) l (l.getD m 0) h := ⟨by omega, by omega, h2, h3, by rw [Int.toNat_natCast, e]; rfl⟩
   exact ⟨hI, hμ, hI, hq⟩
  ·have ht' : isT (chAt h (l.getD m 0)) = false := hk.symm.trans ht
   have e : turnG h l (m + 1) = turnG h l m := if_neg (by rw [ht']; decide)
   have hI : InvRtn ((m + 1 : Nat) : Int) l ((turnG h l m).getD (-1)) h := ⟨by omega, by omega, h2, h3, by rw [Int.toNat_natCast, e]⟩
   exact ⟨hI, hμ, hI, hq⟩
 ·have hm : ¬ (m : Int) < (l.length : Int) := of_decide_eq_false hi
  obtain rfl : m = l.length := by omega
  exact hq
theorem loopRtn : Does Tryz.prog (.loop (loopF Tryz.f30 0)) ptRtn.M ptRtn FRtn := by
 refine Does.loop (n := 35) (id := 0) semRtn (inv := fun x => InvRtn x.1.1 x.1.2.1 x.1.2.2.1 x.2.1) (μ := fun x => (((List.length (α := Int) x.1.2.1 : Nat) : Int) - x.1.1).toNat) ?_ (fun x Q h => h.1)
 rintro ⟨⟨k, l, last, _⟩, h, _⟩ hinv Q hq
 exact lawRtn k l last h hinv Q hq.2
def cTurnR : Ct := ⟨[.d histT], [i64], fun x => ((turnO x.1).getD (-1), ()), fun x => [((chL x.1).length : Int) <= 1000000]⟩
theorem turnR_ok : SoundCt Tryz.prog 30 cTurnR :=
 convF (fn_sound CL8_ok (Λ := fun _ => ptRtn.han CL8.Γ ptRtn.M FRtn) (fn := Tryz.f30) (ps := [.d histT]) (rs := [i64])
  (fr := fun x => Fr.need (((chL x.1).length : Int) <= 1000000) (Fr.need (InvRtn 0 (orderL x.1) (-1) x.1) (Fr.val ((turnO x.1).getD (-1), ())))) (histT.dflt, ()) (by kernel_rfl)
  (fun c E hc => lam1f hc (by kernel_rfl) (b := loopF Tryz.f30 0) (by kernel_rfl) (Does.han CL8_ok rfl loopRtn)) (fun x => by kernel_rfl)) _ _ (fun _ _ x _ _ hok => by
   obtain ⟨h, _⟩ := x
   have hl : ((chL h).length : Int) <= 1000000 := hok
   have hlen : (orderL h).length = (chL h).length := orderL_length h
   exact Fr.need_ hl (Fr.need_ ⟨Int.le_refl _, Int.natCast_nonneg _, (show (orderL h).length <= 1000000 by omega), fun v hv => orderL_mem hv, rfl⟩ ⟨trivial, rfl⟩))
def woL (l : List changeT.den) (a : Int) : Nat -> List changeT.den
 | 0 => []
 | k + 1 => if (k : Int) = a then woL l a k else woL l a k ++ [l.getD k changeT.dflt]
theorem woL_length (l : List changeT.den) (a : Int) : (k : Nat) -> (woL l a k).length <= k
 | 0 => Nat.le_refl _
 | k + 1 => by
  have := woL_length l a k
  unfold woL
  split
  ·omega
  ·rw [List.length_append]
   simp only [List.length_cons, List.length_nil]
   omega
theorem woL_take (l : List changeT.den) (a : Nat) : (k : Nat) -> k <= l.length -> woL l a k = (l.take k).take a ++ (l.take k).drop (a + 1)
 | 0, _ => by simp [woL]
 | k + 1, hk => by
  have ih := woL_take l a k (by omega)
  have hkl : k < l.length := by omega
  have ht : l.take (k + 1) = l.take k ++ [l[k]] := by rw [List.take_add_one, List.getElem?_eq_getElem hkl]; rfl
  have hg : l.getD k changeT.dflt = l[k] := by rw [List.getD_eq_getElem?_getD, List.getElem?_eq_getElem hkl]; rfl
  have hlen : (l.take k).length = k := by rw [List.length_take]; omega
  unfold woL
  rw [ih, ht, hg]
  by_cases h : (k : Int) = a
  ·have h' : k = a := by omega
   subst h'
   rw [if_pos rfl, List.take_append_of_le_length (by omega), List.drop_of_length_le (by omega), List.drop_of_length_le (by rw [List.length_append, hlen]; simp)]
  ·rw [if_neg h]
   by_cases h2 : k < a
   ·rw [List.take_of_length_le (show (l.take k).length <= a by omega), List.drop_of_length_le (show (l.take k).length <= a + 1 by omega),
     List.take_of_length_le (show (l.take k ++ [l[k]]).length <= a by rw [List.length_append, hlen]; simp; omega), List.drop_of_length_le (show (l.take k ++ [l[k]]).length <= a + 1 by rw [List.length_append, hlen]; simp; omega)]
    simp
   ·rw [List.take_append_of_le_length (by omega), List.drop_append_of_le_length (by omega), List.append_assoc]
theorem woL_all (l : List changeT.den) (a : Nat) : woL l a l.length = l.take a ++ l.drop (a + 1) := by
 rw [woL_take l a l.length (Nat.le_refl _), List.take_length]
theorem woL_neg (l : List changeT.den) {a : Int} (ha : a < 0) : (k : Nat) -> k <= l.length -> woL l a k = l.take k
 | 0, _ => rfl
 | k + 1, hk => by
  have hkl : k < l.length := by omega
  unfold woL
  rw [if_neg (by omega), woL_neg l ha k (by omega), List.take_add_one, List.getElem?_eq_getElem hkl, List.getD_eq_getElem?_getD, List.getElem?_eq_getElem hkl]
  rfl
abbrev msWo : List MI := [.x 2 31 histT, .r 2 2 0, .x 4 31 histT, .r 4 4 0, .y 5 31 fsHi, .r 5 5 0]
abbrev ptWo : Pt := ⟨35, 0, ⟨[(1, .d i64), (6, .d i64)], msWo⟩, ⟨[], [.x 4 31 histT, .r 4 4 0, .y 5 31 fsHi, .r 5 5 0]⟩, ⟨[], []⟩⟩
noncomputable def CWo : Cx := cx [] []
theorem CWo_ok : CxOK Tryz.prog CWo := cx_ok (cs := []) (ps := []) mixed trivial trivial
def frWo (x : ptWo.M.X) : Fr ptWo.Out :=
 let a : Int := x.1.1; let k : Int := x.1.2.1; let h : histT.den := x.2.1; let z : histT.den := x.2.2.1; let y : denY fsHi := x.2.2.2.1
 Fr.br (decide (k < ((chL h).length : Int)))
  (Fr.br (k != a)
   (Fr.need (0 <= k /\ k < ((chL h).length : Int)) (Fr.need (roomC (chsYi y).length [(chL h).getD k.toNat changeT.dflt].length)
    (Fr.val (Rd.next ((a, IntKind.i64.wrap (k + 1), ()), (h, z, setCi y (chsYi y ++ [(chL h).getD k.toNat changeT.dflt]), ()))))))
   (Fr.val (Rd.next ((a, IntKind.i64.wrap (k + 1), ()), (h, z, y, ())))))
  (Fr.val (Rd.out ((), (z, y, ()))))
theorem semWo : Does Tryz.prog (loopF Tryz.f31 0) ptWo.M ptWo frWo :=
 Does.of_run CWo_ok (bs := 0) (Λ := lam0) rfl rfl rfl (fun E => lam0_ok _ 0) (fun x => by kernel_rfl)
structure InvWo (a k : Int) (h : histT.den) (y : denY fsHi) : Prop where
 k0 : 0 <= k
 kl : k <= (chL h).length
 big : (chL h).length <= 500000
 yk : chsYi y = woL (chL h) a k.toNat
def FWo (x : ptWo.M.X) : Fr ptWo.Out := Fr.need (InvWo x.1.1 x.1.2.1 x.2.1 x.2.2.2.1) (Fr.val (Rd.out ((), (x.2.2.1, setCi x.2.2.2.1 (woL (chL x.2.1) x.1.1 (chL x.2.1).length), ()))))
theorem setC_setC (y : denY fsHi) (l m : List changeT.den) : setCi (setCi y l) m = setCi y m := rfl
theorem setC_self (y : denY fsHi) : setCi y (chsYi y) = y := rfl
theorem lawWo (a k : Int) (h z : histT.den) (y : denY fsHi) (hinv : InvWo a k h y) (Q : ptWo.Out -> Prop) (hq : Q (Rd.out ((), (z, setCi y (woL (chL h) a (chL h).length), ())))) : (frWo ((a, k, ()), (h, z, y, ()))).satP fun
   | .next x' => InvWo x'.1.1 x'.1.2.1 x'.2.1 x'.2.2.2.1 /\ (((chL x'.2.1).length : Int) - x'.1.2.1).toNat < (((chL h).length : Int) - k).toNat /\ (FWo x').satP Q
   | .out y => Q (.out y)
   | .back z => Q (.back z)
   | .pan p => Q (.pan p) := by
 obtain ⟨h0, h1, h2, h3⟩ := hinv
 obtain ⟨m, rfl⟩ : ∃ n : Nat, k = n := ⟨k.toNat, by omega⟩
 rw [Int.toNat_natCast] at h3
 dsimp only [frWo, Fr.satP]
 simp only [Int.toNat_natCast]
 refine ⟨fun hi => ?_, fun hi => ?_⟩
 ·have hm : m < (chL h).length := by have : (m : Int) < ((chL h).length : Int) := of_decide_eq_true hi; omega
  have w1 : IntKind.i64.wrap ((m : Int) + 1) = ((m + 1 : Nat) : Int) := by rw [i64w (by omega)]; omega
  have hμ : (((chL h).length : Int) - ((m + 1 : Nat) : Int)).toNat < (((chL h).length : Int) - (m : Int)).toNat := by omega
  rw [w1]
  refine ⟨fun hne => ⟨⟨by omega, by omega⟩, room_mil ?_, ?_⟩, fun heq => ?_⟩
  ·have := woL_length (chL h) a m
   rw [h3]
   simp only [List.length_cons, List.length_nil]
   omega
  ·have hne' : ¬ (m : Int) = a := by simpa using hne
   have e : woL (chL h) a (m + 1) = woL (chL h) a m ++ [(chL h).getD m changeT.dflt] := if_neg hne'
   have hI : InvWo a ((m + 1 : Nat) : Int) h (setCi y (chsYi y ++ [(chL h).getD m changeT.dflt])) := ⟨by omega, by omega, h2, by
    show chsYi y ++ _ = _
    rw [Int.toNat_natCast, e, h3]⟩
   exact ⟨hI, hμ, hI, hq⟩
  ·have heq' : (m : Int) = a := by simpa using heq
   have e : woL (chL h) a (m + 1) = woL (chL h) a m := if_pos heq'
   have hI : InvWo a ((m + 1 : Nat) : Int) h y := ⟨by omega, by omega, h2, by rw [Int.toNat_natCast, e, h3]⟩
   exact ⟨hI, hμ, hI, hq⟩
 ·have hm : ¬ (m : Int) < ((chL h).length : Int) := of_decide_eq_false hi
  obtain rfl : m = (chL h).length := by omega
  rw [← h3, setC_self] at hq
  exact hq
theorem loopWo : Does Tryz.prog (.loop (loopF Tryz.f31 0)) ptWo.M ptWo FWo := by
 refine Does.loop (n := 35) (id := 0) semWo (inv := fun x => InvWo x.1.1 x.1.2.1 x.2.1 x.2.2.2.1) (μ := fun x => (((chL x.2.1).length : Int) - x.1.2.1).toNat) ?_ (fun x Q h => h.1)
 rintro ⟨⟨a, k, _⟩, h, z, y, _⟩ hinv Q hq
 exact lawWo a k h z y hinv Q hq.2
def cWithout : Ct := ⟨[.d histT, .d i64], [histT], fun x => (setCh x.1 (woL (chL x.1) x.2.1 (chL x.1).length), ()), fun x => [(chL x.1).length <= 500000]⟩
theorem withoutR_ok : SoundCt Tryz.prog 31 cWithout :=
 convF (fn_sound CWo_ok (Λ := fun _ => ptWo.han CWo.Γ ptWo.M FWo) (fn := Tryz.f31) (ps := [.d histT, .d i64]) (rs := [histT])
  (fr := fun x => Fr.need (InvWo x.2.1 0 x.1 (setCi (toYi x.1) [])) (Fr.val (ofYi (setCi (setCi (toYi x.1) []) (woL (chL x.1) x.2.1 (chL x.1).length)), ()))) (histT.dflt, 0, ()) (by kernel_rfl)
  (fun c E hc => lam1f hc (by kernel_rfl) (b := loopF Tryz.f31 0) (by kernel_rfl) (Does.han CWo_ok rfl loopWo)) (fun x => by kernel_rfl)) _ _ (fun _ _ x _ _ hok => by
   obtain ⟨h, a, _⟩ := x
   have hl : (chL h).length <= 500000 := hok
   exact Fr.need_ ⟨Int.le_refl _, Int.natCast_nonneg _, hl, rfl⟩ ⟨trivial, rfl⟩)
abbrev ptSt : Pt := ⟨21, 0, ⟨[(8, .d i64), (7, .d i64), (6, .d (.sl changeT))], []⟩, ⟨[], []⟩, ⟨[(2, .d .bool)], []⟩⟩
def frSt (x : ptSt.M.X) : Fr ptSt.Out :=
 let k : Int := x.1.1; let n : Int := x.1.2.1; let l : List changeT.den := x.1.2.2.1
 Fr.br (decide (k < n))
  (Fr.need (0 <= k /\ k < (l.length : Int))
   (Fr.br (bif (l.getD k.toNat changeT.dflt).2.2.1 == 3 then true else (l.getD k.toNat changeT.dflt).2.2.1 == 4) (Fr.val (Rd.back ((false, ()), ())))
    (Fr.val (Rd.next ((IntKind.i64.wrap (k + 1), n, l, ()), ())))))
  (Fr.val (Rd.out ((), ())))
theorem semSt : Does Tryz.prog (loopF Tryz.f24 0) ptSt.M ptSt frSt :=
 Does.of_run CWo_ok (bs := 0) (Λ := lam0) rfl rfl rfl (fun E => lam0_ok _ 0) (fun x => by kernel_rfl)
structure InvSt (k n : Int) (l : List changeT.den) : Prop where
 k0 : 0 <= k
 kl : k <= n
 nl : n = l.length
 big : (l.length : Int) <= 9223372036854775807
def FSt (x : ptSt.M.X) : Fr ptSt.Out :=
 Fr.need (InvSt x.1.1 x.1.2.1 x.1.2.2.1) (Fr.br (List.any (List.drop (x.1.1 : Int).toNat x.1.2.2.1) isT) (Fr.val (Rd.back ((false, ()), ()))) (Fr.val (Rd.out ((), ()))))
theorem lawSt (k n : Int) (l : List changeT.den) (hinv : InvSt k n l) (Q : ptSt.Out -> Prop) (hq : (Fr.br ((l.drop k.toNat).any isT) (Fr.val (Rd.back ((false, ()), ()))) (Fr.val (Rd.out ((), ()))) : Fr ptSt.Out).satP Q) : (frSt ((k, n, l, ()), ())).satP fun
   | .next x' => InvSt x'.1.1 x'.1.2.1 x'.1.2.2.1 /\ (x'.1.2.1 - x'.1.1).toNat < (n - k).toNat /\ (FSt x').satP Q
   | .out y => Q (.out y)
   | .back z => Q (.back z)
   | .pan p => Q (.pan p) := by
 obtain ⟨h0, h1, h2, h3⟩ := hinv
 obtain ⟨m, rfl⟩ : ∃ n : Nat, k = n := ⟨k.toNat, by omega⟩
 subst h2
 dsimp only [frSt, Fr.satP]
 simp only [Int.toNat_natCast] at hq ⊢
 refine ⟨fun hi => ?_, fun hi => ?_⟩
 ·have hm : m < l.length := by have : (m : Int) < (l.length : Int) := of_decide_eq_true hi; omega
  have w1 : IntKind.i64.wrap ((m : Int) + 1) = ((m + 1 : Nat) : Int) := by rw [i64w (by omega)]; omega
  have hd : l.drop m = l.getD m changeT.dflt :: l.drop (m + 1) := by
   rw [List.drop_eq_getElem_cons hm, List.getD_eq_getElem?_getD, List.getElem?_eq_getElem hm]
   rfl
  have hk : (bif (l.getD m changeT.dflt).2.2.1 == 3 then true else (l.getD m changeT.dflt).2.2.1 == 4) = isT (l.getD m changeT.dflt) := by
   unfold isT
   cases (l.getD m changeT.dflt).2.2.1 == 3 <;> rfl
  rw [w1]
  rw [hd, List.any_cons] at hq
  refine ⟨⟨by omega, by omega⟩, fun ht => ?_, fun ht => ?_⟩
  ·have ht' : isT (l.getD m changeT.dflt) = true := hk.symm.trans ht
   rw [ht'] at hq
   exact hq.1 rfl
  ·have ht' : isT (l.getD m changeT.dflt) = false := hk.symm.trans ht
   rw [ht', Bool.false_or] at hq
   have hI : InvSt ((m + 1 : Nat) : Int) l.length l := ⟨by omega, by omega, rfl, h3⟩
   refine ⟨hI, by omega, hI, ?_⟩
   show (Fr.br ((l.drop ((m + 1 : Nat) : Int).toNat).any isT) (Fr.val (Rd.back ((false, ()), ()))) (Fr.val (Rd.out ((), ()))) : Fr ptSt.Out).satP Q
   rw [Int.toNat_natCast]
   exact hq
 ·have hm : ¬ (m : Int) < (l.length : Int) := of_decide_eq_false hi
  rw [List.drop_of_length_le (by omega)] at hq
  exact hq.2 rfl
theorem loopSt : Does Tryz.prog (.loop (loopF Tryz.f24 0)) ptSt.M ptSt FSt := by
 refine Does.loop (n := 21) (id := 0) semSt (inv := fun x => InvSt x.1.1 x.1.2.1 x.1.2.2.1) (μ := fun x => (x.1.2.1 - x.1.1).toNat) ?_ (fun x Q h => h.1)
 rintro ⟨⟨k, n, l, _⟩, _⟩ hinv Q hq
 exact lawSt k n l hinv Q hq.2
def steadyB (h : histT.den) : Bool := !((chL h).any isT)
def cSteady : Ct := ⟨[.d histT], [.bool], fun x => (steadyB x.1, ()), fun _ => []⟩
theorem steady_ok : SoundCt Tryz.prog 24 cSteady :=
 convF (fn_sound CWo_ok (Λ := fun _ => ptSt.han CWo.Γ ptSt.M FSt) (fn := Tryz.f24) (ps := [.d histT]) (rs := [.bool])
  (fr := fun x => Fr.need (InvSt 0 ((chL x.1).length : Int) (chL x.1)) (Fr.br (((chL x.1).drop (0 : Int).toNat).any isT) (Fr.val (false, ())) (Fr.val (true, ())))) (histT.dflt, ()) (by kernel_rfl)
  (fun c E hc => lam1f hc (by kernel_rfl) (b := loopF Tryz.f24 0) (by kernel_rfl) (Does.han CWo_ok rfl loopSt)) (fun x => by kernel_rfl)) _ _ (fun w F x vs hr _ => by
   obtain ⟨h, _⟩ := x
   obtain ⟨v, vs', rfl, hv, _⟩ := hr
   have hlen : ((chL h).length : Int) <= 9223372036854775807 := len_big (RepT.wf hv.2.2).2.2.2.1.1
   refine Fr.need_ ⟨Int.le_refl _, Int.natCast_nonneg _, rfl, hlen⟩ ?_
   show _ /\ _ = (!((chL h).any isT), ())
   have hd : (chL h).drop (0 : Int).toNat = chL h := rfl
   rw [hd]
   cases (chL h).any isT with
   | true => exact Fr.br_t rfl ⟨trivial, rfl⟩
   | false => exact Fr.br_f rfl ⟨trivial, rfl⟩)
def rightE : List sliceT.den -> Int -> Bool
 | [], _ => true
 | s :: l, e => fullSl s e && rightE l s.1.2.1
theorem rightE_curve : (l : List sliceT.den) -> (e : Int) -> (p : List Int × List Int) -> (curveE l e p).isSome = rightE l e
 | [], _, _ => rfl
 | s :: l, e, p => by
  unfold curveE rightE
  cases fullSl s e with
  | true =>
   rw [Bool.true_and]
   exact rightE_curve l _ _
  | false => rfl
def right14 (l : List sliceT.den) : Bool := decide (l.length <= 2000) && rightE l 1
theorem right14_curve (l : List sliceT.den) : right14 l = !(curveO l).isNone := by
 unfold right14 curveO
 by_cases h : l.length <= 2000
 ·rw [decide_eq_true h, if_pos h, Bool.true_and, curveGo_E, ← rightE_curve l 1 ([], [])]
  cases curveE l 1 ([], []) <;> rfl
 ·rw [decide_eq_false h, if_neg h]
  rfl
def sumI (g : Int -> Int) : Int -> Nat -> Int
 | _, 0 => 0
 | a, n + 1 => g a + sumI g (a + 1) n
theorem dsum_sumI (f : stepT.den) : (n : Nat) -> (a : Int) -> dsum f a n = sumI (valAt f) a n
 | 0, _ => rfl
 | n + 1, a => by
  show valAt f a + dsum f (a + 1) n = valAt f a + sumI (valAt f) (a + 1) n
  rw [dsum_sumI f n (a + 1)]
theorem sumI_congr {g k : Int -> Int} : (n : Nat) -> (a : Int) -> (∀ d, a <= d -> d < a + n -> g d = k d) -> sumI g a n = sumI k a n
 | 0, _, _ => rfl
 | n + 1, a, h => by
  show g a + sumI g (a + 1) n = k a + sumI k (a + 1) n
  rw [h a (Int.le_refl _) (by omega), sumI_congr n (a + 1) (fun d h1 h2 => h d (by omega) (by omega))]
theorem sumI_add (g k : Int -> Int) : (n : Nat) -> (a : Int) -> sumI (fun d => g d + k d) a n = sumI g a n + sumI k a n
 | 0, _ => rfl
 | n + 1, a => by
  show g a + k a + sumI (fun d => g d + k d) (a + 1) n = g a + sumI g (a + 1) n + (k a + sumI k (a + 1) n)
  rw [sumI_add g k n (a + 1)]
  omega
theorem sumI_zero : (n : Nat) -> (a : Int) -> sumI (fun _ => 0) a n = 0
 | 0, _ => rfl
 | n + 1, a => by
  show 0 + sumI (fun _ => 0) (a + 1) n = 0
  rw [sumI_zero n (a + 1)]
  rfl
theorem ind_mul {m k y : Int} (h : k = m + 1) : y + m * y = k * y := by
 rw [h, Int.add_mul, Int.one_mul, Int.add_comm]
theorem sumI_in (F T y : Int) : (n : Nat) -> (a : Int) -> F <= a -> sumI (fun d => if F <= d /\ d < T then y else 0) a n = (if (if a + n < T then a + n else T) - a <= 0 then 0 else (if a + n < T then a + n else T) - a) * y
 | 0, a, h => by
  show (0 : Int) = _
  have : (if (if a + ((0 : Nat) : Int) < T then a + ((0 : Nat) : Int) else T) - a <= 0 then (0 : Int) else (if a + ((0 : Nat) : Int) < T then a + ((0 : Nat) : Int) else T) - a) = 0 := by
   split <;> split <;> omega
  rw [this, Int.zero_mul]
 | n + 1, a, h => by
  show (if F <= a /\ a < T then y else 0) + sumI _ (a + 1) n = _
  rw [sumI_in F T y n (a + 1) (by omega)]
  by_cases c : a < T
  ·rw [if_pos ⟨h, c⟩]
   refine ind_mul ?_
   split <;> split <;> split <;> split <;> omega
  ·rw [if_neg (fun hh => c hh.2), Int.zero_add]
   have e1 : (if (if a + 1 + (n : Int) < T then a + 1 + (n : Int) else T) - (a + 1) <= 0 then (0 : Int) else (if a + 1 + (n : Int) < T then a + 1 + (n : Int) else T) - (a + 1)) = 0 := by
    split <;> split <;> omega
   have e2 : (if (if a + ((n + 1 : Nat) : Int) < T then a + ((n + 1 : Nat) : Int) else T) - a <= 0 then (0 : Int) else (if a + ((n + 1 : Nat) : Int) < T then a + ((n + 1 : Nat) : Int) else T) - a) = 0 := by
    split <;> split <;> omega
   rw [e1, e2]
def D14 (d : Int) : Int := if d < 1 then 1 else d
def N14 (d : Int) (s : sliceT.den) : Int := (if D14 d < s.1.2.1 then D14 d else s.1.2.1) - s.1.1
theorem sumI_one (F T y : Int) : (n : Nat) -> (a : Int) -> a <= F -> sumI (fun d => if F <= d /\ d < T then y else 0) a n = (if (if a + n < T then a + n else T) - F <= 0 then 0 else (if a + n < T then a + n else T) - F) * y
 | 0, a, h => by
  show (0 : Int) = _
  have : (if (if a + ((0 : Nat) : Int) < T then a + ((0 : Nat) : Int) else T) - F <= 0 then (0 : Int) else (if a + ((0 : Nat) : Int) < T then a + ((0 : Nat) : Int) else T) - F) = 0 := by
   split <;> split <;> omega
  rw [this, Int.zero_mul]
 | n + 1, a, h => by
  by_cases c : a = F
  ·subst c
   exact sumI_in a T y (n + 1) a (Int.le_refl _)
  ·show (if F <= a /\ a < T then y else 0) + sumI _ (a + 1) n = _
   rw [if_neg (fun hh => c (by omega)), sumI_one F T y n (a + 1) (by omega), Int.zero_add]
   have : a + 1 + (n : Int) = a + ((n + 1 : Nat) : Int) := by omega
   rw [this]
def sumU (d : Int) : List sliceT.den -> Int
 | [] => 0
 | s :: l => (if N14 d s <= 0 then 0 else N14 d s) * s.2.2.2.2.1 + sumU d l
theorem costL_ahead : (l : List sliceT.den) -> (e : Int) -> rightE l e = true -> (d : Int) -> d < e -> costL l d = 0
 | [], _, _, _, _ => rfl
 | s :: l, e, h, d, hd => by
  unfold rightE at h
  rw [Bool.and_eq_true] at h
  obtain ⟨h1, h2, _⟩ := fullSl_iff.1 h.1
  unfold costL
  rw [if_neg (fun hh => absurd hh.1 (Int.not_le.2 (Int.lt_of_lt_of_le hd h1)))]
  exact costL_ahead l _ h.2 d (Int.lt_trans (Int.lt_of_lt_of_le hd h1) h2)
theorem costL_sum (d : Int) : (l : List sliceT.den) -> (e : Int) -> 1 <= e -> rightE l e = true -> sumI (costL l) 1 (D14 d - 1).toNat = sumU d l
 | [], _, _, _ => sumI_zero _ _
 | s :: l, e, he, h => by
  have h' := h
  unfold rightE at h'
  rw [Bool.and_eq_true] at h'
  obtain ⟨h1, h2, h3, h4, h5⟩ := fullSl_iff.1 h'.1
  have ih := costL_sum d l s.1.2.1 (Int.le_trans he (Int.le_trans h1 (Int.le_of_lt h2))) h'.2
  have hs : ∀ x, costL (s :: l) x = (if s.1.1 <= x /\ x < s.1.2.1 then s.2.2.2.2.1 else 0) + costL l x := fun x => by
   show (if s.1.1 <= x /\ x < s.1.2.1 then s.2.2.2.2.1 else costL l x) = _
   by_cases c : s.1.1 <= x /\ x < s.1.2.1
   ·rw [if_pos c, if_pos c, costL_ahead l _ h'.2 x c.2, Int.add_zero]
   ·rw [if_neg c, if_neg c, Int.zero_add]
  rw [sumI_congr _ _ (fun x _ _ => hs x), sumI_add, ih, sumI_one _ _ _ _ _ (Int.le_trans he h1)]
  have hD : (1 : Int) + ((D14 d - 1).toNat : Int) = D14 d := by
   have : 1 <= D14 d := by unfold D14; split <;> omega
   omega
  rw [hD]
  rfl
theorem costL_beyond : (l : List sliceT.den) -> (e : Int) -> rightE l e = true -> (d : Int) -> 292195 <= d -> costL l d = 0
 | [], _, _, _, _ => rfl
 | s :: l, e, h, d, hd => by
  unfold rightE at h
  rw [Bool.and_eq_true] at h
  obtain ⟨h1, h2, h3, _⟩ := fullSl_iff.1 h.1
  unfold costL
  rw [if_neg (fun hh => absurd hh.2 (Int.not_lt.2 (Int.le_trans h3 hd)))]
  exact costL_beyond l _ h.2 d hd
theorem sumI_split (g : Int -> Int) : (n m : Nat) -> (a : Int) -> sumI g a (n + m) = sumI g a n + sumI g (a + n) m
 | 0, m, a => by
  rw [Nat.zero_add, show a + ((0 : Nat) : Int) = a by omega]
  show _ = 0 + _
  rw [Int.zero_add]
 | n + 1, m, a => by
  rw [Nat.add_right_comm]
  show g a + sumI g (a + 1) (n + m) = g a + sumI g (a + 1) n + _
  rw [sumI_split g n m (a + 1), show a + 1 + (n : Int) = a + ((n + 1 : Nat) : Int) by omega, Int.add_assoc]
theorem Sd_sumU {l : List sliceT.den} (h : (curveO l).isNone = false) (d : Int) : Sd (curveF l) d = sumU d l := by
 have hr : right14 l = true := by rw [right14_curve, h]; rfl
 unfold right14 at hr
 rw [Bool.and_eq_true] at hr
 rw [← costL_sum d l 1 (Int.le_refl _) hr.2]
 unfold Sd
 rw [dsum_sumI]
 obtain ⟨b1, b2⟩ := clampD_bd d
 have h1 : sumI (valAt (curveF l)) 1 (clampD d - 1).toNat = sumI (costL l) 1 (clampD d - 1).toNat := sumI_congr _ _ fun x h1 h2 => valAt_cost h h1 (by omega)
 rw [h1]
 by_cases c : D14 d <= 292195
 ·have : clampD d = D14 d := by
   unfold clampD D14 at *
   rw [if_neg (by omega)]
  rw [this]
 ·have e1 : clampD d = 292195 := by
   unfold clampD D14 at *
   rw [if_pos (by omega)]
  rw [e1]
  have e2 : (D14 d - 1).toNat = (292195 - 1 : Int).toNat + (D14 d - 292195).toNat := by omega
  rw [e2, sumI_split]
  have e3 : sumI (costL l) (1 + ((292195 - 1 : Int).toNat : Int)) (D14 d - 292195).toNat = 0 := by
   rw [sumI_congr (k := fun _ => 0) _ _ (fun x h1 _ => costL_beyond l 1 hr.2 x (by omega)), sumI_zero]
  rw [e3, Int.add_zero]
def goU (d : Int) : List sliceT.den -> Int -> Option Int
 | [], acc => some acc
 | s :: l, acc => if N14 d s <= 0 then goU d l acc else if (4000000000000000000 - acc).tdiv (N14 d s) < s.2.2.2.2.1 then none else goU d l (acc + N14 d s * s.2.2.2.2.1)
theorem div_lt {a n y : Int} (ha : 0 <= a) (hn : 0 < n) : a.tdiv n < y ↔ a < n * y := by
 rw [Int.tdiv_eq_ediv_of_nonneg ha, Int.ediv_lt_iff_lt_mul hn, Int.mul_comm]
theorem sumU_nonneg (d : Int) : (l : List sliceT.den) -> (e : Int) -> rightE l e = true -> 0 <= sumU d l
 | [], _, _ => Int.le_refl _
 | s :: l, e, h => by
  unfold rightE at h
  rw [Bool.and_eq_true] at h
  obtain ⟨_, _, _, h4, _⟩ := fullSl_iff.1 h.1
  have ih := sumU_nonneg d l _ h.2
  unfold sumU
  have : 0 <= (if N14 d s <= 0 then 0 else N14 d s) * s.2.2.2.2.1 := Int.mul_nonneg (by split <;> omega) h4
  omega
theorem goU_eq (d : Int) : (l : List sliceT.den) -> (e : Int) -> rightE l e = true -> (acc : Int) -> 0 <= acc /\ acc <= 4000000000000000000 ->
  goU d l acc = if acc + sumU d l <= 4000000000000000000 then some (acc + sumU d l) else none
 | [], _, _, acc, ha => by
  unfold goU sumU
  rw [Int.add_zero, if_pos ha.2]
 | s :: l, e, h, acc, ha => by
  have h' := h
  unfold rightE at h'
  rw [Bool.and_eq_true] at h'
  obtain ⟨_, _, _, h4, h5⟩ := fullSl_iff.1 h'.1
  have hs := sumU_nonneg d l _ h'.2
  unfold goU
  have hU : sumU d (s :: l) = (if N14 d s <= 0 then 0 else N14 d s) * s.2.2.2.2.1 + sumU d l := rfl
  by_cases c : N14 d s <= 0
  ·rw [if_pos c, goU_eq d l _ h'.2 acc ha, hU, if_pos c, Int.zero_mul, Int.zero_add]
  ·rw [if_neg c, hU, if_neg c]
   have hm : 0 <= N14 d s * s.2.2.2.2.1 := Int.mul_nonneg (by omega) h4
   by_cases c2 : (4000000000000000000 - acc).tdiv (N14 d s) < s.2.2.2.2.1
   ·rw [if_pos c2, if_neg]
    rw [div_lt (by omega) (by omega)] at c2
    omega
   ·rw [if_neg c2]
    rw [div_lt (by omega) (by omega)] at c2
    rw [goU_eq d l _ h'.2 _ (by omega), Int.add_assoc]
noncomputable def C14 : Cx := cx [(115, cFullS)] []
theorem C14_ok : CxOK Tryz.prog C14 := cx_ok mixed ⟨full04_ok, trivial⟩ trivial
abbrev ptR14 : Pt := ⟨49, 0, ⟨[(4, .d i64), (0, .d slsT), (3, .d i64)], []⟩, ⟨[], []⟩, ⟨[(2, .d .bool)], []⟩⟩
def frR14 (x : ptR14.M.X) : Fr ptR14.Out :=
 let k : Int := x.1.1; let l : List sliceT.den := x.1.2.1; let e : Int := x.1.2.2.1
 let s : sliceT.den := l.getD k.toNat sliceT.dflt
 let b1 : Bool := bif !(cFullS.f (s.1, ())).1 then true else decide (s.1.1 < e)
 let b2 : Bool := bif b1 then true else decide (s.2.2.2.2.1 < 0)
 Fr.br (decide (k < (l.length : Int)))
  (Fr.need (0 <= k /\ k < (l.length : Int)) (Fr.need (b1 = false -> 0 <= k /\ k < (l.length : Int)) (Fr.need (b2 = false -> 0 <= k /\ k < (l.length : Int))
   (Fr.br (bif b2 then true else decide (s.2.2.2.2.1 > 4000000000000000000)) (Fr.val (Rd.back ((false, ()), ())))
    (Fr.val (Rd.next ((IntKind.i64.wrap (k + 1), l, s.1.2.1, ()), ())))))))
  (Fr.val (Rd.out ((), ())))
theorem semR14 : Does Tryz.prog (loopF Tryz.f82 0) ptR14.M ptR14 frR14 :=
 Does.of_run C14_ok (bs := 0) (Λ := lam0) rfl rfl rfl (fun E => lam0_ok _ 0) (fun x => by kernel_rfl)
structure InvR14 (k : Int) (l : List sliceT.den) (e : Int) : Prop where
 k0 : 0 <= k
 kl : k <= l.length
 big : l.length <= 2000
 e1 : 1 <= e
def FR14 (x : ptR14.M.X) : Fr ptR14.Out :=
 Fr.need (InvR14 x.1.1 x.1.2.1 x.1.2.2.1) (Fr.br (rightE (List.drop (x.1.1 : Int).toNat x.1.2.1) x.1.2.2.1) (Fr.val (Rd.out ((), ()))) (Fr.val (Rd.back ((false, ()), ()))))
theorem full_bits {s : sliceT.den} {e : Int} (he : 1 <= e) : (bif bif bif !(fullS s.1) then true else decide (s.1.1 < e) then true else decide (s.2.2.2.2.1 < 0) then true else decide (s.2.2.2.2.1 > 4000000000000000000)) = !fullSl s e := by
 have key : (bif bif bif !(fullS s.1) then true else decide (s.1.1 < e) then true else decide (s.2.2.2.2.1 < 0) then true else decide (s.2.2.2.2.1 > 4000000000000000000)) = false ↔ fullSl s e = true := by
  rw [fullSl_iff]
  cases hf : fullS s.1 with
  | false =>
   constructor
   ·intro h; cases h
   ·rintro ⟨h1, h2, h3, _⟩
    have : fullS s.1 = true := fullS_iff.2 ⟨Int.le_trans he h1, h2, h3⟩
    rw [hf] at this
    cases this
  | true =>
   obtain ⟨g1, g2, g3⟩ := fullS_iff.1 hf
   show (bif bif decide (s.1.1 < e) then true else decide (s.2.2.2.2.1 < 0) then true else decide (s.2.2.2.2.1 > 4000000000000000000)) = false ↔ _
   constructor
   ·intro h
    by_cases c1 : s.1.1 < e
    ·rw [decide_eq_true c1] at h; cases h
    ·by_cases c2 : s.2.2.2.2.1 < 0
     ·rw [decide_eq_false c1, decide_eq_true c2] at h; cases h
     ·by_cases c3 : s.2.2.2.2.1 > 4000000000000000000
      ·rw [decide_eq_false c1, decide_eq_false c2, decide_eq_true c3] at h; cases h
      ·exact ⟨Int.not_lt.1 c1, g2, g3, Int.not_lt.1 c2, Int.not_lt.1 c3⟩
   ·rintro ⟨h1, _, _, h4, h5⟩
    rw [decide_eq_false (Int.not_lt.2 h1), decide_eq_false (Int.not_lt.2 h4), decide_eq_false (Int.not_lt.2 h5)]
    rfl
 cases hb : fullSl s e with
 | true => exact key.2 hb
 | false =>
  cases hx : (bif bif bif !(fullS s.1) then true else decide (s.1.1 < e) then true else decide (s.2.2.2.2.1 < 0) then true else decide (s.2.2.2.2.1 > 4000000000000000000)) with
  | true => rfl
  | false => rw [key.1 hx] at hb; cases hb
theorem drop_getD {l : List sliceT.den} {k : Nat} (h : k < l.length) : l.drop k = l.getD k sliceT.dflt :: l.drop (k + 1) := by
 rw [List.drop_eq_getElem_cons h, List.getD_eq_getElem?_getD, List.getElem?_eq_getElem h]
 rfl
theorem lawR14 (k : Int) (l : List sliceT.den) (e : Int) (hinv : InvR14 k l e) (Q : ptR14.Out -> Prop) (hq : (Fr.br (rightE (l.drop k.toNat) e) (Fr.val (Rd.out ((), ()))) (Fr.val (Rd.back ((false, ()), ()))) : Fr ptR14.Out).satP Q) : (frR14 ((k, l, e, ()), ())).satP fun
   | .next x' => InvR14 x'.1.1 x'.1.2.1 x'.1.2.2.1 /\ (((List.length (α := sliceT.den) x'.1.2.1 : Nat) : Int) - x'.1.1).toNat < ((l.length : Int) - k).toNat /\ (FR14 x').satP Q
   | .out y => Q (.out y)
   | .back z => Q (.back z)
   | .pan p => Q (.pan p) := by
 obtain ⟨h0, h1, h2, h3⟩ := hinv
 obtain ⟨m, rfl⟩ : ∃ n : Nat, k = n := ⟨k.toNat, by omega⟩
 dsimp only [frR14, Fr.satP]
 simp only [Int.toNat_natCast] at hq ⊢
 refine ⟨fun hi => ?_, fun hi => ?_⟩
 ·have hm : m < l.length := by have : (m : Int) < (l.length : Int) := of_decide_eq_true hi; omega
  have w1 : IntKind.i64.wrap ((m : Int) + 1) = ((m + 1 : Nat) : Int) := by rw [i64w (by omega)]; omega
  have hb : 0 <= (m : Int) /\ (m : Int) < (l.length : Int) := ⟨by omega, by omega⟩
  have hμ : ((l.length : Int) - ((m + 1 : Nat) : Int)).toNat < ((l.length : Int) - (m : Int)).toNat := by omega
  rw [drop_getD hm] at hq
  have hE : rightE (l.getD m sliceT.dflt :: l.drop (m + 1)) e = (fullSl (l.getD m sliceT.dflt) e && rightE (l.drop (m + 1)) (l.getD m sliceT.dflt).1.2.1) := rfl
  rw [hE] at hq
  have hB := full_bits (s := l.getD m sliceT.dflt) h3
  rw [w1]
  refine ⟨hb, fun _ => hb, fun _ => hb, fun ht => ?_, fun ht => ?_⟩
  ·have ht' : fullSl (l.getD m sliceT.dflt) e = false := by
    have : (!fullSl (l.getD m sliceT.dflt) e) = true := hB.symm.trans ht
    simpa using this
   rw [ht'] at hq
   exact hq.2 rfl
  ·have ht' : fullSl (l.getD m sliceT.dflt) e = true := by
    have : (!fullSl (l.getD m sliceT.dflt) e) = false := hB.symm.trans ht
    simpa using this
   rw [ht', Bool.true_and] at hq
   obtain ⟨g1, g2, _⟩ := fullSl_iff.1 ht'
   have hI : InvR14 ((m + 1 : Nat) : Int) l (l.getD m sliceT.dflt).1.2.1 := ⟨by omega, by omega, h2, Int.le_trans h3 (Int.le_trans g1 (Int.le_of_lt g2))⟩
   refine ⟨hI, hμ, hI, ?_⟩
   show (Fr.br (rightE (l.drop ((m + 1 : Nat) : Int).toNat) (l.getD m sliceT.dflt).1.2.1) (Fr.val (Rd.out ((), ()))) (Fr.val (Rd.back ((false, ()), ()))) : Fr ptR14.Out).satP Q
   rw [Int.toNat_natCast]
   exact hq
 ·have hm : ¬ (m : Int) < (l.length : Int) := of_decide_eq_false hi
  rw [List.drop_of_length_le (by omega)] at hq
  exact hq.1 rfl
theorem loopR14 : Does Tryz.prog (.loop (loopF Tryz.f82 0)) ptR14.M ptR14 FR14 := by
 refine Does.loop (n := 49) (id := 0) semR14 (inv := fun x => InvR14 x.1.1 x.1.2.1 x.1.2.2.1) (μ := fun x => (((List.length (α := sliceT.den) x.1.2.1 : Nat) : Int) - x.1.1).toNat) ?_ (fun x Q h => h.1)
 rintro ⟨⟨k, l, e, _⟩, _⟩ hinv Q hq
 exact lawR14 k l e hinv Q hq.2
theorem br_bool (b : Bool) : (Fr.br b (Fr.val (true, ())) (Fr.val (false, ())) : Fr (denL [.bool])).ok /\ (Fr.br b (Fr.val (true, ())) (Fr.val (false, ())) : Fr (denL [.bool])).get = (b, ()) := by
 cases b with
 | true => exact Fr.br_t rfl ⟨trivial, rfl⟩
 | false => exact Fr.br_f rfl ⟨trivial, rfl⟩
def cRight14 : Ct := ⟨[.d slsT], [.bool], fun x => (right14 x.1, ()), fun _ => []⟩
theorem right14_ok : SoundCt Tryz.prog 82 cRight14 :=
 convF (fn_sound C14_ok (Λ := fun _ => ptR14.han C14.Γ ptR14.M FR14) (fn := Tryz.f82) (ps := [.d slsT]) (rs := [.bool])
  (fr := fun x => Fr.br (decide (((List.length (α := sliceT.den) x.1 : Nat) : Int) > 2000)) (Fr.val (false, ())) (Fr.need (InvR14 0 x.1 1) (Fr.br (rightE (List.drop (0 : Int).toNat x.1) 1) (Fr.val (true, ())) (Fr.val (false, ()))))) ([], ()) (by kernel_rfl)
  (fun c E hc => lam1f hc (by kernel_rfl) (b := loopF Tryz.f82 0) (by kernel_rfl) (Does.han C14_ok rfl loopR14)) (fun x => by kernel_rfl)) _ _ (fun _ _ x _ _ _ => by
   obtain ⟨l, _⟩ := x
   show _ /\ _ = (right14 l, ())
   unfold right14
   by_cases h : List.length (α := sliceT.den) l <= 2000
   ·rw [decide_eq_true h, Bool.true_and]
    refine Fr.br_f (decide_eq_false (by show ¬ ((List.length (α := sliceT.den) l : Nat) : Int) > 2000; omega)) (Fr.need_ ⟨Int.le_refl _, Int.natCast_nonneg _, h, Int.le_refl _⟩ ?_)
    exact br_bool (rightE l 1)
   ·rw [decide_eq_false h]
    exact Fr.br_t (decide_eq_true (by show ((List.length (α := sliceT.den) l : Nat) : Int) > 2000; omega)) ⟨trivial, rfl⟩)
abbrev ptU14 : Pt := ⟨66, 0, ⟨[(8, .d i64), (0, .d slsT), (1, .d i64), (7, .d i64)], []⟩, ⟨[(7, .d i64)], []⟩, ⟨[(4, .d i64), (5, .d i64)], []⟩⟩
def frU14 (x : ptU14.M.X) : Fr ptU14.Out :=
 let k : Int := x.1.1; let l : List sliceT.den := x.1.2.1; let d : Int := x.1.2.2.1; let sum : Int := x.1.2.2.2.1
 let s : sliceT.den := l.getD k.toNat sliceT.dflt
 let n : Int := IntKind.i64.wrap (N14 d s)
 Fr.br (decide (k < (l.length : Int)))
  (Fr.need (0 <= k /\ k < (l.length : Int)) (Fr.need (0 <= k /\ k < (l.length : Int))
   (Fr.br (decide (n <= 0)) (Fr.val (Rd.next ((IntKind.i64.wrap (k + 1), l, d, sum, ()), ())))
    (Fr.need (0 <= k /\ k < (l.length : Int)) (Fr.need (n ≠ 0)
     (Fr.br (decide (s.2.2.2.2.1 > IntKind.i64.wrap ((IntKind.i64.wrap (4000000000000000000 - sum)).tdiv n))) (Fr.val (Rd.back ((0, 5, ()), ())))
      (Fr.need (0 <= k /\ k < (l.length : Int)) (Fr.val (Rd.next ((IntKind.i64.wrap (k + 1), l, d, IntKind.i64.wrap (sum + IntKind.i64.wrap (n * s.2.2.2.2.1)), ()), ()))))))))))
  (Fr.val (Rd.out ((sum, ()), ())))
theorem semU14 : Does Tryz.prog (loopF Tryz.f84 0) ptU14.M ptU14 frU14 :=
 Does.of_run C14_ok (bs := 0) (Λ := lam0) rfl rfl rfl (fun E => lam0_ok _ 0) (fun x => by kernel_rfl)
structure InvU14 (k : Int) (l : List sliceT.den) (d sum : Int) : Prop where
 k0 : 0 <= k
 kl : k <= l.length
 big : l.length <= 2000
 e1 : ∃ e, 1 <= e /\ rightE (l.drop k.toNat) e = true
 s0 : 0 <= sum /\ sum <= 4000000000000000000
def outU14 (o : Option Int) : Fr ptU14.Out := Fr.br o.isSome (Fr.val (Rd.out ((o.getD 0, ()), ()))) (Fr.val (Rd.back ((0, 5, ()), ())))
def FU14 (x : ptU14.M.X) : Fr ptU14.Out :=
 Fr.need (InvU14 x.1.1 x.1.2.1 x.1.2.2.1 x.1.2.2.2.1) (outU14 (goU x.1.2.2.1 (List.drop (x.1.1 : Int).toNat x.1.2.1) x.1.2.2.2.1))
theorem n14_in {d : Int} {s : sliceT.den} {e : Int} (he : 1 <= e) (h : fullSl s e = true) : -292195 <= N14 d s /\ N14 d s <= 292195 := by
 obtain ⟨h1, h2, h3, _⟩ := fullSl_iff.1 h
 have a1 : 1 <= s.1.1 := Int.le_trans he h1
 have a2 : s.1.1 <= 292195 := Int.le_trans (Int.le_of_lt h2) h3
 have a3 : 1 <= s.1.2.1 := Int.le_trans a1 (Int.le_of_lt h2)
 have key : ∀ D f t : Int, 1 <= D -> 1 <= f -> f <= 292195 -> 1 <= t -> t <= 292195 -> -292195 <= (if D < t then D else t) - f /\ (if D < t then D else t) - f <= 292195 := by
  intro D f t q1 q2 q3 q4 q5
  split <;> omega
 exact key _ _ _ (by unfold D14; split <;> omega) a1 a2 a3 h3
theorem lawU14 (k : Int) (l : List sliceT.den) (d sum : Int) (hinv : InvU14 k l d sum) (Q : ptU14.Out -> Prop) (hq : (outU14 (goU d (l.drop k.toNat) sum)).satP Q) : (frU14 ((k, l, d, sum, ()), ())).satP fun
   | .next x' => InvU14 x'.1.1 x'.1.2.1 x'.1.2.2.1 x'.1.2.2.2.1 /\ (((List.length (α := sliceT.den) x'.1.2.1 : Nat) : Int) - x'.1.1).toNat < ((l.length : Int) - k).toNat /\ (FU14 x').satP Q
   | .out y => Q (.out y)
   | .back z => Q (.back z)
   | .pan p => Q (.pan p) := by
 obtain ⟨h0, h1, h2, ⟨e, he, h3⟩, h4⟩ := hinv
 obtain ⟨m, rfl⟩ : ∃ n : Nat, k = n := ⟨k.toNat, by omega⟩
 dsimp only [frU14, Fr.satP]
 simp only [Int.toNat_natCast] at hq h3 ⊢
 refine ⟨fun hi => ?_, fun hi => ?_⟩
 ·have hm : m < l.length := by have : (m : Int) < (l.length : Int) := of_decide_eq_true hi; omega
  have w1 : IntKind.i64.wrap ((m : Int) + 1) = ((m + 1 : Nat) : Int) := by rw [i64w (by omega)]; omega
  have hb : 0 <= (m : Int) /\ (m : Int) < (l.length : Int) := ⟨by omega, by omega⟩
  have hμ : ((l.length : Int) - ((m + 1 : Nat) : Int)).toNat < ((l.length : Int) - (m : Int)).toNat := by omega
  rw [drop_getD hm] at hq h3
  unfold rightE at h3
  rw [Bool.and_eq_true] at h3
  obtain ⟨g1, g2, g3, g4, g5⟩ := fullSl_iff.1 h3.1
  have hN := n14_in (d := d) he h3.1
  have wN : IntKind.i64.wrap (N14 d (l.getD m sliceT.dflt)) = N14 d (l.getD m sliceT.dflt) := i64w (by omega)
  have wS : IntKind.i64.wrap (4000000000000000000 - sum) = 4000000000000000000 - sum := i64w (by omega)
  have hto : 1 <= (l.getD m sliceT.dflt).1.2.1 := Int.le_trans he (Int.le_trans g1 (Int.le_of_lt g2))
  have hgo : goU d (l.getD m sliceT.dflt :: l.drop (m + 1)) sum = if N14 d (l.getD m sliceT.dflt) <= 0 then goU d (l.drop (m + 1)) sum else if (4000000000000000000 - sum).tdiv (N14 d (l.getD m sliceT.dflt)) < (l.getD m sliceT.dflt).2.2.2.2.1 then none else goU d (l.drop (m + 1)) (sum + N14 d (l.getD m sliceT.dflt) * (l.getD m sliceT.dflt).2.2.2.2.1) := rfl
  rw [hgo] at hq
  simp only [w1, wN, wS]
  refine ⟨hb, hb, fun hn => ?_, fun hn => ⟨hb, ?_, fun hov => ?_, fun hov => ⟨hb, ?_⟩⟩⟩
  ·have hn' : N14 d (l.getD m sliceT.dflt) <= 0 := of_decide_eq_true hn
   rw [if_pos hn'] at hq
   have hI : InvU14 ((m + 1 : Nat) : Int) l d sum := ⟨by omega, by omega, h2, ⟨_, hto, by rw [Int.toNat_natCast]; exact h3.2⟩, h4⟩
   refine ⟨hI, hμ, hI, ?_⟩
   show (outU14 (goU d (l.drop ((m + 1 : Nat) : Int).toNat) sum)).satP Q
   rw [Int.toNat_natCast]
   exact hq
  ·have hn' : ¬ N14 d (l.getD m sliceT.dflt) <= 0 := of_decide_eq_false hn
   omega
  ·have hn' : ¬ N14 d (l.getD m sliceT.dflt) <= 0 := of_decide_eq_false hn
   have hdv : 0 <= (4000000000000000000 - sum).tdiv (N14 d (l.getD m sliceT.dflt)) /\ (4000000000000000000 - sum).tdiv (N14 d (l.getD m sliceT.dflt)) <= 4000000000000000000 := by
    rw [Int.tdiv_eq_ediv_of_nonneg (by omega)]
    exact ⟨Int.ediv_nonneg (by omega) (by omega), Int.le_trans (Int.ediv_le_self _ (by omega)) (by omega)⟩
   have hov' : (l.getD m sliceT.dflt).2.2.2.2.1 > IntKind.i64.wrap ((4000000000000000000 - sum).tdiv (N14 d (l.getD m sliceT.dflt))) := of_decide_eq_true hov
   rw [i64w (by omega)] at hov'
   rw [if_neg hn', if_pos hov'] at hq
   exact hq.2 rfl
  ·have hn' : ¬ N14 d (l.getD m sliceT.dflt) <= 0 := of_decide_eq_false hn
   have hdv : 0 <= (4000000000000000000 - sum).tdiv (N14 d (l.getD m sliceT.dflt)) /\ (4000000000000000000 - sum).tdiv (N14 d (l.getD m sliceT.dflt)) <= 4000000000000000000 := by
    rw [Int.tdiv_eq_ediv_of_nonneg (by omega)]
    exact ⟨Int.ediv_nonneg (by omega) (by omega), Int.le_trans (Int.ediv_le_self _ (by omega)) (by omega)⟩
   have hov' : ¬ (l.getD m sliceT.dflt).2.2.2.2.1 > IntKind.i64.wrap ((4000000000000000000 - sum).tdiv (N14 d (l.getD m sliceT.dflt))) := of_decide_eq_false hov
   rw [i64w (by omega)] at hov'
   have hov2 : ¬ (4000000000000000000 - sum).tdiv (N14 d (l.getD m sliceT.dflt)) < (l.getD m sliceT.dflt).2.2.2.2.1 := hov'
   rw [if_neg hn', if_neg hov2] at hq
   rw [div_lt (by omega) (by omega)] at hov2
   have hmn : 0 <= N14 d (l.getD m sliceT.dflt) * (l.getD m sliceT.dflt).2.2.2.2.1 := Int.mul_nonneg (by omega) g4
   have wM : IntKind.i64.wrap (N14 d (l.getD m sliceT.dflt) * (l.getD m sliceT.dflt).2.2.2.2.1) = N14 d (l.getD m sliceT.dflt) * (l.getD m sliceT.dflt).2.2.2.2.1 := i64w (by omega)
   have wT : IntKind.i64.wrap (sum + N14 d (l.getD m sliceT.dflt) * (l.getD m sliceT.dflt).2.2.2.2.1) = sum + N14 d (l.getD m sliceT.dflt) * (l.getD m sliceT.dflt).2.2.2.2.1 := i64w (by omega)
   rw [wM, wT]
   have hI : InvU14 ((m + 1 : Nat) : Int) l d (sum + N14 d (l.getD m sliceT.dflt) * (l.getD m sliceT.dflt).2.2.2.2.1) := ⟨by omega, by omega, h2, ⟨_, hto, by rw [Int.toNat_natCast]; exact h3.2⟩, by omega⟩
   refine ⟨hI, hμ, hI, ?_⟩
   show (outU14 (goU d (l.drop ((m + 1 : Nat) : Int).toNat) (sum + N14 d (l.getD m sliceT.dflt) * (l.getD m sliceT.dflt).2.2.2.2.1))).satP Q
   rw [Int.toNat_natCast]
   exact hq
 ·have hm : ¬ (m : Int) < (l.length : Int) := of_decide_eq_false hi
  rw [List.drop_of_length_le (by omega)] at hq
  exact hq.1 rfl
theorem loopU14 : Does Tryz.prog (.loop (loopF Tryz.f84 0)) ptU14.M ptU14 FU14 := by
 refine Does.loop (n := 66) (id := 0) semU14 (inv := fun x => InvU14 x.1.1 x.1.2.1 x.1.2.2.1 x.1.2.2.2.1) (μ := fun x => (((List.length (α := sliceT.den) x.1.2.1 : Nat) : Int) - x.1.1).toNat) ?_ (fun x Q h => h.1)
 rintro ⟨⟨k, l, d, sum, _⟩, _⟩ hinv Q hq
 exact lawU14 k l d sum hinv Q hq.2
noncomputable def C14b : Cx := cx [(82, cRight14)] []
theorem C14b_ok : CxOK Tryz.prog C14b := cx_ok mixed ⟨right14_ok, trivial⟩ trivial
def frUp2 (s : Int) : Fr (denL [i64, i64]) :=
 Fr.need ((365 : Int) ≠ 0) (Fr.need ((365 : Int) ≠ 0)
  (Fr.br (decide (s.tmod 365 > 182)) (Fr.val (IntKind.i64.wrap (IntKind.i64.wrap (s.tdiv 365) + 1), 0, ())) (Fr.val (IntKind.i64.wrap (s.tdiv 365), 0, ()))))
def frUp14 (x : denP [.d slsT, .d i64]) : Fr (denL [i64, i64]) :=
 let o : Option Int := goU x.2.1 (List.drop (0 : Int).toNat x.1) 0
 Fr.br (!(cRight14.f (x.1, ())).1) (Fr.val (0, 1, ()))
  (Fr.need (InvU14 0 x.1 x.2.1 0) (Fr.br o.isSome (frUp2 (o.getD 0)) (Fr.val (0, 5, ()))))
theorem up14_run : SoundCt Tryz.prog 84 ⟨[.d slsT, .d i64], [i64, i64], fun xs => (frUp14 xs).get, fun xs => [(frUp14 xs).ok]⟩ :=
 fn_sound C14b_ok (Λ := fun _ => ptU14.han C14b.Γ ptU14.M FU14) (fn := Tryz.f84) (fr := frUp14) (ps := [.d slsT, .d i64]) (rs := [i64, i64]) ([], 0, ()) (by kernel_rfl)
  (fun c E hc => lam1f hc (by kernel_rfl) (b := loopF Tryz.f84 0) (by kernel_rfl) (Does.han C14b_ok rfl loopU14)) (fun x => by kernel_rfl)
theorem round_eq {s : Int} (h : 0 <= s /\ s <= 4000000000000000000) : (frUp2 s).ok /\ (frUp2 s).get = ((s + 182) / 365, 0, ()) := by
 have e1 : s.tdiv 365 = s / 365 := Int.tdiv_eq_ediv_of_nonneg h.1
 have e2 : s.tmod 365 = s % 365 := Int.tmod_eq_emod_of_nonneg h.1
 refine Fr.need_ (by decide) (Fr.need_ (by decide) ?_)
 by_cases c : s % 365 > 182
 ·refine Fr.br_t (decide_eq_true (by rw [e2]; exact c)) ⟨trivial, ?_⟩
  show (IntKind.i64.wrap (IntKind.i64.wrap (s.tdiv 365) + 1), (0 : Int), ()) = _
  rw [e1, i64w (show -9223372036854775808 <= s / 365 /\ s / 365 <= 9223372036854775807 by omega), i64w (by omega)]
  congr 1
  omega
 ·refine Fr.br_f (decide_eq_false (by rw [e2]; exact c)) ⟨trivial, ?_⟩
  show (IntKind.i64.wrap (s.tdiv 365), (0 : Int), ()) = _
  rw [e1, i64w (by omega)]
  congr 1
  omega
theorem upto14_ok : SoundCt Tryz.prog 84 cUptoF :=
 convF up14_run _ _ (fun _ _ x _ _ _ => by
  obtain ⟨l, d, _⟩ := x
  show _ /\ _ = ((UptoF l d).1, (UptoF l d).2, ())
  have hr := right14_curve l
  unfold UptoF
  cases hc : (curveO l).isNone with
  | true =>
   rw [hc] at hr
   rw [if_pos rfl]
   exact Fr.br_t (by show (!(right14 l)) = true; rw [hr]; rfl) ⟨trivial, rfl⟩
  | false =>
   rw [hc] at hr
   have hp := curve_pos hc
   have hrE : rightE l 1 = true /\ l.length <= 2000 := by
    have : right14 l = true := hr
    unfold right14 at this
    rw [Bool.and_eq_true] at this
    exact ⟨this.2, of_decide_eq_true this.1⟩
   rw [if_neg (by decide)]
   refine Fr.br_f (by show (!(right14 l)) = false; rw [hr]; rfl) (Fr.need_ ⟨Int.le_refl _, Int.natCast_nonneg _, hrE.2, ⟨1, Int.le_refl _, hrE.1⟩, by decide⟩ ?_)
   have hd : List.drop (0 : Int).toNat l = l := rfl
   have hg := goU_eq d l 1 hrE.1 0 (by decide)
   have hs := Sd_sumU hc d
   have hn := Sd_nonneg hp d
   rw [Int.zero_add, ← hs] at hg
   rw [uptoO_days hp]
   by_cases c : Sd (curveF l) d <= 4000000000000000000
   ·rw [if_pos c] at hg ⊢
    refine Fr.br_t (by rw [hd, hg]; rfl) ?_
    rw [hd, hg]
    exact round_eq ⟨hn, c⟩
   ·rw [if_neg c] at hg ⊢
    refine Fr.br_f (by rw [hd, hg]; rfl) ⟨trivial, rfl⟩)
noncomputable def C14c : Cx := cx [(82, cRight14), (84, cUptoF), (83, cRightS)] []
theorem C14c_ok : CxOK Tryz.prog C14c := cx_ok mixed ⟨right14_ok, upto14_ok, right03_ok, trivial⟩ trivial
theorem written14_ok : SoundCt Tryz.prog 50 cWritten :=
 convF (fn_sound C14c_ok (Λ := lam0) (fn := Tryz.f50) (fr := fun x => Fr.val ((cUptoF.f (x.1, 292195, ())).1, (cUptoF.f (x.1, 292195, ())).2.1, ())) (ps := [.d slsT]) (rs := [i64, i64]) ([], ()) (by kernel_rfl) (fun c E _ => lam0_ok c 0) (fun x => by kernel_rfl)) _ _
  (fun _ _ _ _ _ _ => ⟨trivial, rfl⟩)
def frBe14 (x : denP [.d slsT, .d spanT]) : Fr (denL [i64, i64]) :=
 let l : List sliceT.den := x.1; let s : spanT.den := x.2.1
 let b : denL [i64, i64] := cUptoF.f (l, s.2.1, ()); let a : denL [i64, i64] := cUptoF.f (l, s.1, ())
 Fr.br (!(cRight14.f (l, ())).1) (Fr.val (0, 1, ()))
  (Fr.br (!(cRightS.f (s, ())).1) (Fr.val (0, 1, ()))
   (Fr.br (b.2.1 != 0) (Fr.val (0, b.2.1, ())) (Fr.val (IntKind.i64.wrap (b.1 - a.1), a.2.1, ()))))
theorem be14_run : SoundCt Tryz.prog 49 ⟨[.d slsT, .d spanT], [i64, i64], fun xs => (frBe14 xs).get, fun xs => [(frBe14 xs).ok]⟩ :=
 fn_sound C14c_ok (Λ := lam0) (fn := Tryz.f49) (fr := frBe14) (ps := [.d slsT, .d spanT]) (rs := [i64, i64]) ([], (0, 0, ()), ()) (by kernel_rfl) (fun c E _ => lam0_ok c 0) (fun x => by kernel_rfl)
theorem between14_ok : SoundCt Tryz.prog 49 cBetwG :=
 convF be14_run _ _ (fun _ _ x _ _ _ => by
  obtain ⟨l, s, _⟩ := x
  show _ /\ _ = ((BetwG l s).1, (BetwG l s).2, ())
  have hr := right14_curve l
  unfold BetwG
  cases hc : (curveO l).isNone with
  | true =>
   rw [hc] at hr
   rw [if_pos (.inl rfl)]
   exact Fr.br_t (by show (!(right14 l)) = true; rw [hr]; rfl) ⟨trivial, rfl⟩
  | false =>
   rw [hc] at hr
   have hp := curve_pos hc
   have hU : ∀ d, UptoF l d = uptoO (curveF l) d := fun d => if_neg (by rw [hc]; decide)
   refine Fr.br_f (by show (!(right14 l)) = false; rw [hr]; rfl) ?_
   cases hs : rightS s with
   | false =>
    rw [if_pos (.inr rfl)]
    exact Fr.br_t (by show (!(rightS s)) = true; rw [hs]; rfl) ⟨trivial, rfl⟩
   | true =>
    rw [if_neg (fun h => h.elim (fun h => by cases h) (fun h => by cases h))]
    refine Fr.br_f (by show (!(rightS s)) = false; rw [hs]; rfl) ?_
    have hab : s.1 <= s.2.1 := by
     unfold rightS at hs
     simp only [Bool.and_eq_true, decide_eq_true_eq] at hs
     first | exact hs.1.2 | exact hs.2.1
    have hm := Sd_mono hp hab
    by_cases c : (uptoO (curveF l) s.2.1).2 = 0
    ·have ca : (uptoO (curveF l) s.1).2 = 0 := by
      rw [uptoO_days hp] at c ⊢
      by_cases q : Sd (curveF l) s.2.1 <= 4000000000000000000
      ·rw [if_pos (Int.le_trans hm q)]
      ·rw [if_neg q] at c
       cases c
     rw [if_neg (fun h => h c), if_neg (fun h => h ca)]
     refine Fr.br_f (by show ((UptoF l s.2.1).2 != 0) = false; rw [hU, c]; rfl) ⟨trivial, ?_⟩
     show (IntKind.i64.wrap ((UptoF l s.2.1).1 - (UptoF l s.1).1), (UptoF l s.1).2, ()) = _
     rw [hU, hU, ca, i64w (betw_in (uptoO_val (curveF l) s.2.1) (uptoO_val (curveF l) s.1))]
    ·rw [if_pos c]
     refine Fr.br_t (by show ((UptoF l s.2.1).2 != 0) = true; rw [hU]; simp [c]) ⟨trivial, ?_⟩
     show ((0 : Int), (UptoF l s.2.1).2, ()) = _
     rw [hU])
noncomputable def CT2 : Cx := cx [] []
theorem CT2_ok : CxOK Tryz.prog CT2 := cx_ok (cs := []) (ps := []) mixed trivial trivial
def MT2 : LS := ⟨[(0, .d i64), (9, .d u64), (10, .d u64), (11, .d u64), (12, .d u64), (13, .d u64), (14, .d i64)], []⟩
def ptT2 : Pt := ⟨66, 0, MT2, ⟨[(9, .d u64), (10, .d u64)], []⟩, ⟨[(6, .d i64), (7, .d i64), (8, .d .bool)], []⟩⟩
abbrev wU2 (n : Int) : Int := IntKind.u64.wrap n
def jT (a by_ wh re k q l : Int) : Fr ptT2.Out :=
 Fr.br (decide (q > 4000000000000000000)) (Fr.val (Rd.back ((0, 0, false, ()), ()))) (Fr.val (Rd.next ((a, q, l, by_, wh, re, IntKind.i64.wrap (k - 1), ()), ())))
def kT (a by_ wh re k q l : Int) : Fr ptT2.Out :=
 Fr.need (¬ k < 0) (Fr.need ((2 : Int) ≠ 0)
  (Fr.br ((a.fdiv (2 ^ min k.toNat IntKind.i64.bits)).tmod 2 == 1)
   (Fr.br (decide (wU2 (l + re) ≥ by_)) (jT a by_ wh re k (wU2 (wU2 (q + wh) + 1)) (wU2 (wU2 (l + re) - by_))) (jT a by_ wh re k (wU2 (q + wh)) (wU2 (l + re))))
   (jT a by_ wh re k q l)))
def fT2 (x : MT2.X) : Fr ptT2.Out :=
 let a : Int := x.1.1; let q : Int := x.1.2.1; let l : Int := x.1.2.2.1; let by_ : Int := x.1.2.2.2.1; let wh : Int := x.1.2.2.2.2.1; let re : Int := x.1.2.2.2.2.2.1; let k : Int := x.1.2.2.2.2.2.2.1
 Fr.br (decide (k ≥ 0))
  (Fr.br (decide (wU2 (2 * l) ≥ by_)) (kT a by_ wh re k (wU2 (wU2 (2 * q) + 1)) (wU2 (wU2 (2 * l) - by_))) (kT a by_ wh re k (wU2 (2 * q)) (wU2 (2 * l))))
  (Fr.val (Rd.out ((q, l, ()), ())))
theorem semT2 : Does Tryz.prog (loopF Tryz.f99 0) MT2 ptT2 fT2 := Does.of_run CT2_ok (bs := 0) rfl rfl rfl (fun _ => lam0_ok _ 0) (fun x => by kernel_rfl)
structure InvT (a q l by_ wh re k : Int) : Prop where
 a0 : 0 <= a /\ a <= 9223372036854775807
 c0 : 0 < by_ /\ by_ <= 9223372036854775807
 w0 : 0 <= wh /\ wh <= 9223372036854775807
 r0 : 0 <= re /\ re < by_
 k0 : -1 <= k /\ k <= 62
 l0 : 0 <= l /\ l < by_
 q0 : 0 <= q /\ q <= 4000000000000000000
 eq : q * by_ + l = (a / 2 ^ (k + 1).toNat) * (wh * by_ + re)
def twoF (a b c : Int) : Int × Int × Bool := if a * b / c > 4000000000000000000 then (0, 0, false) else (a * b / c, a * b % c, true)
def FT2 (x : MT2.X) : Fr ptT2.Out :=
 let a : Int := x.1.1; let q : Int := x.1.2.1; let l : Int := x.1.2.2.1; let by_ : Int := x.1.2.2.2.1; let wh : Int := x.1.2.2.2.2.1; let re : Int := x.1.2.2.2.2.2.1; let k : Int := x.1.2.2.2.2.2.2.1
 Fr.need (InvT a q l by_ wh re k) (Fr.br (decide (a * (wh * by_ + re) / by_ > 4000000000000000000)) (Fr.val (Rd.back ((0, 0, false, ()), ()))) (Fr.val (Rd.out ((a * (wh * by_ + re) / by_, a * (wh * by_ + re) % by_, ()), ()))))
theorem half_pow {a : Int} (ha : 0 <= a) (n : Nat) : a / 2 ^ n = 2 * (a / 2 ^ (n + 1)) + (a / 2 ^ n) % 2 := by
 have : a / 2 ^ (n + 1) = a / 2 ^ n / 2 := by
  rw [Int.pow_succ, Int.ediv_ediv_of_nonneg (by exact Int.pow_nonneg (by decide))]
 rw [this]
 omega
theorem div_uniq {p c q l : Int} (hc : 0 < c) (h : q * c + l = p) (hl : 0 <= l /\ l < c) : p / c = q /\ p % c = l := by
 subst h
 constructor
 ·rw [Int.add_comm, Int.add_mul_ediv_right _ _ (by omega), Int.ediv_eq_zero_of_lt hl.1 hl.2]
  omega
 ·rw [Int.add_comm, Int.add_mul_emod_self_right]
  exact Int.emod_eq_of_lt hl.1 hl.2
theorem two_step {q l c wh re m A bit q1 l1 : Int} (hm : m = 2 * A + bit) (heq : q * c + l = A * (wh * c + re)) (h1 : (l1 = 2 * l /\ q1 = 2 * q) ∨ (l1 = 2 * l - c /\ q1 = 2 * q + 1)) :
  (bit = 0 -> q1 * c + l1 = m * (wh * c + re)) /\ (bit = 1 -> (q1 + wh) * c + (l1 + re) = m * (wh * c + re) /\ (q1 + wh + 1) * c + (l1 + re - c) = m * (wh * c + re)) := by
 subst hm
 have e : q1 * c + l1 = 2 * (q * c + l) := by
  rcases h1 with ⟨rfl, rfl⟩ | ⟨rfl, rfl⟩ <;> grind
 rw [heq] at e
 refine ⟨fun hb => ?_, fun hb => ⟨?_, ?_⟩⟩
 ·subst hb
  grind
 ·subst hb
  grind
 ·subst hb
  grind
def PhiT (Q : ptT2.Out -> Prop) (k : Int) : Rd MT2.X ptT2.E.X ptT2.R.X -> Prop
 | .next x' => InvT x'.1.1 x'.1.2.1 x'.1.2.2.1 x'.1.2.2.2.1 x'.1.2.2.2.2.1 x'.1.2.2.2.2.2.1 x'.1.2.2.2.2.2.2.1 /\ ((x'.1.2.2.2.2.2.2.1 : Int) + 1).toNat < (k + 1).toNat /\ (FT2 x').satP Q
 | .out y => Q (.out y)
 | .back z => Q (.back z)
 | .pan p => Q (.pan p)
theorem jT_sat {a q l c wh re k : Int} {Q : ptT2.Out -> Prop} (ha : 0 <= a /\ a <= 9223372036854775807) (hc : 0 < c /\ c <= 9223372036854775807) (hw : 0 <= wh /\ wh <= 9223372036854775807) (hr : 0 <= re /\ re < c) (hk : 0 <= k /\ k <= 62) (hl : 0 <= l /\ l < c) (hq : 0 <= q)
  (heq : q * c + l = (a / 2 ^ k.toNat) * (wh * c + re)) (hQ : (Fr.br (decide (a * (wh * c + re) / c > 4000000000000000000)) (Fr.val (Rd.back ((0, 0, false, ()), ()))) (Fr.val (Rd.out ((a * (wh * c + re) / c, a * (wh * c + re) % c, ()), ()))) : Fr ptT2.Out).satP Q) :
  (jT a c wh re k q l).satP (PhiT Q k) := by
 have w : IntKind.i64.wrap (k - 1) = k - 1 := IntWalk.i64_in _ (by omega)
 have hB : 0 <= wh * c + re := Int.add_nonneg (Int.mul_nonneg hw.1 (Int.le_of_lt hc.1)) hr.1
 have hm : a / 2 ^ k.toNat <= a := Int.ediv_le_self _ ha.1
 have hp : (a / 2 ^ k.toNat) * (wh * c + re) <= a * (wh * c + re) := Int.mul_le_mul_of_nonneg_right hm hB
 unfold jT
 rw [w]
 refine ⟨fun h => ?_, fun h => ?_⟩
 ·have h' : q > 4000000000000000000 := of_decide_eq_true h
  have hge : q <= a * (wh * c + re) / c := by
   rw [Int.le_ediv_iff_mul_le hc.1]
   omega
  exact hQ.1 (decide_eq_true (by omega))
 ·have h' : q <= 4000000000000000000 := Int.not_lt.1 (of_decide_eq_false h)
  have hk1 : (k - 1 + 1).toNat = k.toNat := by omega
  have hI : InvT a q l c wh re (k - 1) := ⟨ha, hc, hw, hr, by omega, hl, ⟨hq, h'⟩, by rw [hk1]; exact heq⟩
  exact ⟨hI, (by show (k - 1 + 1).toNat < (k + 1).toNat; omega), hI, hQ⟩
theorem kT_sat {a q l c wh re k q1 l1 : Int} {Q : ptT2.Out -> Prop} (hinv : InvT a q l c wh re k) (hk : 0 <= k) (h1 : (l1 = 2 * l /\ q1 = 2 * q) ∨ (l1 = 2 * l - c /\ q1 = 2 * q + 1)) (hl1 : 0 <= l1 /\ l1 < c)
  (hQ : (Fr.br (decide (a * (wh * c + re) / c > 4000000000000000000)) (Fr.val (Rd.back ((0, 0, false, ()), ()))) (Fr.val (Rd.out ((a * (wh * c + re) / c, a * (wh * c + re) % c, ()), ()))) : Fr ptT2.Out).satP Q) :
  (kT a c wh re k q1 l1).satP (PhiT Q k) := by
 obtain ⟨ha, hc, hw, hr, hk0, hl, hq, heq⟩ := hinv
 have hq1 : 0 <= q1 /\ q1 <= 8000000000000000001 := by omega
 have hmin : min k.toNat IntKind.i64.bits = k.toNat := by
  have : IntKind.i64.bits = 64 := rfl
  omega
 have hm0 : 0 <= a / 2 ^ k.toNat := Int.ediv_nonneg ha.1 (Int.pow_nonneg (by decide))
 have hshr : (a.fdiv (2 ^ min k.toNat IntKind.i64.bits)).tmod 2 = (a / 2 ^ k.toNat) % 2 := by
  rw [hmin, Int.fdiv_eq_ediv_of_nonneg _ (Int.pow_nonneg (by decide)), Int.tmod_eq_emod_of_nonneg hm0]
 have hkk : (k + 1).toNat = k.toNat + 1 := by omega
 rw [hkk] at heq
 have hhalf := half_pow ha.1 k.toNat
 obtain ⟨s0, s1⟩ := two_step (m := a / 2 ^ k.toNat) (bit := (a / 2 ^ k.toNat) % 2) hhalf heq h1
 unfold kT
 rw [hshr]
 refine ⟨by omega, by decide, fun hb => ?_, fun hb => ?_⟩
 ·have hb' : (a / 2 ^ k.toNat) % 2 = 1 := eq_of_beq (α := Int) hb
  obtain ⟨t1, t2⟩ := s1 hb'
  have e1 : wU2 (l1 + re) = l1 + re := u64w (by omega)
  have e2 : wU2 (q1 + wh) = q1 + wh := u64w (by omega)
  have e3 : wU2 (q1 + wh + 1) = q1 + wh + 1 := u64w (by omega)
  rw [e1, e2, e3]
  refine ⟨fun hg => ?_, fun hg => ?_⟩
  ·have hg' : l1 + re ≥ c := of_decide_eq_true hg
   have e4 : wU2 (l1 + re - c) = l1 + re - c := u64w (by omega)
   rw [e4]
   exact jT_sat ha hc hw hr ⟨hk, hk0.2⟩ (by omega) (by omega) t2 hQ
  ·have hg' : l1 + re < c := Int.not_le.1 (of_decide_eq_false hg)
   exact jT_sat ha hc hw hr ⟨hk, hk0.2⟩ (by omega) (by omega) t1 hQ
 ·have hb' : ¬ (a / 2 ^ k.toNat) % 2 = 1 := ne_of_beq_false (α := Int) hb
  exact jT_sat ha hc hw hr ⟨hk, hk0.2⟩ hl1 hq1.1 (s0 (by omega)) hQ
theorem lawT2 {a q l c wh re k : Int} (hinv : InvT a q l c wh re k) (Q : ptT2.Out -> Prop)
  (hQ : (Fr.br (decide (a * (wh * c + re) / c > 4000000000000000000)) (Fr.val (Rd.back ((0, 0, false, ()), ()))) (Fr.val (Rd.out ((a * (wh * c + re) / c, a * (wh * c + re) % c, ()), ()))) : Fr ptT2.Out).satP Q) :
  (fT2 ((a, q, l, c, wh, re, k, ()), ())).satP (PhiT Q k) := by
 have hi := hinv
 obtain ⟨ha, hc, hw, hr, hk0, hl, hq, heq⟩ := hinv
 have e1 : wU2 (2 * l) = 2 * l := u64w (by omega)
 have e2 : wU2 (2 * q) = 2 * q := u64w (by omega)
 have e3 : wU2 (2 * q + 1) = 2 * q + 1 := u64w (by omega)
 dsimp only [fT2]
 rw [e1, e2, e3]
 refine ⟨fun hk => ?_, fun hk => ?_⟩
 ·have hk' : k ≥ 0 := of_decide_eq_true hk
  refine ⟨fun hg => ?_, fun hg => ?_⟩
  ·have hg' : 2 * l ≥ c := of_decide_eq_true hg
   have e4 : wU2 (2 * l - c) = 2 * l - c := u64w (by omega)
   rw [e4]
   exact kT_sat hi hk' (.inr ⟨rfl, rfl⟩) (by omega) hQ
  ·have hg' : 2 * l < c := Int.not_le.1 (of_decide_eq_false hg)
   exact kT_sat hi hk' (.inl ⟨rfl, rfl⟩) (by omega) hQ
 ·have hk' : ¬ k ≥ 0 := of_decide_eq_false hk
  have hk1 : (k + 1).toNat = 0 := by omega
  rw [hk1, Int.pow_zero, Int.ediv_one] at heq
  obtain ⟨d1, d2⟩ := div_uniq hc.1 heq hl
  rw [d1, d2] at hQ
  exact hQ.2 (decide_eq_false (by omega))
theorem loopT2 : Does Tryz.prog (.loop (loopF Tryz.f99 0)) MT2 ptT2 FT2 := by
 refine Does.loop (n := 66) (id := 0) semT2 (inv := fun x => InvT x.1.1 x.1.2.1 x.1.2.2.1 x.1.2.2.2.1 x.1.2.2.2.2.1 x.1.2.2.2.2.2.1 x.1.2.2.2.2.2.2.1) (μ := fun x => ((x.1.2.2.2.2.2.2.1 : Int) + 1).toNat) ?_ (fun x Q h => h.1)
 rintro ⟨⟨a, q, l, c, wh, re, k, _⟩, _⟩ hinv Q hq
 exact lawT2 hinv Q hq.2
def cTwo : Ct := ⟨[.d i64, .d i64, .d i64], [i64, i64, .bool], fun x => ((twoF x.1 x.2.1 x.2.2.1).1, (twoF x.1 x.2.1 x.2.2.1).2.1, (twoF x.1 x.2.1 x.2.2.1).2.2, ()), fun x => [0 <= x.1, 0 <= x.2.1, 0 < x.2.2.1]⟩
def frTwo (x : denP [.d i64, .d i64, .d i64]) : Fr (denL [i64, i64, .bool]) :=
 let a : Int := x.1; let b : Int := wU2 x.2.1; let c : Int := wU2 x.2.2.1
 Fr.need (c ≠ 0) (Fr.need (c ≠ 0)
  (Fr.need (InvT a 0 0 c (wU2 (b.tdiv c)) (b.tmod c) 62)
   (Fr.br (decide (a * (wU2 (b.tdiv c) * c + b.tmod c) / c > 4000000000000000000)) (Fr.val (0, 0, false, ()))
    (Fr.val (IntKind.i64.wrap (a * (wU2 (b.tdiv c) * c + b.tmod c) / c), IntKind.i64.wrap (a * (wU2 (b.tdiv c) * c + b.tmod c) % c), true, ())))))
theorem two_run : SoundCt Tryz.prog 99 ⟨[.d i64, .d i64, .d i64], [i64, i64, .bool], fun xs => (frTwo xs).get, fun xs => [(frTwo xs).ok]⟩ :=
 fn_sound CT2_ok (Λ := fun _ => ptT2.han CT2.Γ MT2 FT2) (fn := Tryz.f99) (fr := frTwo) (ps := [.d i64, .d i64, .d i64]) (rs := [i64, i64, .bool]) (0, 0, 0, ()) (by kernel_rfl)
  (fun c E hc => lam1f hc (by kernel_rfl) (b := loopF Tryz.f99 0) (by kernel_rfl) (Does.han CT2_ok rfl loopT2)) (fun x => by kernel_rfl)
theorem two_eq {a b c : Int} (ha : 0 <= a /\ a <= 9223372036854775807) (hb : 0 <= b /\ b <= 9223372036854775807) (hc : 0 < c /\ c <= 9223372036854775807) :
  (frTwo (a, b, c, ())).ok /\ (frTwo (a, b, c, ())).get = ((twoF a b c).1, (twoF a b c).2.1, (twoF a b c).2.2, ()) := by
 have e1 : wU2 b = b := u64w (by omega)
 have e2 : wU2 c = c := u64w (by omega)
 have hd0 : 0 <= b / c := Int.ediv_nonneg hb.1 (Int.le_of_lt hc.1)
 have hd1 : b / c <= b := Int.ediv_le_self _ hb.1
 have e3 : wU2 (b.tdiv c) = b / c := by rw [Int.tdiv_eq_ediv_of_nonneg hb.1]; exact u64w (by omega)
 have e4 : b.tmod c = b % c := Int.tmod_eq_emod_of_nonneg hb.1
 have hr0 := Int.emod_nonneg b (b := c) (by omega)
 have hr1 := Int.emod_lt_of_pos b hc.1
 have e5 : b / c * c + b % c = b := by rw [Int.mul_comm]; exact Int.mul_ediv_add_emod b c
 have hcz : c ≠ 0 := by omega
 have hm62 : a / 2 ^ (62 + 1 : Int).toNat = 0 := by
  have : (2 : Int) ^ (62 + 1 : Int).toNat = 9223372036854775808 := by decide
  rw [this]
  omega
 dsimp only [frTwo]
 rw [e1, e2, e3, e4]
 refine Fr.need_ hcz (Fr.need_ hcz (Fr.need_ ⟨ha, hc, ⟨hd0, by omega⟩, ⟨hr0, hr1⟩, by decide, ⟨Int.le_refl _, hc.1⟩, by decide, by rw [hm62]; simp⟩ ?_))
 rw [e5]
 unfold twoF
 by_cases hg : a * b / c > 4000000000000000000
 ·rw [if_pos hg]
  exact Fr.br_t (decide_eq_true hg) ⟨trivial, rfl⟩
 ·rw [if_neg hg]
  refine Fr.br_f (decide_eq_false hg) ⟨trivial, ?_⟩
  have p0 : 0 <= a * b := Int.mul_nonneg ha.1 hb.1
  have p1 := Int.ediv_nonneg p0 (Int.le_of_lt hc.1)
  have p2 := Int.emod_nonneg (a * b) (b := c) hcz
  have p3 := Int.emod_lt_of_pos (a * b) hc.1
  have w1 : IntKind.i64.wrap (a * b / c) = a * b / c := IntWalk.i64_in _ (by omega)
  have w2 : IntKind.i64.wrap (a * b % c) = a * b % c := IntWalk.i64_in _ (by omega)
  show (IntKind.i64.wrap (a * b / c), IntKind.i64.wrap (a * b % c), true, ()) = (a * b / c, a * b % c, true, ())
  rw [w1, w2]
theorem two_ok : SoundCt Tryz.prog 99 cTwo :=
 convF two_run _ _ (fun w F x vs hr hok => by
  obtain ⟨a, b, c, _⟩ := x
  obtain ⟨v1, vs1, rfl, h1, v2, vs2, rfl, h2, v3, vs3, rfl, h3, _⟩ := hr
  obtain ⟨q1, q2, q3⟩ := hok
  exact two_eq ⟨q1, (i64_of h1).2⟩ ⟨q2, (i64_of h2).2⟩ ⟨q3, (i64_of h3).2⟩)
def chkF (a b c : Int) : Int := if a < 0 ∨ b < 0 ∨ c < 0 then 1 else if c = 0 then 6 else 0
def cChk : Ct := ⟨[.d i64, .d i64, .d i64], [i64], fun x => (chkF x.1 x.2.1 x.2.2.1, ()), fun _ => []⟩
def frChk (x : denP [.d i64, .d i64, .d i64]) : Fr (denL [i64]) :=
 Fr.br (bif bif decide (x.1 < 0) then true else decide (x.2.1 < 0) then true else decide (x.2.2.1 < 0)) (Fr.val (1, ())) (Fr.br (x.2.2.1 == 0) (Fr.val (6, ())) (Fr.val (0, ())))
theorem chk_eq (a b c : Int) : (frChk (a, b, c, ())).ok /\ (frChk (a, b, c, ())).get = (chkF a b c, ()) := by
 unfold frChk chkF
 simp only [bif3]
 by_cases hn : a < 0 ∨ b < 0 ∨ c < 0
 ·rw [if_pos hn]
  exact Fr.br_t (by simpa using hn) ⟨trivial, rfl⟩
 ·rw [if_neg hn]
  refine Fr.br_f (by simpa using hn) ?_
  by_cases hc : c = 0
  ·rw [if_pos hc]
   exact Fr.br_t (beq_iff_eq.2 hc) ⟨trivial, rfl⟩
  ·rw [if_neg hc]
   exact Fr.br_f (beq_eq_false_iff_ne.2 hc) ⟨trivial, rfl⟩
theorem chk_ok : SoundCt Tryz.prog 98 cChk :=
 flat (ps := [.d i64, .d i64, .d i64]) (rs := [i64]) (cx_ok (cs := []) (ps := []) mixed trivial trivial) (fn := Tryz.f98) (fr := frChk) (0, 0, 0, ()) (by kernel_rfl) (fun x => by kernel_rfl) _ _
  (fun _ _ x _ _ _ => by
   obtain ⟨a, b, c, _⟩ := x
   exact chk_eq a b c)
noncomputable def CE1 : Cx := cx [(98, cChk), (99, cTwo)] []
theorem CE1_ok : CxOK Tryz.prog CE1 := cx_ok mixed ⟨chk_ok, two_ok, trivial⟩ trivial
def frE2 (q l : Int) (is : Bool) (c : Int) : Fr (denL [i64, i64]) :=
 Fr.need ((l == IntKind.i64.wrap (c - l)) = true -> decide (l > IntKind.i64.wrap (c - l)) = false -> is = true -> (2 : Int) ≠ 0)
  (Fr.br (bif is then bif decide (l > IntKind.i64.wrap (c - l)) then true else bif l == IntKind.i64.wrap (c - l) then Int.tmod q 2 == 1 else false else false)
   (Fr.br (bif !is then true else decide (IntKind.i64.wrap (q + 1) > 4000000000000000000)) (Fr.val (0, 5, ())) (Fr.val (IntKind.i64.wrap (q + 1), 0, ())))
   (Fr.br (bif !is then true else decide (q > 4000000000000000000)) (Fr.val (0, 5, ())) (Fr.val (q, 0, ()))))
def frE1 (x : denP [.d i64, .d i64, .d i64]) : Fr (denL [i64, i64]) :=
 Fr.br ((cChk.f (x.1, x.2.1, x.2.2.1, ())).1 != 0) (Fr.val (0, (cChk.f (x.1, x.2.1, x.2.2.1, ())).1, ()))
  (Fr.need (0 <= x.1) (Fr.need (0 <= x.2.1) (Fr.need (0 < x.2.2.1)
   (frE2 (cTwo.f (x.1, x.2.1, x.2.2.1, ())).1 (cTwo.f (x.1, x.2.1, x.2.2.1, ())).2.1 (cTwo.f (x.1, x.2.1, x.2.2.1, ())).2.2.1 x.2.2.1))))
def evq (q l c : Int) : Int := if l > c - l ∨ (l = c - l /\ q % 2 = 1) then q + 1 else q
theorem e2_told {q l c : Int} (hq : 0 <= q /\ q <= 4000000000000000000) (hl : 0 <= l /\ l < c) (hc : c <= 9223372036854775807) :
  (frE2 q l true c).ok /\ (frE2 q l true c).get = if evq q l c > 4000000000000000000 then (0, 5, ()) else (evq q l c, 0, ()) := by
 have w1 : IntKind.i64.wrap (c - l) = c - l := IntWalk.i64_in _ (by omega)
 have w2 : IntKind.i64.wrap (q + 1) = q + 1 := IntWalk.i64_in _ (by omega)
 have w3 : Int.tmod q 2 = q % 2 := Int.tmod_eq_emod_of_nonneg hq.1
 unfold frE2 evq
 rw [w1, w2, w3]
 refine Fr.need_ (fun _ _ _ => by decide) ?_
 by_cases h : l > c - l ∨ (l = c - l /\ q % 2 = 1)
 ·rw [if_pos h]
  refine Fr.br_t ?_ ?_
  ·show (bif decide (l > c - l) then true else bif l == c - l then q % 2 == 1 else false) = true
   rcases h with h | ⟨h, h'⟩
   ·rw [decide_eq_true h]
    rfl
   ·rw [beq_iff_eq.2 h, h']
    cases decide (l > c - l) <;> rfl
  ·by_cases hg : q + 1 > 4000000000000000000
   ·rw [if_pos hg]
    exact Fr.br_t (decide_eq_true hg) ⟨trivial, rfl⟩
   ·rw [if_neg hg]
    exact Fr.br_f (decide_eq_false hg) ⟨trivial, rfl⟩
 ·rw [if_neg h]
  refine Fr.br_f ?_ ?_
  ·show (bif decide (l > c - l) then true else bif l == c - l then q % 2 == 1 else false) = false
   have h1 : ¬ l > c - l := fun hh => h (.inl hh)
   rw [decide_eq_false h1]
   by_cases h2 : l = c - l
   ·have h3 : ¬ q % 2 = 1 := fun hh => h (.inr ⟨h2, hh⟩)
    show (bif l == c - l then q % 2 == 1 else false) = false
    rw [beq_eq_false_iff_ne.2 h3]
    cases l == c - l <;> rfl
   ·show (bif l == c - l then q % 2 == 1 else false) = false
    rw [beq_eq_false_iff_ne.2 h2]
    rfl
  ·have hg : ¬ q > 4000000000000000000 := by omega
   rw [if_neg hg]
   exact Fr.br_f (decide_eq_false hg) ⟨trivial, rfl⟩
theorem e2_over {c : Int} : (frE2 0 0 false c).ok /\ (frE2 0 0 false c).get = (0, 5, ()) := by
 unfold frE2
 exact Fr.need_ (fun _ _ h => by cases h) (Fr.br_f rfl (Fr.br_t rfl ⟨trivial, rfl⟩))
def cEvenR : Ct := ⟨[.d i64, .d i64, .d i64], [i64, i64], fun x => ((evenF x.1 x.2.1 x.2.2.1).1, (evenF x.1 x.2.1 x.2.2.1).2, ()), fun _ => []⟩
theorem e1_eq {a b c : Int} (hc : c <= 9223372036854775807) : (frE1 (a, b, c, ())).ok /\ (frE1 (a, b, c, ())).get = ((evenF a b c).1, (evenF a b c).2, ()) := by
 unfold frE1 evenF
 have e : (cChk.f (a, b, c, ())).1 = chkF a b c := rfl
 show (Fr.br ((chkF a b c) != 0) (Fr.val (0, chkF a b c, ())) _).ok /\ (Fr.br ((chkF a b c) != 0) (Fr.val (0, chkF a b c, ())) _).get = _
 by_cases hn : a < 0 ∨ b < 0 ∨ c < 0
 ·have h1 : chkF a b c = 1 := if_pos hn
  rw [h1, if_pos hn]
  exact Fr.br_t rfl ⟨trivial, rfl⟩
 ·by_cases hz : c = 0
  ·have h1 : chkF a b c = 6 := by unfold chkF; rw [if_neg hn, if_pos hz]
   rw [h1, if_neg hn, if_pos hz]
   exact Fr.br_t rfl ⟨trivial, rfl⟩
  ·have h1 : chkF a b c = 0 := by unfold chkF; rw [if_neg hn, if_neg hz]
   rw [h1, if_neg hn, if_neg hz]
   have ha : 0 <= a := by omega
   have hb : 0 <= b := by omega
   have hc0 : 0 < c := by omega
   refine Fr.br_f rfl (Fr.need_ ha (Fr.need_ hb (Fr.need_ hc0 ?_)))
   show (frE2 (twoF a b c).1 (twoF a b c).2.1 (twoF a b c).2.2 c).ok /\ (frE2 (twoF a b c).1 (twoF a b c).2.1 (twoF a b c).2.2 c).get = _
   have hp : 0 <= a * b := Int.mul_nonneg ha hb
   have hq := Int.ediv_nonneg hp (Int.le_of_lt hc0)
   have r1 := Int.emod_nonneg (a * b) (b := c) hz
   have r2 := Int.emod_lt_of_pos (a * b) hc0
   have hev : evenQ (a * b) c = evq (a * b / c) (a * b % c) c := rfl
   unfold twoF
   by_cases hg : a * b / c > 4000000000000000000
   ·rw [if_pos hg]
    have hbig : evenQ (a * b) c > 4000000000000000000 := by
     rw [hev]
     unfold evq
     split <;> omega
    rw [if_pos hbig]
    exact e2_over
   ·rw [if_neg hg]
    have := e2_told (q := a * b / c) (l := a * b % c) (c := c) ⟨hq, by omega⟩ ⟨r1, r2⟩ hc
    refine ⟨this.1, this.2.trans ?_⟩
    rw [← hev]
    split <;> rfl
theorem evenR_ok : SoundCt Tryz.prog 61 cEvenR :=
 convF (fn_sound CE1_ok (Λ := lam0) (fn := Tryz.f61) (fr := frE1) (ps := [.d i64, .d i64, .d i64]) (rs := [i64, i64]) (0, 0, 0, ()) (by kernel_rfl) (fun c E _ => lam0_ok c 0) (fun x => by kernel_rfl)) _ _
  (fun w F x vs hr _ => by
   obtain ⟨a, b, c, _⟩ := x
   obtain ⟨v1, vs1, rfl, h1, v2, vs2, rfl, h2, v3, vs3, rfl, h3, _⟩ := hr
   exact e1_eq (i64_of h3).2)
noncomputable def CE2 : Cx := cx [(61, cEvenR)] []
theorem CE2_ok : CxOK Tryz.prog CE2 := cx_ok mixed ⟨evenR_ok, trivial⟩ trivial
theorem bpR_ok : SoundCt Tryz.prog 28 cBp :=
 flat (ps := [.d i64, .d i64]) (rs := [i64, i64]) CE2_ok (fn := Tryz.f28) (fr := fun x => Fr.val ((cEvenR.f (x.1, x.2.1, 10000, ())).1, (cEvenR.f (x.1, x.2.1, 10000, ())).2.1, ())) (0, 0, ()) (by kernel_rfl) (fun x => by kernel_rfl) _ _
  (fun _ _ x _ _ _ => ⟨trivial, rfl⟩)
noncomputable def CR7 : Cx := cx [(163, cFactors), (162, cBands)] []
theorem CR7_ok : CxOK Tryz.prog CR7 := cx_ok mixed ⟨factors_ok, r06_Bands_ok, trivial⟩ trivial
abbrev p7 : Pt := ⟨73, 0, ⟨[(3, .d i64)], [.x 1 71 verT, .r 1 1 0]⟩, ⟨[], [.x 1 71 verT, .r 1 1 0]⟩, ⟨[(2, .d .bool)], []⟩⟩
def baseL (v : verT.den) : List Int := [v.2.1.1, v.2.1.2.1, v.2.1.2.2.1, v.2.1.2.2.2.1]
def f7 (x : p7.M.X) : Fr p7.Out :=
 let k : Int := x.1.1; let v : verT.den := x.2.1
 Fr.br (decide (k < 4))
  (Fr.need (0 <= k /\ k < ((4 : Nat) : Int)) (Fr.need (decide ((baseL v).getD k.toNat 0 < 0) = false -> 0 <= k /\ k < ((4 : Nat) : Int))
   (Fr.br (bif decide ((baseL v).getD k.toNat 0 < 0) then true else decide ((baseL v).getD k.toNat 0 > 100000)) (Fr.val (Rd.back ((false, ()), ()))) (Fr.val (Rd.next ((IntKind.i64.wrap (k + 1), ()), (v, ())))))))
  (Fr.val (Rd.out ((), (v, ()))))
theorem sem7 : Does Tryz.prog (loopF Tryz.f149 0) p7.M p7 f7 := Does.of_run CR7_ok (bs := 0) rfl rfl rfl (fun _ => lam0_ok _ 0) (fun x => by kernel_rfl)
def In7 (k : Int) : Prop := 0 <= k /\ k <= 4
def F7 (x : p7.M.X) : Fr p7.Out := Fr.need (In7 x.1.1) (Fr.br (factorsB ((baseL x.2.1).drop x.1.1.toNat)) (Fr.val (Rd.out ((), (x.2.1, ())))) (Fr.val (Rd.back ((false, ()), ()))))
theorem fac_cons (n : Int) (l : List Int) : factorsB (n :: l) = (!(bif decide (n < 0) then true else decide (n > 100000)) && factorsB l) := by
 have : decide (0 <= n /\ n <= 100000) = !(bif decide (n < 0) then true else decide (n > 100000)) := by
  rw [Bool.eq_iff_iff]
  simp
 unfold factorsB
 rw [List.all_cons, this]
theorem law7 (k : Int) (v : verT.den) (hinv : In7 k) (Q : p7.Out -> Prop) (hq : (Fr.br (factorsB ((baseL v).drop k.toNat)) (Fr.val (Rd.out ((), (v, ())))) (Fr.val (Rd.back ((false, ()), ()))) : Fr p7.Out).satP Q) :
  (f7 ((k, ()), (v, ()))).satP fun
   | .next x' => In7 x'.1.1 /\ (4 - x'.1.1).toNat < (4 - k).toNat /\ (F7 x').satP Q
   | .out y => Q (.out y)
   | .back z => Q (.back z)
   | .pan p => Q (.pan p) := by
 obtain ⟨h1, h2⟩ := hinv
 refine ⟨fun hi => ?_, fun hi => ?_⟩
 ·have hi' : k < 4 := of_decide_eq_true hi
  obtain ⟨k, rfl⟩ : ∃ n : Nat, k = n := ⟨k.toNat, by omega⟩
  have hl : k < (baseL v).length := by show k < 4; omega
  have hw : IntKind.i64.wrap ((k : Int) + 1) = k + 1 := IntWalk.i64_in _ (by omega)
  have g1 : (baseL v).getD (k : Int).toNat 0 = (baseL v)[k] := by
   rw [show (k : Int).toNat = k by omega, List.getD_eq_getElem?_getD, List.getElem?_eq_getElem hl]; rfl
  have hd : (baseL v).drop (k : Int).toNat = (baseL v)[k] :: (baseL v).drop (k + 1) := by
   rw [show (k : Int).toNat = k by omega]
   exact List.drop_eq_getElem_cons hl
  rw [hd] at hq
  dsimp only [f7, Fr.satP]
  rw [g1, hw]
  have hf : factorsB ((baseL v)[k] :: (baseL v).drop (k + 1)) = (!(bif decide ((baseL v)[k] < 0) then true else decide ((baseL v)[k] > 100000)) && factorsB ((baseL v).drop (k + 1))) := fac_cons _ _
  refine ⟨⟨by omega, by omega⟩, fun _ => ⟨by omega, by omega⟩, fun hb => ?_, fun hb => ?_⟩
  ·rw [hb] at hf
   exact hq.2 hf
  ·rw [hb] at hf
   have hf' : factorsB ((baseL v)[k] :: (baseL v).drop (k + 1)) = factorsB ((baseL v).drop (k + 1)) := hf
   rw [hf'] at hq
   have hI : In7 ((k : Int) + 1) := ⟨by omega, by omega⟩
   refine ⟨hI, by show (4 - ((k : Int) + 1)).toNat < (4 - (k : Int)).toNat; omega, hI, ?_⟩
   have : ((k : Int) + 1).toNat = k + 1 := by omega
   show (Fr.br (factorsB ((baseL v).drop ((k : Int) + 1).toNat)) (Fr.val (Rd.out ((), (v, ())))) (Fr.val (Rd.back ((false, ()), ()))) : Fr p7.Out).satP Q
   rw [this]
   exact hq
 ·have hi' : ¬ k < 4 := of_decide_eq_false hi
  have : k = 4 := by omega
  subst this
  exact hq.1 rfl
theorem loop7 : Does Tryz.prog (.loop (loopF Tryz.f149 0)) p7.M p7 F7 := by
 refine Does.loop (n := 73) (id := 0) sem7 (inv := fun x => In7 x.1.1) (μ := fun x => (4 - x.1.1).toNat) ?_ (fun x Q h => h.1)
 rintro ⟨⟨k, _⟩, v, _⟩ hinv Q hq
 exact law7 k v hinv Q hq.2
def frV7 (x : denP [.d verT]) : Fr (denL [.bool]) :=
 let v : verT.den := x.1
 Fr.need (In7 0) (Fr.br (factorsB ((baseL v).drop (0 : Int).toNat))
  (Fr.br (ver1 v.1 v.2.2.2.2.2.1) (Fr.val (false, ()))
   (Fr.br (ver2 v.2.2.1.length v.2.2.2.1.length v.2.2.2.2.1.length) (Fr.val (false, ()))
    (Fr.val (bif bif (cBands.f (v.2.2.1, ())).1 then (cFactors.f (v.2.2.2.1, ())).1 else false then (cFactors.f (v.2.2.2.2.1, ())).1 else false, ()))))
  (Fr.val (false, ())))
theorem ver7_ok : SoundCt Tryz.prog 149 cVer :=
 convF (fn_sound CR7_ok (Λ := fun _ => p7.han CR7.Γ p7.M F7) (fn := Tryz.f149) (fr := frV7) (ps := [.d verT]) (rs := [.bool]) (verT.dflt, ()) (by kernel_rfl)
  (fun c E hc => lam1f hc (by kernel_rfl) (b := loopF Tryz.f149 0) (by kernel_rfl) (Does.han CR7_ok rfl loop7)) (fun x => by kernel_rfl)) _ _
  (fun _ _ x _ _ _ => by
   obtain ⟨v, _⟩ := x
   show (frV7 (v, ())).ok /\ (frV7 (v, ())).get = (verB v, ())
   unfold verB
   rw [← ver_dec]
   refine Fr.need_ ⟨by decide, by decide⟩ ?_
   have eb : factorsB [v.2.1.1, v.2.1.2.1, v.2.1.2.2.1, v.2.1.2.2.2.1] = factorsB ((baseL v).drop (0 : Int).toNat) := rfl
   rw [eb]
   cases h0 : factorsB ((baseL v).drop (0 : Int).toNat) with
   | false =>
    refine Fr.br_f rfl ⟨trivial, Prod.ext ?_ rfl⟩
    show false = _
    cases (!(ver1 v.1 v.2.2.2.2.2.1 || ver2 v.2.2.1.length v.2.2.2.1.length v.2.2.2.2.1.length)) <;> rfl
   | true =>
    refine Fr.br_t rfl ?_
    cases h1 : ver1 v.1 v.2.2.2.2.2.1 with
    | true => exact Fr.br_t rfl ⟨trivial, rfl⟩
    | false =>
     refine Fr.br_f rfl ?_
     cases h2 : ver2 v.2.2.1.length v.2.2.2.1.length v.2.2.2.2.1.length with
     | true => exact Fr.br_t rfl ⟨trivial, rfl⟩
     | false =>
      refine Fr.br_f rfl ⟨trivial, Prod.ext ?_ rfl⟩
      show (bif bif bandsL v.2.2.1 then factorsB v.2.2.2.1 else false then factorsB v.2.2.2.2.1 else false) = (true && (true && (factorsB v.2.2.2.1 && (factorsB v.2.2.2.2.1 && bandsL v.2.2.1))))
      cases bandsL v.2.2.1 <;> cases factorsB v.2.2.2.1 <;> cases factorsB v.2.2.2.2.1 <;> rfl)
noncomputable def CR9 : Cx := cx [(149, cVer), (116, cRisk), (150, cCover), (151, cBand), (28, cBp)] []
theorem CR9_ok : CxOK Tryz.prog CR9 := cx_ok mixed ⟨ver7_ok, risk6_ok, cover8_ok, band6_ok, bpR_ok, trivial⟩ trivial
abbrev p9 : Pt := ⟨85, 0, ⟨[(10, .d i64), (8, .d ints), (9, .d i64)], [.x 3 71 verT, .r 3 3 0]⟩, ⟨[(9, .d i64)], [.x 3 71 verT, .r 3 3 0]⟩, ⟨[(6, .d i64), (7, .d i64)], []⟩⟩
def f9 (x : p9.M.X) : Fr p9.Out :=
 let k : Int := x.1.1; let l : List Int := x.1.2.1; let m : Int := x.1.2.2.1; let v : verT.den := x.2.1
 Fr.br (decide (k < (l.length : Int)))
  (Fr.need (0 <= k /\ k < (l.length : Int))
   (Fr.br ((cBp.f (m, l.getD k.toNat 0, ())).2.1 != 0) (Fr.val (Rd.back ((0, (cBp.f (m, l.getD k.toNat 0, ())).2.1, ()), ())))
    (Fr.val (Rd.next ((IntKind.i64.wrap (k + 1), l, (cBp.f (m, l.getD k.toNat 0, ())).1, ()), (v, ()))))))
  (Fr.val (Rd.out ((m, ()), (v, ()))))
theorem sem9 : Does Tryz.prog (loopF Tryz.f113 0) p9.M p9 f9 := Does.of_run CR9_ok (bs := 0) rfl rfl rfl (fun _ => lam0_ok _ 0) (fun x => by kernel_rfl)
def In9 (k : Int) (l : List Int) : Prop := 0 <= k /\ k <= l.length /\ (l.length : Int) <= 9223372036854775807
def out9 (v : verT.den) (r : Int × Int) : Fr p9.Out := Fr.br (r.2 != 0) (Fr.val (Rd.back ((0, r.2, ()), ()))) (Fr.val (Rd.out ((r.1, ()), (v, ()))))
def F9 (x : p9.M.X) : Fr p9.Out := Fr.need (In9 x.1.1 x.1.2.1) (out9 x.2.1 (bpGo (x.1.2.1.drop x.1.1.toNat) x.1.2.2.1))
theorem law9 (k : Int) (l : List Int) (m : Int) (v : verT.den) (hinv : In9 k l) (Q : p9.Out -> Prop) (hq : (out9 v (bpGo (l.drop k.toNat) m)).satP Q) :
  (f9 ((k, l, m, ()), (v, ()))).satP fun
   | .next x' => In9 x'.1.1 x'.1.2.1 /\ ((List.length (α := Int) x'.1.2.1 : Int) - x'.1.1).toNat < ((l.length : Int) - k).toNat /\ (F9 x').satP Q
   | .out y => Q (.out y)
   | .back z => Q (.back z)
   | .pan p => Q (.pan p) := by
 obtain ⟨h1, h2, h3⟩ := hinv
 refine ⟨fun hi => ?_, fun hi => ?_⟩
 ·have hi' : k < (l.length : Int) := of_decide_eq_true hi
  obtain ⟨k, rfl⟩ : ∃ n : Nat, k = n := ⟨k.toNat, by omega⟩
  have hl : k < l.length := by omega
  have hw : IntKind.i64.wrap ((k : Int) + 1) = k + 1 := IntWalk.i64_in _ (by omega)
  have g1 : l.getD (k : Int).toNat 0 = l[k] := by
   rw [show (k : Int).toNat = k by omega, List.getD_eq_getElem?_getD, List.getElem?_eq_getElem hl]; rfl
  have hd : l.drop (k : Int).toNat = l[k] :: l.drop (k + 1) := by
   rw [show (k : Int).toNat = k by omega]
   exact List.drop_eq_getElem_cons hl
  rw [hd] at hq
  dsimp only [f9, Fr.satP]
  rw [g1, hw]
  refine ⟨⟨by omega, by omega⟩, fun hb => ?_, fun hb => ?_⟩
  ·have hb' : ¬ (bpF m l[k]).2 = 0 := bne_iff_ne.1 hb
   have e : bpGo (l[k] :: l.drop (k + 1)) m = bpF m l[k] := if_neg hb'
   rw [e] at hq
   exact hq.1 hb
  ·have hb' : (bpF m l[k]).2 = 0 := by
    have : ((bpF m l[k]).2 != 0) = false := hb
    simpa using this
   have e : bpGo (l[k] :: l.drop (k + 1)) m = bpGo (l.drop (k + 1)) (bpF m l[k]).1 := if_pos hb'
   rw [e] at hq
   have hI : In9 ((k : Int) + 1) l := ⟨by omega, by omega, h3⟩
   refine ⟨hI, by show ((l.length : Int) - ((k : Int) + 1)).toNat < ((l.length : Int) - (k : Int)).toNat; omega, hI, ?_⟩
   have : ((k : Int) + 1).toNat = k + 1 := by omega
   show (out9 v (bpGo (l.drop ((k : Int) + 1).toNat) (bpF m l[k]).1)).satP Q
   rw [this]
   exact hq
 ·have hi' : ¬ k < (l.length : Int) := of_decide_eq_false hi
  have : l.drop k.toNat = [] := List.drop_eq_nil_of_le (by omega)
  rw [this] at hq
  exact hq.2 rfl
theorem loop9 : Does Tryz.prog (.loop (loopF Tryz.f113 0)) p9.M p9 F9 := by
 refine Does.loop (n := 85) (id := 0) sem9 (inv := fun x => In9 x.1.1 x.1.2.1) (μ := fun x => ((List.length (α := Int) x.1.2.1 : Int) - x.1.1).toNat) ?_ (fun x Q h => h.1)
 rintro ⟨⟨k, l, m, _⟩, v, _⟩ hinv Q hq
 exact law9 k l m v hinv Q hq.2
def frOneR (x : denP [.d verT, .d riskT, .d coverT]) : Fr (denL [i64, i64]) :=
 Fr.br (bif bif !(cVer.f (x.1, ())).1 then true else !(cRisk.f (x.2.1, ())).1 then true else !(cCover.f (x.2.2.1, ())).1) (Fr.val (0, 1, ()))
  (Fr.br (decide (x.2.1.2.2.2.1 ≥ x.1.2.2.2.1.length)) (Fr.val (0, 7, ()))
   (Fr.need (0 <= x.2.1.1 /\ x.2.1.1 < ((4 : Nat) : Int))
    (Fr.need (0 <= x.2.1.2.2.2.1 /\ x.2.1.2.2.2.1 < x.1.2.2.2.1.length)
     (Fr.need (0 <= x.2.2.1.1 /\ x.2.2.1.1 < x.1.2.2.2.2.1.length)
      (Fr.need (In9 0 (oneL x.1 x.2.1 x.2.2.1))
       (Fr.br ((bpGo ((oneL x.1 x.2.1 x.2.2.1).drop (0 : Int).toNat) x.2.1.2.1).2 != 0) (Fr.val (0, (bpGo ((oneL x.1 x.2.1 x.2.2.1).drop (0 : Int).toNat) x.2.1.2.1).2, ()))
        (Fr.br (decide ((bpGo ((oneL x.1 x.2.1 x.2.2.1).drop (0 : Int).toNat) x.2.1.2.1).1 < x.1.2.2.2.2.2.1)) (Fr.val (x.1.2.2.2.2.2.1, 0, ())) (Fr.val ((bpGo ((oneL x.1 x.2.1 x.2.2.1).drop (0 : Int).toNat) x.2.1.2.1).1, 0, ())))))))))
theorem oneR_run : SoundCt Tryz.prog 113 ⟨[.d verT, .d riskT, .d coverT], [i64, i64], fun xs => (frOneR xs).get, fun xs => [(frOneR xs).ok]⟩ :=
 fn_sound CR9_ok (Λ := fun _ => p9.han CR9.Γ p9.M F9) (fn := Tryz.f113) (fr := frOneR) (ps := [.d verT, .d riskT, .d coverT]) (rs := [i64, i64]) (verT.dflt, riskT.dflt, coverT.dflt, ()) (by kernel_rfl)
  (fun c E hc => lam1f hc (by kernel_rfl) (b := loopF Tryz.f113 0) (by kernel_rfl) (Does.han CR9_ok rfl loop9)) (fun x => by kernel_rfl)
theorem oneR_eq (v : verT.den) (k val a z : Int) (c : coverT.den) : (frOneR (v, (k, val, a, z, ()), c, ())).ok /\ (frOneR (v, (k, val, a, z, ()), c, ())).get = ((oneF v (k, val, a, z, ()) c).1, (oneF v (k, val, a, z, ()) c).2, ()) := by
 obtain ⟨p, l, g, d, s, _⟩ := c
 unfold frOneR oneF
 have e0 : (bif bif !(cVer.f (v, ())).1 then true else !(cRisk.f ((k, val, a, z, ()), ())).1 then true else !(cCover.f ((p, l, g, d, s, ()), ())).1) = !(verB v && (riskB k val a z && coverB p l g d s)) := not3 _ _ _
 by_cases h : (verB v && (riskB k val a z && coverB p l g d s)) = true
 ·rw [if_pos h]
  refine Fr.br_f (by rw [e0, h]; rfl) ?_
  rw [Bool.and_eq_true, Bool.and_eq_true] at h
  obtain ⟨h1, h2, h3⟩ := h
  obtain ⟨r1, r2, r3⟩ := riskB_kind h2
  obtain ⟨c1, c2⟩ := coverB_peril h3
  have hp := verB_peril h1
  by_cases hz : z ≥ (v.2.2.2.1.length : Int)
  ·rw [if_pos hz]
   exact Fr.br_t (decide_eq_true hz) ⟨trivial, rfl⟩
  ·rw [if_neg hz]
   have hz' : z < (v.2.2.2.1.length : Int) := Int.not_le.1 hz
   refine Fr.br_f (decide_eq_false hz) (Fr.need_ ⟨r1, by omega⟩ (Fr.need_ ⟨r3, hz'⟩ (Fr.need_ ⟨c1, ?_⟩ (Fr.need_ ⟨Int.le_refl _, Int.natCast_nonneg _, (by show (5 : Int) <= 9223372036854775807; decide)⟩ ?_))))
   ·show p < (v.2.2.2.2.1.length : Int)
    rw [hp]
    exact c2
   ·have ed : (oneL v (k, val, a, z, ()) (p, l, g, d, s, ())).drop (0 : Int).toNat = oneL v (k, val, a, z, ()) (p, l, g, d, s, ()) := rfl
    rw [ed]
    by_cases hb : (bpGo (oneL v (k, val, a, z, ()) (p, l, g, d, s, ())) val).2 = 0
    ·have hb' : ((bpGo (oneL v (k, val, a, z, ()) (p, l, g, d, s, ())) val).2 != 0) = false := by rw [hb]; rfl
     rw [if_pos hb]
     refine Fr.br_f hb' ?_
     by_cases hm : (bpGo (oneL v (k, val, a, z, ()) (p, l, g, d, s, ())) val).1 < v.2.2.2.2.2.1
     ·exact Fr.br_t (decide_eq_true hm) ⟨trivial, Prod.ext (if_pos hm).symm rfl⟩
     ·exact Fr.br_f (decide_eq_false hm) ⟨trivial, Prod.ext (if_neg hm).symm rfl⟩
    ·have hb' : ((bpGo (oneL v (k, val, a, z, ()) (p, l, g, d, s, ())) val).2 != 0) = true := bne_iff_ne.2 hb
     rw [if_neg hb]
     exact Fr.br_t hb' ⟨trivial, rfl⟩
 ·rw [if_neg h]
  simp only [Bool.not_eq_true] at h
  exact Fr.br_t (by rw [e0, h]; rfl) ⟨trivial, rfl⟩
theorem oneR_ok : SoundCt Tryz.prog 113 cOne :=
 convF oneR_run _ _ (fun _ _ x _ _ _ => by
  obtain ⟨v, ⟨k, val, a, z, _⟩, c, _⟩ := x
  exact oneR_eq v k val a z c)
noncomputable def CRY : Cx := cx [(113, cOne), (114, cSumM)] []
theorem CRY_ok : CxOK Tryz.prog CRY := cx_ok mixed ⟨oneR_ok, sumM_ok, trivial⟩ trivial
abbrev pYr : Pt := ⟨45, 0, ⟨[(9, .d i64), (2, .d (.sl coverT))], [.x 3 71 verT, .r 3 3 0, .x 4 25 riskT, .r 4 4 0, .o 8 3 i64]⟩, ⟨[], [.o 8 3 i64]⟩, ⟨[(6, .d i64), (7, .d i64)], []⟩⟩
set_option maxRecDepth 100000 in
def roomI (n m : Nat) : Prop := n + m <= maxLen /\ (n + m) * Tryz.prog.types[3].bytes <= 140737488355328
set_option maxRecDepth 100000 in
theorem bytesInt : Tryz.prog.types[3].bytes <= 8 := by decide
theorem room_int {n m : Nat} (h : n + m <= 1000000) : roomI n m := by
 refine ⟨?_, Nat.le_trans (Nat.mul_le_mul h bytesInt) (by decide)⟩
 unfold maxLen
 omega
def fYr (x : pYr.M.X) : Fr pYr.Out :=
 let k : Int := x.1.1; let l : List coverT.den := x.1.2.1; let v : verT.den := x.2.1; let r : riskT.den := x.2.2.1; let o : List Int := x.2.2.2.1
 Fr.br (decide (k < (l.length : Int)))
  (Fr.need (0 <= k /\ k < (l.length : Int))
   (Fr.br ((cOne.f (v, r, l.getD k.toNat coverT.dflt, ())).2.1 != 0) (Fr.val (Rd.back ((0, (cOne.f (v, r, l.getD k.toNat coverT.dflt, ())).2.1, ()), ())))
    (Fr.need (roomI o.length [(cOne.f (v, r, l.getD k.toNat coverT.dflt, ())).1].length)
     (Fr.val (Rd.next ((IntKind.i64.wrap (k + 1), l, ()), (v, r, o ++ [(cOne.f (v, r, l.getD k.toNat coverT.dflt, ())).1], ())))))))
  (Fr.val (Rd.out ((), (o, ()))))
theorem semYr : Does Tryz.prog (loopF Tryz.f81 0) pYr.M pYr fYr := Does.of_run CRY_ok (bs := 0) rfl rfl rfl (fun _ => lam0_ok _ 0) (fun x => by kernel_rfl)
def onesE (v : verT.den) (r : riskT.den) : List coverT.den -> Int
 | [] => 0
 | c :: l => if (oneF v r c).2 = 0 then onesE v r l else (oneF v r c).2
def onesL (v : verT.den) (r : riskT.den) (l : List coverT.den) : List Int := l.map fun c => (oneF v r c).1
structure InYr (k : Int) (l : List coverT.den) (o : List Int) : Prop where
 k0 : 0 <= k
 kl : k <= l.length
 room : o.length + (l.length - k.toNat) <= 1000000
 big : l.length <= 1000000
def outYr (e : Int) (o : List Int) : Fr pYr.Out := Fr.br (e != 0) (Fr.val (Rd.back ((0, e, ()), ()))) (Fr.val (Rd.out ((), (o, ()))))
def FYr (x : pYr.M.X) : Fr pYr.Out := Fr.need (InYr x.1.1 x.1.2.1 x.2.2.2.1) (outYr (onesE x.2.1 x.2.2.1 (x.1.2.1.drop x.1.1.toNat)) (x.2.2.2.1 ++ onesL x.2.1 x.2.2.1 (x.1.2.1.drop x.1.1.toNat)))
theorem lawYr (k : Int) (l : List coverT.den) (v : verT.den) (r : riskT.den) (o : List Int) (hinv : InYr k l o) (Q : pYr.Out -> Prop) (hq : (outYr (onesE v r (l.drop k.toNat)) (o ++ onesL v r (l.drop k.toNat))).satP Q) :
  (fYr ((k, l, ()), (v, r, o, ()))).satP fun
   | .next x' => InYr x'.1.1 x'.1.2.1 x'.2.2.2.1 /\ ((List.length (α := coverT.den) x'.1.2.1 : Int) - x'.1.1).toNat < ((l.length : Int) - k).toNat /\ (FYr x').satP Q
   | .out y => Q (.out y)
   | .back z => Q (.back z)
   | .pan p => Q (.pan p) := by
 obtain ⟨h1, h2, h3, h4⟩ := hinv
 refine ⟨fun hi => ?_, fun hi => ?_⟩
 ·have hi' : k < (l.length : Int) := of_decide_eq_true hi
  obtain ⟨k, rfl⟩ : ∃ n : Nat, k = n := ⟨k.toNat, by omega⟩
  have hl : k < l.length := by omega
  have hk : (k : Int).toNat = k := by omega
  rw [hk] at hq h3
  have hw : IntKind.i64.wrap ((k : Int) + 1) = k + 1 := IntWalk.i64_in _ (by omega)
  have g1 : l.getD (k : Int).toNat coverT.dflt = l[k] := by
   rw [hk, List.getD_eq_getElem?_getD, List.getElem?_eq_getElem hl]; rfl
  rw [List.drop_eq_getElem_cons hl] at hq
  dsimp only [fYr, Fr.satP]
  rw [g1, hw]
  refine ⟨⟨by omega, by omega⟩, fun hb => ?_, fun hb => ?_⟩
  ·have hb' : ¬ (oneF v r l[k]).2 = 0 := bne_iff_ne.1 hb
   have e : onesE v r (l[k] :: l.drop (k + 1)) = (oneF v r l[k]).2 := if_neg hb'
   rw [e] at hq
   exact hq.1 hb
  ·have hb' : (oneF v r l[k]).2 = 0 := by
    have : ((oneF v r l[k]).2 != 0) = false := hb
    simpa using this
   have e : onesE v r (l[k] :: l.drop (k + 1)) = onesE v r (l.drop (k + 1)) := if_pos hb'
   have e2 : o ++ onesL v r (l[k] :: l.drop (k + 1)) = (o ++ [(oneF v r l[k]).1]) ++ onesL v r (l.drop (k + 1)) := by
    rw [List.append_assoc]
    rfl
   rw [e, e2] at hq
   have hk1 : ((k : Int) + 1).toNat = k + 1 := by omega
   have hI : InYr ((k : Int) + 1) l (o ++ [(oneF v r l[k]).1]) := ⟨by omega, by omega, by rw [hk1, List.length_append, List.length_singleton]; omega, h4⟩
   refine ⟨room_int (by show o.length + 1 <= _; omega), hI, by show ((l.length : Int) - ((k : Int) + 1)).toNat < ((l.length : Int) - (k : Int)).toNat; omega, hI, ?_⟩
   show (outYr (onesE v r (l.drop ((k : Int) + 1).toNat)) ((o ++ [(oneF v r l[k]).1]) ++ onesL v r (l.drop ((k : Int) + 1).toNat))).satP Q
   rw [hk1]
   exact hq
 ·have hi' : ¬ k < (l.length : Int) := of_decide_eq_false hi
  have : l.drop k.toNat = [] := List.drop_eq_nil_of_le (by omega)
  rw [this] at hq
  have hq2 : Q (Rd.out ((), (o ++ [], ()))) := hq.2 rfl
  rw [List.append_nil] at hq2
  exact hq2
theorem loopYr : Does Tryz.prog (.loop (loopF Tryz.f81 0)) pYr.M pYr FYr := by
 refine Does.loop (n := 45) (id := 0) semYr (inv := fun x => InYr x.1.1 x.1.2.1 x.2.2.2.1) (μ := fun x => ((List.length (α := coverT.den) x.1.2.1 : Int) - x.1.1).toNat) ?_ (fun x Q h => h.1)
 rintro ⟨⟨k, l, _⟩, v, r, o, _⟩ hinv Q hq
 exact lawYr k l v r o hinv Q hq.2
def frYearR (x : denP [.d verT, .d riskT, .d (.sl coverT)]) : Fr (denL [i64, i64]) :=
 let v : verT.den := x.1; let r : riskT.den := x.2.1; let l : List coverT.den := x.2.2.1
 let o : List Int := [] ++ onesL v r (l.drop (0 : Int).toNat)
 Fr.need (InYr 0 l []) (Fr.br (onesE v r (l.drop (0 : Int).toNat) != 0) (Fr.val (0, onesE v r (l.drop (0 : Int).toNat), ()))
  (Fr.need (∀ e ∈ o, (0 : Int) <= e) (Fr.br (!(cSumM.f (o, ())).2.1) (Fr.val (0, 5, ())) (Fr.val ((cSumM.f (o, ())).1, 0, ())))))
theorem yearR_run : SoundCt Tryz.prog 81 ⟨[.d verT, .d riskT, .d (.sl coverT)], [i64, i64], fun xs => (frYearR xs).get, fun xs => [(frYearR xs).ok]⟩ :=
 fn_sound CRY_ok (Λ := fun _ => pYr.han CRY.Γ pYr.M FYr) (fn := Tryz.f81) (fr := frYearR) (ps := [.d verT, .d riskT, .d (.sl coverT)]) (rs := [i64, i64]) (verT.dflt, riskT.dflt, [], ()) (by kernel_rfl)
  (fun c E hc => lam1f hc (by kernel_rfl) (b := loopF Tryz.f81 0) (by kernel_rfl) (Does.han CRY_ok rfl loopYr)) (fun x => by kernel_rfl)
theorem yrGo_err (v : verT.den) (r : riskT.den) : (l : List coverT.den) -> (q : Int) -> (b : Bool) -> (yrGo v r l q b).2.2 = onesE v r l
 | [], _, _ => rfl
 | c :: l, q, b => by
  unfold yrGo onesE
  split
  ·split
   ·split
    ·exact yrGo_err v r l _ _
    ·exact yrGo_err v r l _ _
   ·exact yrGo_err v r l _ _
  ·rfl
theorem yrGo_off (v : verT.den) (r : riskT.den) : (l : List coverT.den) -> (q : Int) -> onesE v r l = 0 -> (yrGo v r l q false).2.1 = false
 | [], _, _ => rfl
 | c :: l, q, h => by
  unfold onesE at h
  unfold yrGo
  split
  ·rename_i h1
   rw [if_pos h1] at h
   rw [if_neg (by decide)]
   exact yrGo_off v r l q h
  ·rfl
theorem onesL_pos (v : verT.den) (r : riskT.den) : (l : List coverT.den) -> onesE v r l = 0 -> ∀ e ∈ onesL v r l, (0 : Int) <= e
 | [], _, _, he => by cases he
 | c :: l, h, e, he => by
  unfold onesE at h
  by_cases h1 : (oneF v r c).2 = 0
  ·rw [if_pos h1] at h
   rcases List.mem_cons.1 he with rfl | he
   ·exact oneF_pos h1
   ·exact onesL_pos v r l h e he
  ·rw [if_neg h1] at h
   exact absurd h h1
theorem sum_pos : (l : List Int) -> (∀ e ∈ l, (0 : Int) <= e) -> 0 <= l.sum
 | [], _ => Int.le_refl 0
 | a :: l, h => by
  rw [List.sum_cons]
  have := sum_pos l (fun e he => h e (List.mem_cons_of_mem _ he))
  have := h a (List.mem_cons_self ..)
  omega
theorem yrGo_sum (v : verT.den) (r : riskT.den) : (l : List coverT.den) -> (q : Int) -> 0 <= q -> q <= 4000000000000000000 -> onesE v r l = 0 ->
  (q + (onesL v r l).sum <= 4000000000000000000 -> (yrGo v r l q true).2.1 = true /\ (yrGo v r l q true).1 = q + (onesL v r l).sum) /\ (¬ q + (onesL v r l).sum <= 4000000000000000000 -> (yrGo v r l q true).2.1 = false)
 | [], q, _, h2, _ => by
  refine ⟨fun _ => ⟨rfl, ?_⟩, fun h => absurd ?_ h⟩
  ·show q = q + 0
   omega
  ·show q + 0 <= _
   omega
 | c :: l, q, h1, h2, h => by
  have hp := onesL_pos v r (c :: l) h
  unfold onesE at h
  by_cases h3 : (oneF v r c).2 = 0
  ·rw [if_pos h3] at h
   have hs : (onesL v r (c :: l)).sum = (oneF v r c).1 + (onesL v r l).sum := by
    show List.sum ((oneF v r c).1 :: onesL v r l) = _
    rw [List.sum_cons]
   have hsp := sum_pos (onesL v r l) (onesL_pos v r l h)
   have hc := oneF_pos h3
   unfold yrGo
   rw [if_pos h3, if_pos rfl, hs]
   by_cases h4 : (oneF v r c).1 > 4000000000000000000 - q
   ·rw [if_pos h4]
    exact ⟨fun hh => absurd hh (by omega), fun _ => yrGo_off v r l q h⟩
   ·rw [if_neg h4]
    obtain ⟨ih1, ih2⟩ := yrGo_sum v r l (q + (oneF v r c).1) (by omega) (by omega) h
    refine ⟨fun hh => ?_, fun hh => ih2 (by omega)⟩
    obtain ⟨j1, j2⟩ := ih1 (by omega)
    exact ⟨j1, by rw [j2]; omega⟩
  ·rw [if_neg h3] at h
   exact absurd h h3
def cYearR : Ct := ⟨[.d verT, .d riskT, .d (.sl coverT)], [i64, i64], fun x => ((yearF x.1 x.2.1 x.2.2.1).1, (yearF x.1 x.2.1 x.2.2.1).2, ()), fun x => [List.length (α := coverT.den) x.2.2.1 <= 1000000]⟩
theorem yearR_eq (v : verT.den) (r : riskT.den) (l : List coverT.den) (hl : l.length <= 1000000) : (frYearR (v, r, l, ())).ok /\ (frYearR (v, r, l, ())).get = ((yearF v r l).1, (yearF v r l).2, ()) := by
 refine Fr.need_ ⟨Int.le_refl _, Int.natCast_nonneg _, by show 0 + (l.length - 0) <= _; omega, hl⟩ ?_
 show (Fr.br (onesE v r l != 0) (Fr.val (0, onesE v r l, ())) (Fr.need (∀ e ∈ onesL v r l, (0 : Int) <= e) (Fr.br (!(sumM (onesL v r l)).2) (Fr.val (0, 5, ())) (Fr.val ((sumM (onesL v r l)).1, 0, ())))) : Fr (denL [i64, i64])).ok /\ (Fr.br (onesE v r l != 0) (Fr.val (0, onesE v r l, ())) (Fr.need (∀ e ∈ onesL v r l, (0 : Int) <= e) (Fr.br (!(sumM (onesL v r l)).2) (Fr.val (0, 5, ())) (Fr.val ((sumM (onesL v r l)).1, 0, ())))) : Fr (denL [i64, i64])).get = _
 unfold yearF
 rw [yrGo_err]
 by_cases he : onesE v r l = 0
 ·obtain ⟨s1, s2⟩ := yrGo_sum v r l 0 (Int.le_refl 0) (by decide) he
  rw [Int.zero_add] at s1 s2
  rw [if_pos he]
  refine Fr.br_f (by rw [he]; rfl) (Fr.need_ (onesL_pos v r l he) ?_)
  unfold sumM
  by_cases hs : (onesL v r l).sum <= 4000000000000000000
  ·obtain ⟨j1, j2⟩ := s1 hs
   rw [if_pos hs, if_pos j1, j2]
   exact Fr.br_f rfl ⟨trivial, rfl⟩
  ·rw [if_neg hs, if_neg (by rw [s2 hs]; decide)]
   exact Fr.br_t rfl ⟨trivial, rfl⟩
 ·rw [if_neg he]
  exact Fr.br_t (bne_iff_ne.2 he) ⟨trivial, rfl⟩
theorem yearR_ok : SoundCt Tryz.prog 81 cYearR :=
 convF yearR_run _ _ (fun w F x vs hr hok => by
  obtain ⟨v, r, l, _⟩ := x
  exact yearR_eq v r l hok)
noncomputable def CQ12 : Cx := cx [(77, cHist), (78, cVerAt), (63, cOrder11), (79, cHoldF), (80, cHolds), (81, cYearR)] []
theorem CQ12_ok : CxOK Tryz.prog CQ12 := cx_ok mixed ⟨r12_Right_ok, ref07_At_ok, order11_ok, holds12_ok, like_ok, yearR_ok, trivial⟩ trivial
abbrev pQA : Pt := ⟨124, 0, ⟨[(13, .d i64), (9, .d ints), (11, .d i64)], [.x 2 31 histT, .r 2 2 0, .x 7 71 verT, .r 7 7 0, .o 10 80 sliceT, .x 12 80 sliceT, .r 12 12 0]⟩, ⟨[(11, .d i64)], [.x 2 31 histT, .r 2 2 0, .x 7 71 verT, .r 7 7 0, .o 10 80 sliceT, .x 12 80 sliceT, .r 12 12 0]⟩, ⟨[], []⟩⟩
abbrev pQB : Pt := ⟨124, 2, ⟨[(16, .d i64)], [.o 10 80 sliceT, .x 7 71 verT, .r 7 7 0]⟩, ⟨[], [.o 10 80 sliceT]⟩, ⟨[(4, .d slsT), (5, .d i64)], []⟩⟩
set_option maxRecDepth 100000 in
def roomS (n m : Nat) : Prop := n + m <= maxLen /\ (n + m) * Tryz.prog.types[80].bytes <= 140737488355328
set_option maxRecDepth 100000 in
theorem bytesS : Tryz.prog.types[80].bytes <= 1000 := by decide
theorem room_s {n m : Nat} (h : n + m <= 1000000) : roomS n m := by
 refine ⟨?_, Nat.le_trans (Nat.mul_le_mul h bytesS) (by decide)⟩
 unfold maxLen
 omega
def fQA (x : pQA.M.X) : Fr pQA.Out :=
 let k : Int := x.1.1; let l : List Int := x.1.2.1; let a : Int := x.1.2.2.1; let h : histT.den := x.2.1; let v : verT.den := x.2.2.1; let o : List sliceT.den := x.2.2.2.1; let s : sliceT.den := x.2.2.2.2.1
 let C : changeT.den := h.2.2.2.1.getD (l.getD k.toNat 0).toNat changeT.dflt
 let N : sliceT.den := (cHoldF.f (h, l, C.2.1, ())).1
 Fr.br (decide (k < (l.length : Int)))
  (Fr.need (0 <= k /\ k < (l.length : Int))
   (Fr.need (0 <= l.getD k.toNat 0 /\ l.getD k.toNat 0 < ((List.length (α := changeT.den) h.2.2.2.1 : Nat) : Int))
    (Fr.need (∀ i ∈ l, 0 <= i /\ i < ((chL h).length : Int))
     (Fr.br ((cHolds.f (s, N, ())).1) (Fr.val (Rd.next ((IntKind.i64.wrap (k + 1), l, a, ()), (h, v, o, s, ()))))
      (Fr.need (roomS o.length [((((a, C.2.1, ()), s.2) : sliceT.den))].length)
       (Fr.val (Rd.next ((IntKind.i64.wrap (k + 1), l, C.2.1, ()), (h, v, o ++ [((((a, C.2.1, ()), s.2) : sliceT.den))], N, ())))))))))
  (Fr.val (Rd.out ((a, ()), (h, v, o, s, ()))))
theorem semQA : Does Tryz.prog (loopF Tryz.f48 0) pQA.M pQA fQA := Does.of_run CQ12_ok (bs := 0) rfl rfl rfl (fun _ => lam0_ok _ 0) (fun x => by kernel_rfl)
def goR (h : histT.den) : List changeT.den -> Int -> sliceT.den -> List sliceT.den -> Int × sliceT.den × List sliceT.den
 | [], a, s, o => (a, s, o)
 | c :: l, a, s, o => if holdsB s (holdF h c.2.1 (orderL h) (firstS h)) = true then goR h l a s o else goR h l c.2.1 (holdF h c.2.1 (orderL h) (firstS h)) (o ++ [((a, c.2.1, ()), s.2)])
structure InQA (k : Int) (l : List Int) (h : histT.den) (o : List sliceT.den) : Prop where
 k0 : 0 <= k
 kl : k <= l.length
 ord : l = orderL h
 room : o.length + (l.length - k.toNat) <= 1000000
 big : l.length <= 1000000
def endQ (h : histT.den) (v : verT.den) (r : Int × sliceT.den × List sliceT.den) : pQA.Out := Rd.out ((r.1, ()), (h, v, r.2.2, r.2.1, ()))
def FQA (x : pQA.M.X) : Fr pQA.Out :=
 let k : Int := x.1.1; let l : List Int := x.1.2.1; let a : Int := x.1.2.2.1; let h : histT.den := x.2.1; let v : verT.den := x.2.2.1; let o : List sliceT.den := x.2.2.2.1; let s : sliceT.den := x.2.2.2.2.1
 Fr.need (InQA k l h o) (Fr.val (endQ h v (goR h ((l.drop k.toNat).map (chAt h)) a s o)))
theorem lawQA (k : Int) (l : List Int) (a : Int) (h : histT.den) (v : verT.den) (o : List sliceT.den) (s : sliceT.den) (hinv : InQA k l h o) (Q : pQA.Out -> Prop)
  (hq : Q (endQ h v (goR h ((l.drop k.toNat).map (chAt h)) a s o))) :
  (fQA ((k, l, a, ()), (h, v, o, s, ()))).satP fun
   | .next x' => InQA x'.1.1 x'.1.2.1 x'.2.1 x'.2.2.2.1 /\ ((List.length (α := Int) x'.1.2.1 : Int) - x'.1.1).toNat < ((l.length : Int) - k).toNat /\ (FQA x').satP Q
   | .out y => Q (.out y)
   | .back z => Q (.back z)
   | .pan p => Q (.pan p) := by
 obtain ⟨h1, h2, h3, h4, h5⟩ := hinv
 refine ⟨fun hi => ?_, fun hi => ?_⟩
 ·have hi' : k < (l.length : Int) := of_decide_eq_true hi
  obtain ⟨k, rfl⟩ : ∃ n : Nat, k = n := ⟨k.toNat, by omega⟩
  have hl : k < l.length := by omega
  have hk : (k : Int).toNat = k := by omega
  rw [hk] at hq h4
  have hw : IntKind.i64.wrap ((k : Int) + 1) = k + 1 := IntWalk.i64_in _ (by omega)
  have g1 : l.getD (k : Int).toNat 0 = l[k] := by
   rw [hk, List.getD_eq_getElem?_getD, List.getElem?_eq_getElem hl]; rfl
  rw [List.drop_eq_getElem_cons hl, List.map_cons] at hq
  have hmem : ∀ i ∈ l, 0 <= i /\ i < ((chL h).length : Int) := fun i him => orderL_mem (by rw [← h3]; exact him)
  have hC : h.2.2.2.1.getD (l[k]).toNat changeT.dflt = chAt h l[k] := rfl
  dsimp only [fQA, Fr.satP]
  rw [g1, hw, hC]
  have hN : (cHoldF.f (h, l, (chAt h l[k]).2.1, ())).1 = holdF h (chAt h l[k]).2.1 (orderL h) (firstS h) := congrArg (fun m => holdF h (chAt h l[k]).2.1 m (firstS h)) h3
  rw [hN]
  have hk1 : ((k : Int) + 1).toNat = k + 1 := by omega
  have hμ : ((l.length : Int) - ((k : Int) + 1)).toNat < ((l.length : Int) - (k : Int)).toNat := by omega
  refine ⟨⟨by omega, by omega⟩, hmem _ (List.getElem_mem hl), hmem, fun hb => ?_, fun hb => ?_⟩
  ·have hb' : holdsB s (holdF h (chAt h l[k]).2.1 (orderL h) (firstS h)) = true := hb
   have e : goR h (chAt h l[k] :: (l.drop (k + 1)).map (chAt h)) a s o = goR h ((l.drop (k + 1)).map (chAt h)) a s o := if_pos hb'
   rw [e] at hq
   have hI : InQA ((k : Int) + 1) l h o := ⟨by omega, by omega, h3, by rw [hk1]; omega, h5⟩
   refine ⟨hI, hμ, hI, ?_⟩
   show Q (endQ h v (goR h ((l.drop ((k : Int) + 1).toNat).map (chAt h)) a s o))
   rw [hk1]
   exact hq
  ·have hb' : ¬ holdsB s (holdF h (chAt h l[k]).2.1 (orderL h) (firstS h)) = true := by
    have : holdsB s (holdF h (chAt h l[k]).2.1 (orderL h) (firstS h)) = false := hb
    rw [this]
    decide
   have e : goR h (chAt h l[k] :: (l.drop (k + 1)).map (chAt h)) a s o = goR h ((l.drop (k + 1)).map (chAt h)) (chAt h l[k]).2.1 (holdF h (chAt h l[k]).2.1 (orderL h) (firstS h)) (o ++ [((a, (chAt h l[k]).2.1, ()), s.2)]) := if_neg hb'
   rw [e] at hq
   have hI : InQA ((k : Int) + 1) l h (o ++ [((((a, (chAt h l[k]).2.1, ()), s.2) : sliceT.den))]) := ⟨by omega, by omega, h3, by rw [hk1, List.length_append, List.length_singleton]; omega, h5⟩
   refine ⟨room_s (by show o.length + 1 <= _; omega), hI, hμ, hI, ?_⟩
   show Q (endQ h v (goR h ((l.drop ((k : Int) + 1).toNat).map (chAt h)) (chAt h l[k]).2.1 (holdF h (chAt h l[k]).2.1 (orderL h) (firstS h)) (o ++ [((a, (chAt h l[k]).2.1, ()), s.2)])))
   rw [hk1]
   exact hq
 ·have hi' : ¬ k < (l.length : Int) := of_decide_eq_false hi
  have : l.drop k.toNat = [] := List.drop_eq_nil_of_le (by omega)
  rw [this] at hq
  exact hq
theorem loopA12 : Does Tryz.prog (.loop (loopF Tryz.f48 0)) pQA.M pQA FQA := by
 refine Does.loop (n := 124) (id := 0) semQA (inv := fun x => InQA x.1.1 x.1.2.1 x.2.1 x.2.2.2.1) (μ := fun x => ((List.length (α := Int) x.1.2.1 : Int) - x.1.1).toNat) ?_ (fun x Q h => h.1)
 rintro ⟨⟨k, l, a, _⟩, h, v, o, s, _⟩ hinv Q hq
 exact lawQA k l a h v o s hinv Q hq.2
def fQB (x : pQB.M.X) : Fr pQB.Out :=
 let k : Int := x.1.1; let o : List sliceT.den := x.2.1; let v : verT.den := x.2.2.1
 let s : sliceT.den := o.getD k.toNat sliceT.dflt
 Fr.br (decide (k < (o.length : Int)))
  (Fr.need (0 <= k /\ k < (o.length : Int)) (Fr.need (k.toNat < o.length)
   (Fr.br (!s.2.1) (Fr.val (Rd.next ((IntKind.i64.wrap (k + 1), ()), (o, v, ()))))
    (Fr.need (0 <= k /\ k < (o.length : Int)) (Fr.need (k.toNat < o.length) (Fr.need (0 <= k /\ k < (o.length : Int)) (Fr.need (k.toNat < o.length)
     (Fr.need (List.length (α := coverT.den) s.2.2.2.1 <= 1000000)
      (Fr.br ((cYearR.f (v, s.2.2.1, s.2.2.2.1, ())).2.1 != 0) (Fr.val (Rd.back (([], (cYearR.f (v, s.2.2.1, s.2.2.2.1, ())).2.1, ()), ())))
       (Fr.need (0 <= k /\ k < (o.length : Int)) (Fr.need (k.toNat < o.length)
        (Fr.val (Rd.next ((IntKind.i64.wrap (k + 1), ()), (o.set k.toNat (setY s (cYearR.f (v, s.2.2.1, s.2.2.2.1, ())).1), v, ())))))))))))))))
  (Fr.val (Rd.out ((), (o, ()))))
theorem semQB : Does Tryz.prog (loopF Tryz.f48 1) pQB.M pQB fQB := Does.of_run CQ12_ok (bs := 0) rfl rfl rfl (fun _ => lam0_ok _ 0) (fun x => by kernel_rfl)
structure InQB (k : Int) (o : List sliceT.den) : Prop where
 k0 : 0 <= k
 kl : k <= o.length
 big : o.length <= 1000002
 few : ∀ s ∈ o, s.2.2.2.1.length <= 1000000
def outQB (l : List sliceT.den) (e : Int) : Fr pQB.Out := Fr.br (e != 0) (Fr.val (Rd.back (([], e, ()), ()))) (Fr.val (Rd.out ((), (l, ()))))
def FQB (x : pQB.M.X) : Fr pQB.Out :=
 let k : Int := x.1.1; let o : List sliceT.den := x.2.1; let v : verT.den := x.2.2.1
 Fr.need (InQB k o) (outQB (o.take k.toNat ++ (o.drop k.toNat).map (priceV v)) (errP v (o.drop k.toNat)))
theorem lawQB (k : Int) (l : List sliceT.den) (v : verT.den) (hinv : InQB k l) (Q : pQB.Out -> Prop) (hq : (outQB (l.take k.toNat ++ (l.drop k.toNat).map (priceV v)) (errP v (l.drop k.toNat))).satP Q) :
  (fQB ((k, ()), (l, v, ()))).satP fun
   | .next x' => InQB x'.1.1 x'.2.1 /\ ((List.length (α := sliceT.den) x'.2.1 : Int) - x'.1.1).toNat < ((l.length : Int) - k).toNat /\ (FQB x').satP Q
   | .out y => Q (.out y)
   | .back z => Q (.back z)
   | .pan p => Q (.pan p) := by
 obtain ⟨h0, h1, h2, h3⟩ := hinv
 obtain ⟨i', rfl⟩ : ∃ n : Nat, k = n := ⟨k.toNat, by omega⟩
 simp only [Int.toNat_natCast] at hq
 dsimp only [fQB, Fr.satP, Ty.den, PT.den]
 simp only [Int.toNat_natCast]
 refine ⟨fun hi => ?_, fun hi => ?_⟩
 ·have hlt : i' < l.length := by have : (i' : Int) < (l.length : Int) := of_decide_eq_true hi; omega
  have w : IntKind.i64.wrap ((i' : Int) + 1) = (i' + 1 : Nat) := succ_nat (by omega)
  rw [w]
  have hg : l.getD i' sliceT.dflt = l[i'] := by rw [List.getD_eq_getElem?_getD, List.getElem?_eq_getElem hlt]; rfl
  have hd : l.drop i' = l.getD i' sliceT.dflt :: l.drop (i' + 1) := by rw [hg]; exact List.drop_eq_getElem_cons hlt
  have hμ : ((l.length : Int) - ((i' + 1 : Nat) : Int)).toNat < ((l.length : Int) - (i' : Int)).toNat := by omega
  have hb : 0 <= (i' : Int) /\ (i' : Int) < (l.length : Int) := ⟨by omega, by omega⟩
  have hmem : l.getD i' sliceT.dflt ∈ l := by rw [hg]; exact List.getElem_mem hlt
  have hfew := h3 _ hmem
  rw [hd] at hq
  generalize hs : l.getD i' sliceT.dflt = s at *
  have htk : l.take (i' + 1) = l.take i' ++ [s] := by
   rw [hg]
   exact (List.take_append_getElem hlt).symm
  refine ⟨hb, hlt, fun hoff => ?_, fun hon => ⟨hb, hlt, hb, hlt, hfew, fun he => ?_, fun he => ⟨hb, hlt, ?_⟩⟩⟩
  ·have hoff' : ¬ s.2.1 = true := by
    intro hx
    rw [hx] at hoff
    cases hoff
   have hI : InQB ((i' + 1 : Nat) : Int) l := ⟨by omega, by omega, h2, h3⟩
   refine ⟨hI, hμ, hI, ?_⟩
   have e1 : errP v (s :: l.drop (i' + 1)) = errP v (l.drop (i' + 1)) := if_neg hoff'
   have e2 : priceV v s = s := if_neg hoff'
   rw [e1, List.map_cons, e2] at hq
   show (outQB (l.take (i' + 1) ++ (l.drop (i' + 1)).map (priceV v)) (errP v (l.drop (i' + 1)))).satP Q
   rw [htk, List.append_assoc]
   exact hq
  ·have hon' : s.2.1 = true := by
    cases hx : s.2.1 with
    | true => rfl
    | false => rw [hx] at hon; cases hon
   have he' : ¬ (yrS v s).2 = 0 := bne_iff_ne.1 he
   have e1 : errP v (s :: l.drop (i' + 1)) = (yrS v s).2 := by
    unfold errP
    rw [if_pos hon', if_neg he']
   rw [e1] at hq
   exact hq.1 he
  ·have hon' : s.2.1 = true := by
    cases hx : s.2.1 with
    | true => rfl
    | false => rw [hx] at hon; cases hon
   have he' : (yrS v s).2 = 0 := by
    have : ((yrS v s).2 != 0) = false := he
    simpa using this
   have hlen : (l.set i' (setY s (yrS v s).1)).length = l.length := List.length_set
   have hI : InQB ((i' + 1 : Nat) : Int) (l.set i' (setY s (yrS v s).1)) := ⟨by omega, by rw [hlen]; omega, by rw [hlen]; exact h2, fun t ht => by
    rcases List.mem_or_eq_of_mem_set ht with ht | rfl
    ·exact h3 t ht
    ·exact hfew⟩
   refine ⟨hI, by show ((List.length (l.set i' (setY s (yrS v s).1)) : Int) - ((i' + 1 : Nat) : Int)).toNat < _; rw [hlen]; exact hμ, hI, ?_⟩
   have e1 : errP v (s :: l.drop (i' + 1)) = errP v (l.drop (i' + 1)) := by
    conv => lhs; unfold errP
    rw [if_pos hon', if_pos he']
   have e2 : priceV v s = setY s (yrS v s).1 := if_pos hon'
   rw [e1, List.map_cons, e2] at hq
   show (outQB ((l.set i' (setY s (yrS v s).1)).take (i' + 1) ++ ((l.set i' (setY s (yrS v s).1)).drop (i' + 1)).map (priceV v)) (errP v ((l.set i' (setY s (yrS v s).1)).drop (i' + 1)))).satP Q
   have e3 : (l.set i' (setY s (yrS v s).1)).drop (i' + 1) = l.drop (i' + 1) := List.drop_set_of_lt (by omega)
   have e4 : (l.set i' (setY s (yrS v s).1)).take (i' + 1) = l.take i' ++ [setY s (yrS v s).1] := by
    rw [List.take_add_one, List.take_set_of_le (by omega)]
    simp [hlt]
   rw [e3, e4, List.append_assoc]
   exact hq
 ·have hge : ¬ i' < l.length := by have : ¬ (i' : Int) < (l.length : Int) := of_decide_eq_false hi; omega
  rw [List.drop_eq_nil_of_le (by omega), List.take_of_length_le (by omega)] at hq
  have hq' := hq.2 rfl
  simp only [List.map_nil, List.append_nil] at hq'
  exact hq'
theorem loopB12 : Does Tryz.prog (.loop (loopF Tryz.f48 1)) pQB.M pQB FQB := by
 refine Does.loop (n := 124) (id := 2) semQB (inv := fun x => InQB x.1.1 x.2.1) (μ := fun x => ((List.length (α := sliceT.den) x.2.1 : Int) - x.1.1).toNat) ?_ (fun x Q h => h.1)
 rintro ⟨⟨k, _⟩, l, v, _⟩ hinv Q hq
 exact lawQB k l v hinv Q hq.2
def frQ2 (v : verT.den) (L : List sliceT.den) : Fr (denL [slsT, i64]) :=
 Fr.need (InQB 0 L) (Fr.br (errP v (L.drop (0 : Int).toNat) != 0) (Fr.val ([], errP v (L.drop (0 : Int).toNat), ())) (Fr.val (L.take (0 : Int).toNat ++ (L.drop (0 : Int).toNat).map (priceV v), 0, ())))
def lastQ (b : Int) (r : Int × sliceT.den × List sliceT.den) : sliceT.den := ((r.1, b, ()), r.2.1.2)
def frQ1 (v : verT.den) (b : Int) (r : Int × sliceT.den × List sliceT.den) : Fr (denL [slsT, i64]) :=
 Fr.need (roomS r.2.2.length [lastQ b r].length) (frQ2 v (r.2.2 ++ [lastQ b r]))
def runR (h : histT.den) : Int × sliceT.den × List sliceT.den := goR h (((orderL h).drop (0 : Int).toNat).map (chAt h)) h.2.2.1.1.1 (cHoldF.f (h, orderL h, h.2.2.1.1.1, ())).1 []
def frQ (x : denP [.d histT, .d tarT]) : Fr (denL [slsT, i64]) :=
 let h : histT.den := x.1; let t : tarT.den := x.2.1
 Fr.br (!(cHist.f (h, ())).1) (Fr.val ([], 1, ()))
  (Fr.br ((cVerAt.f (t, h.2.2.1.1.1, ())).2.1 != 0) (Fr.val ([], (cVerAt.f (t, h.2.2.1.1.1, ())).2.1, ()))
   (Fr.need (((chL h).length : Int) <= 1000000)
    (Fr.need (∀ i ∈ orderL h, 0 <= i /\ i < ((chL h).length : Int))
     (Fr.need (InQA 0 (orderL h) h [])
      (frQ1 (cVerAt.f (t, h.2.2.1.1.1, ())).1 h.2.2.1.1.2.1 (runR h))))))
theorem q_run : SoundCt Tryz.prog 48 ⟨[.d histT, .d tarT], [slsT, i64], fun xs => (frQ xs).get, fun xs => [(frQ xs).ok]⟩ :=
 fn_sound CQ12_ok (Λ := (fun k => if k = 0 then pQA.han CQ12.Γ pQA.M FQA else pQB.han CQ12.Γ pQB.M FQB)) (fn := Tryz.f48) (fr := frQ) (ps := [.d histT, .d tarT]) (rs := [slsT, i64]) (histT.dflt, tarT.dflt, ()) (by kernel_rfl)
  (fun c E hc => lam2f hc (by kernel_rfl) (b0 := loopF Tryz.f48 0) (b1 := loopF Tryz.f48 1) (by kernel_rfl) (by kernel_rfl) (Does.han CQ12_ok rfl loopA12) (Does.han CQ12_ok rfl loopB12)) (fun x => by kernel_rfl)
theorem holdF_span (h : histT.den) (d : Int) : (l : List Int) -> (s : sliceT.den) -> (holdF h d l s).2.2.2.2.1 = s.2.2.2.2.1
 | [], _ => rfl
 | i :: l, s => by
  unfold holdF
  rw [holdF_span h d l]
  split
  ·rfl
  ·exact (does_span s _).2
def nxQ (h : histT.den) (d : Int) : sliceT.den := holdF h d (orderL h) (firstS h)
theorem nxQ_core (h : histT.den) (d : Int) : coreS (nxQ h d) = stOf h d := holdF_core h d (orderL h) (firstS h)
theorem nxQ_yearly (h : histT.den) (d : Int) : (nxQ h d).2.2.2.2.1 = (0 : Int) := holdF_span h d (orderL h) (firstS h)
theorem Runs.snoc {st : Int -> Core} {m n : Int} {s : sliceT.den} (h1 : s.1.1 = m) (h2 : s.1.2.1 = n) (h3 : m < n) (h4 : s.2.2.2.2.1 = (0 : Int)) (h5 : ∀ d, m <= d -> d < n -> coreS s = st d) :
  {a : Int} -> {l : List sliceT.den} -> Runs st m a l -> (∀ t, l.getLast? = some t -> coreS t ≠ coreS s) -> Runs st n a (l ++ [s])
 | a, [], h, _ => by
  have h0 : a = m := h
  subst h0
  exact ⟨h1, by rw [h2]; exact h3, h4, by rw [h2]; exact h5, fun t ht => (by cases ht), h2⟩
 | a, t :: l, h, hl => by
  obtain ⟨k1, k2, k3, k4, k5, k6⟩ := h
  refine ⟨k1, k2, k3, k4, ?_, Runs.snoc h1 h2 h3 h4 h5 k6 (fun u hu => hl u ?_)⟩
  ·intro u hu
   cases l with
   | nil =>
    have hu' : some s = some u := hu
    cases hu'
    exact hl t rfl
   | cons x l => exact k5 u hu
  ·cases l with
   | nil => cases hu
   | cons x l => rw [List.getLast?_cons_cons]; exact hu
theorem st_same {h : histT.den} {a d : Int} (had : a <= d) (hn : ∀ c ∈ chsO h, c.2.1 <= a ∨ d < c.2.1) : stOf h d = stOf h a := by
 unfold stOf
 rw [← holdK_filter d (chsO h), ← holdK_filter a (chsO h)]
 have : ((chsO h).filter fun c => decide (c.2.1 <= d)) = (chsO h).filter fun c => decide (c.2.1 <= a) := by
  apply List.filter_congr
  intro c hc
  rw [decide_eq_decide]
  rcases hn c hc with q | q
  ·exact ⟨fun _ => q, fun _ => Int.le_trans q had⟩
  ·exact ⟨fun q2 => absurd q (Int.not_lt.2 q2), fun q2 => Int.le_trans q2 had⟩
 rw [this]
 refine holdK_all (fun c hc => ?_) (fun c hc => ?_) _
 ·have := of_decide_eq_true (List.mem_filter.1 hc).2
  exact Int.le_trans this had
 ·exact of_decide_eq_true (List.mem_filter.1 hc).2
def finQ (b : Int) (r : Int × sliceT.den × List sliceT.den) : List sliceT.den := r.2.2 ++ [lastQ b r]
theorem goR_runs {h : histT.den} {a0 b : Int} : (l p : List changeT.den) -> p ++ l = chsO h -> (a lo : Int) -> (s : sliceT.den) -> (o : List sliceT.den) -> (∀ x ∈ p, x.2.1 <= lo) -> a <= lo -> lo < b -> (∀ d, a <= d -> d <= lo -> stOf h d = coreS s) -> s.2.2.2.2.1 = (0 : Int) ->
  Runs (stOf h) a a0 o -> (∀ t, o.getLast? = some t -> coreS t ≠ coreS s) -> (∀ x ∈ l, lo <= x.2.1 /\ x.2.1 < b) -> l.Pairwise (fun x y => x.2.1 <= y.2.1) -> Runs (stOf h) b a0 (finQ b (goR h l a s o))
 | [], p, hp, a, lo, s, o, h1, h2, h3, h4, h5, h6, h7, _, _ => by
  rw [List.append_nil] at hp
  refine Runs.snoc (s := ((a, b, ()), s.2)) rfl rfl (Int.lt_of_le_of_lt h2 h3) h5 (fun d q1 q2 => ?_) h6 h7
  show coreS s = stOf h d
  by_cases hd : d <= lo
  ·exact (h4 d q1 hd).symm
  ·rw [st_same (a := lo) (d := d) (Int.le_of_lt (Int.not_le.1 hd)) (fun c hc => .inl (h1 c (by rw [hp]; exact hc)))]
   exact (h4 lo h2 (Int.le_refl _)).symm
 | c :: l, p, hp, a, lo, s, o, h1, h2, h3, h4, h5, h6, h7, h8, h9 => by
  obtain ⟨c1, c2⟩ := h8 c (List.mem_cons_self ..)
  have hpw := List.pairwise_cons.1 h9
  have hcut : ∀ x ∈ chsO h, x.2.1 <= lo ∨ c.2.1 <= x.2.1 := fun x hx => by
   rw [← hp, List.mem_append] at hx
   rcases hx with hx | hx
   ·exact .inl (h1 x hx)
   ·rcases List.mem_cons.1 hx with rfl | hx
    ·exact .inr (Int.le_refl _)
    ·exact .inr (hpw.1 x hx)
  have hmid : ∀ d, a <= d -> d < c.2.1 -> stOf h d = coreS s := fun d q1 q2 => by
   by_cases hd : d <= lo
   ·exact h4 d q1 hd
   ·rw [st_same (a := lo) (d := d) (Int.le_of_lt (Int.not_le.1 hd)) (fun x hx => (hcut x hx).imp_right fun q => Int.lt_of_lt_of_le q2 q)]
    exact h4 lo h2 (Int.le_refl _)
  have hp' : (p ++ [c]) ++ l = chsO h := by
   rw [List.append_assoc]
   exact hp
  have hpl : ∀ x ∈ p ++ [c], x.2.1 <= c.2.1 := fun x hx => by
   rcases List.mem_append.1 hx with hx | hx
   ·exact Int.le_trans (h1 x hx) c1
   ·rw [List.mem_singleton.1 hx]
    exact Int.le_refl _
  have hll : ∀ x ∈ l, c.2.1 <= x.2.1 /\ x.2.1 < b := fun x hx => ⟨hpw.1 x hx, (h8 x (List.mem_cons_of_mem _ hx)).2⟩
  unfold goR
  by_cases hlike : holdsB s (holdF h c.2.1 (orderL h) (firstS h)) = true
  ·rw [if_pos hlike]
   have hc : coreS s = stOf h c.2.1 := (holdsB_iff.1 hlike).trans (nxQ_core h c.2.1)
   refine goR_runs l (p ++ [c]) hp' a c.2.1 s o hpl (Int.le_trans h2 c1) c2 (fun d q1 q2 => ?_) h5 h6 h7 hll hpw.2
   by_cases hd : d < c.2.1
   ·exact hmid d q1 hd
   ·have : d = c.2.1 := Int.le_antisymm q2 (Int.not_lt.1 hd)
    rw [this]
    exact hc.symm
  ·rw [if_neg hlike]
   have hne : coreS s ≠ stOf h c.2.1 := fun hh => hlike (holdsB_iff.2 (hh.trans (nxQ_core h c.2.1).symm))
   have hlt : a < c.2.1 := by
    apply Classical.byContradiction
    intro hn
    have hge := Int.not_lt.1 hn
    have e : c.2.1 = a := Int.le_antisymm hge (Int.le_trans h2 c1)
    exact hne (by rw [e]; exact (h4 a (Int.le_refl _) h2).symm)
   refine goR_runs l (p ++ [c]) hp' c.2.1 c.2.1 (nxQ h c.2.1) (o ++ [((a, c.2.1, ()), s.2)]) hpl (Int.le_refl _) c2 (fun d q1 q2 => ?_) (nxQ_yearly h c.2.1) ?_ ?_ hll hpw.2
   ·have : d = c.2.1 := Int.le_antisymm q2 q1
    rw [this]
    exact (nxQ_core h c.2.1).symm
   ·exact Runs.snoc (s := ((a, c.2.1, ()), s.2)) rfl rfl hlt h5 (fun d q1 q2 => (hmid d q1 q2).symm) h6 h7
   ·intro t ht
    rw [List.getLast?_concat] at ht
    cases ht
    rw [nxQ_core]
    exact hne
theorem goR_length (h : histT.den) : (l : List changeT.den) -> (a : Int) -> (s : sliceT.den) -> (o : List sliceT.den) -> (goR h l a s o).2.2.length <= o.length + l.length
 | [], _, _, _ => Nat.le_refl _
 | c :: l, a, s, o => by
  unfold goR
  split
  ·have := goR_length h l a s o
   rw [List.length_cons]
   omega
  ·have := goR_length h l c.2.1 (holdF h c.2.1 (orderL h) (firstS h)) (o ++ [((a, c.2.1, ()), s.2)])
   rw [List.length_append, List.length_singleton] at this
   rw [List.length_cons]
   omega
theorem runR_cut {h : histT.den} (hh : histB h = true) : finQ h.2.2.1.1.2.1 (runR h) = cutL h := by
 have ho := histOk hh
 refine Runs.uniq ?_ (cutL_runs hh)
 refine goR_runs (h := h) (chsO h) [] rfl h.2.2.1.1.1 h.2.2.1.1.1 (nxQ h h.2.2.1.1.1) [] (fun x hx => (by cases hx)) (Int.le_refl _) ho.ab (fun d q1 q2 => ?_) (nxQ_yearly h _) rfl (fun t ht => (by cases ht)) (fun x hx => ?_) (chsO_sorted h)
 ·have : d = h.2.2.1.1.1 := Int.le_antisymm q2 q1
  rw [this]
  exact (nxQ_core h _).symm
 ·exact (ho.chs x (chsO_mem hx)).2
theorem Runs.memQ {st : Int -> Core} {b : Int} : {a : Int} -> {l : List sliceT.den} -> Runs st b a l -> ∀ s ∈ l, a <= s.1.1 /\ s.1.1 < s.1.2.1 /\ s.1.2.1 <= b /\ ∀ d, s.1.1 <= d -> d < s.1.2.1 -> coreS s = st d
 | _, [], _, _, hs => by cases hs
 | a, t :: l, h, s, hs => by
  obtain ⟨h1, h2, h3, h4, h5, h6⟩ := h
  rcases List.mem_cons.1 hs with rfl | hs
  ·rw [h1]
   exact ⟨Int.le_refl _, h2, h6.le, h4⟩
  ·obtain ⟨q1, q2⟩ := Runs.memQ h6 s hs
   exact ⟨Int.le_trans (Int.le_of_lt h2) q1, q2⟩
theorem holdK_few {d : Int} {n : Nat} : (l : List changeT.den) -> (k : Core) -> (∀ c ∈ l, c.2.2.2.2.1.length <= n) -> k.2.2.length <= n -> (holdK d l k).2.2.length <= n
 | [], _, _, hk => hk
 | c :: l, k, hl, hk => by
  unfold holdK
  refine holdK_few l _ (fun x hx => hl x (List.mem_cons_of_mem _ hx)) ?_
  split
  ·exact hk
  ·unfold doesK
   repeat' split
   all_goals first | exact hk | exact hl c (List.mem_cons_self ..)
theorem cutL_few {h : histT.den} (hh : histB h = true) (hf : fewH h) : ∀ s ∈ cutL h, s.2.2.2.1.length <= 1000000 := fun s hs => by
 obtain ⟨_, m2, _, m4⟩ := (cutL_runs hh).memQ s hs
 have hc := m4 s.1.1 (Int.le_refl _) m2
 have e : s.2.2.2.1 = (stOf h s.1.1).2.2 := congrArg (fun k : Core => k.2.2) hc
 rw [e]
 exact holdK_few (chsO h) _ (fun c hc => hf.2.2 c (chsO_mem hc)) hf.2.1
theorem q2_eq {v : verT.den} {L : List sliceT.den} (hl : L.length <= 1000002) (hf : ∀ s ∈ L, s.2.2.2.1.length <= 1000000) :
  (frQ2 v L).ok /\ (frQ2 v L).get = if errP v L = 0 then (L.map (priceV v), 0, ()) else ([], errP v L, ()) := by
 refine Fr.need_ ⟨Int.le_refl _, Int.natCast_nonneg _, hl, hf⟩ ?_
 by_cases he : errP v L = 0
 ·rw [if_pos he]
  exact Fr.br_f (by show (errP v L != 0) = false; rw [he]; rfl) ⟨trivial, rfl⟩
 ·rw [if_neg he]
  exact Fr.br_t (bne_iff_ne.2 he) ⟨trivial, rfl⟩
theorem of12_ok : SoundCt Tryz.prog 48 cOf :=
 convF q_run _ _ (fun w F x vs hr hok => by
  obtain ⟨h, t, _⟩ := x
  obtain ⟨hf, f4⟩ : fewH h /\ fewT t := hok
  show (frQ (h, t, ())).ok /\ (frQ (h, t, ())).get = ((ofF h t).1, (ofF h t).2, ())
  unfold ofF
  cases hh : histB h with
  | false =>
   refine Fr.br_t ?_ ⟨trivial, rfl⟩
   show (!(histB h)) = true
   rw [hh]
   rfl
  | true =>
   rw [if_pos rfl]
   refine Fr.br_f ?_ ?_
   ·show (!(histB h)) = false
    rw [hh]
    rfl
   ·by_cases hv : (verAt h.2.2.1.1.1 t.1.reverse).2 = 0
    ·rw [if_pos hv]
     have hlen := orderL_length h
     have hf1 := hf.1
     have hgo : (runR h).2.2.length <= (chL h).length := by
      have := goR_length h (((orderL h).drop (0 : Int).toNat).map (chAt h)) h.2.2.1.1.1 (cHoldF.f (h, orderL h, h.2.2.1.1.1, ())).1 []
      have e : (((orderL h).drop (0 : Int).toNat).map (chAt h)).length = (chL h).length := by
       rw [List.length_map]
       exact hlen
      rw [e] at this
      have h2 : (runR h).2.2.length <= 0 + (chL h).length := this
      omega
     refine Fr.br_f ?_ (Fr.need_ ?_ (Fr.need_ (fun i hi => orderL_mem hi) (Fr.need_ ⟨Int.le_refl _, Int.natCast_nonneg _, rfl, ?_, ?_⟩ (Fr.need_ (room_s ?_) ?_))))
     ·show ((verAt h.2.2.1.1.1 t.1.reverse).2 != 0) = false
      rw [hv]
      rfl
     ·show ((chL h).length : Int) <= 1000000
      omega
     ·show 0 + ((orderL h).length - 0) <= 1000000
      omega
     ·show (orderL h).length <= 1000000
      omega
     ·show (runR h).2.2.length + 1 <= 1000000
      omega
     ·have hfin : (runR h).2.2 ++ [lastQ h.2.2.1.1.2.1 (runR h)] = cutL h := runR_cut hh
      have hcl : (cutL h).length <= 1000002 := by
       rw [← hfin, List.length_append, List.length_singleton]
       omega
      show (frQ2 (verAt h.2.2.1.1.1 t.1.reverse).1 ((runR h).2.2 ++ [lastQ h.2.2.1.1.2.1 (runR h)])).ok /\ (frQ2 (verAt h.2.2.1.1.1 t.1.reverse).1 ((runR h).2.2 ++ [lastQ h.2.2.1.1.2.1 (runR h)])).get = _
      rw [hfin]
      have := q2_eq (v := (verAt h.2.2.1.1.1 t.1.reverse).1) hcl (cutL_few hh hf)
      refine ⟨this.1, this.2.trans ?_⟩
      split <;> rfl
    ·rw [if_neg hv]
     refine Fr.br_t ?_ ⟨trivial, rfl⟩
     show ((verAt h.2.2.1.1.1 t.1.reverse).2 != 0) = true
     exact bne_iff_ne.2 hv)
noncomputable def CKr : Cx := cx [(48, cOf), (30, cTurnR), (31, cWithout), (49, cBetwG), (28, cBp)] []
theorem CKr_ok : CxOK Tryz.prog CKr := cx_ok mixed ⟨of12_ok, turnR_ok, withoutR_ok, between14_ok, bpR_ok, trivial⟩ trivial
def frKr2 (h x : histT.den) (t : tarT.den) (a : Int) : Fr (denL [i64, i64]) :=
 let day : Int := ((chL h).getD a.toNat changeT.dflt).2.1
 let B : denL [i64, i64] := cBetwG.f ((cOf.f (x, t, ())).1, (day, h.2.2.1.1.2.1, ()), ())
 Fr.need (fewH x) (Fr.need (fewT t)
  (Fr.br ((cOf.f (x, t, ())).2.1 != 0) (Fr.val (0, (cOf.f (x, t, ())).2.1, ()))
   (Fr.need (0 <= a /\ a < ((chL h).length : Int))
    (Fr.br (B.2.1 != 0) (Fr.val (0, B.2.1, ())) (Fr.val ((cBp.f (B.1, 1000, ())).1, (cBp.f (B.1, 1000, ())).2.1, ()))))))
def frKeptR (x : denP [.d histT, .d tarT]) : Fr (denL [i64, i64]) :=
 let h : histT.den := x.1; let t : tarT.den := x.2.1
 let a : Int := (cTurnR.f (h, ())).1
 Fr.need (fewH h) (Fr.need (fewT t) (Fr.br ((cOf.f (h, t, ())).2.1 != 0) (Fr.val (0, (cOf.f (h, t, ())).2.1, ()))
  (Fr.need (((chL h).length : Int) <= 1000000)
   (Fr.need (decide (a < 0) = false -> 0 <= a /\ a < ((chL h).length : Int))
    (Fr.need ((bif decide (a < 0) then true else ((chL h).getD a.toNat changeT.dflt).2.2.1 != 3) = false -> 0 <= a /\ a < ((chL h).length : Int))
     (Fr.br (bif bif decide (a < 0) then true else ((chL h).getD a.toNat changeT.dflt).2.2.1 != 3 then true else ((chL h).getD a.toNat changeT.dflt).2.2.2.2.2.1 != 1) (Fr.val (0, 0, ()))
      (Fr.need ((chL h).length <= 500000) (frKr2 h (cWithout.f (h, a, ())).1 t a))))))))
theorem keptR_run : SoundCt Tryz.prog 19 ⟨[.d histT, .d tarT], [i64, i64], fun xs => (frKeptR xs).get, fun xs => [(frKeptR xs).ok]⟩ :=
 fn_sound CKr_ok (Λ := lam0) (fn := Tryz.f19) (fr := frKeptR) (ps := [.d histT, .d tarT]) (rs := [i64, i64]) (histT.dflt, tarT.dflt, ()) (by kernel_rfl) (fun c E _ => lam0_ok c 0) (fun x => by kernel_rfl)
theorem kr2_eq {h x : histT.den} {t : tarT.den} {a : Int} (hx : fewH x) (ht : fewT t) (ha : 0 <= a /\ a < ((chL h).length : Int)) : (frKr2 h x t a).ok /\ (frKr2 h x t a).get =
  (let r : Int × Int := if (ofF x t).2 = 0 then (if (BetwG (ofF x t).1 ((chAt h a).2.1, h.2.2.1.1.2.1, ())).2 = 0 then bpF (BetwG (ofF x t).1 ((chAt h a).2.1, h.2.2.1.1.2.1, ())).1 1000 else (0, (BetwG (ofF x t).1 ((chAt h a).2.1, h.2.2.1.1.2.1, ())).2)) else (0, (ofF x t).2)
   (r.1, r.2, ())) := by
 refine Fr.need_ hx (Fr.need_ ht ?_)
 by_cases h1 : (ofF x t).2 = 0
 ·refine Fr.br_f (by show ((ofF x t).2 != 0) = false; simp [h1]) (Fr.need_ ha ?_)
  simp only [h1, if_true]
  by_cases h2 : (BetwG (ofF x t).1 ((chAt h a).2.1, h.2.2.1.1.2.1, ())).2 = 0
  ·refine Fr.br_f (by show ((BetwG (ofF x t).1 ((chAt h a).2.1, h.2.2.1.1.2.1, ())).2 != 0) = false; simp [h2]) ⟨trivial, ?_⟩
   simp only [h2, if_true]
   rfl
  ·refine Fr.br_t (by show ((BetwG (ofF x t).1 ((chAt h a).2.1, h.2.2.1.1.2.1, ())).2 != 0) = true; simp [h2]) ⟨trivial, ?_⟩
   simp only [h2, if_false]
   rfl
 ·refine Fr.br_t (by show ((ofF x t).2 != 0) = true; simp [h1]) ⟨trivial, ?_⟩
  simp only [h1, if_false]
  rfl
theorem keptR_eq (h : histT.den) (t : tarT.den) (hf : fewH h) (ht : fewT t) : (frKeptR (h, t, ())).ok /\ (frKeptR (h, t, ())).get = ((keptF h t).1, (keptF h t).2, ()) := by
 have hl : (chL h).length <= 500000 := hf.1
 refine Fr.need_ hf (Fr.need_ ht ?_)
 unfold keptF
 by_cases h1 : (ofF h t).2 = 0
 ·refine Fr.br_f (by show ((ofF h t).2 != 0) = false; simp [h1]) (Fr.need_ (show ((chL h).length : Int) <= 1000000 by omega) ?_)
  rw [if_pos h1]
  cases ho : turnO h with
  | none =>
   have e1 : (cTurnR.f (h, ())).1 = -1 := by show (turnO h).getD (-1) = -1; rw [ho]; rfl
   rw [e1]
   exact Fr.need_ (fun hh => by cases hh) (Fr.need_ (fun hh => by cases hh) (Fr.br_t rfl ⟨trivial, rfl⟩))
  | some a =>
   obtain ⟨⟨a0, a1⟩, hT⟩ := turnO_mem ho
   have e1 : (cTurnR.f (h, ())).1 = a := by show (turnO h).getD (-1) = a; rw [ho]; rfl
   have e2 : decide (a < 0) = !true := decide_eq_false (by omega)
   rw [e1, e2]
   refine Fr.need_ (fun _ => ⟨a0, a1⟩) (Fr.need_ (fun _ => ⟨a0, a1⟩) ?_)
   show _ /\ _ = ((keptA h t a).1, (keptA h t a).2, ())
   cases hb : (bif bif !true then true else ((chL h).getD a.toNat changeT.dflt).2.2.1 != 3 then true else ((chL h).getD a.toNat changeT.dflt).2.2.2.2.2.1 != 1) with
   | true =>
    refine Fr.br_t rfl ⟨trivial, ?_⟩
    have hn : ¬ ((chAt h a).2.2.1 = 3 /\ (chAt h a).2.2.2.2.2.1 = 1) := fun hh => by
     have hb' : (bif bif !true then true else (chAt h a).2.2.1 != 3 then true else (chAt h a).2.2.2.2.2.1 != 1) = true := hb
     rw [bif3k.2 ⟨rfl, hh⟩] at hb'
     cases hb'
    unfold keptA
    rw [if_neg hn]
    rfl
   | false =>
    obtain ⟨_, k1, k2⟩ := bif3k.1 hb
    obtain ⟨n, rfl⟩ : ∃ n : Nat, a = n := ⟨a.toNat, by omega⟩
    have hwf := without_few hf n
    refine Fr.br_f rfl (Fr.need_ hl ?_)
    have hx : (cWithout.f (h, (n : Int), ())).1 = without h n := by
     show setCh h (woL (chL h) n (chL h).length) = setCh h _
     rw [woL_all]
    rw [hx]
    have := kr2_eq (h := h) (x := without h n) (t := t) (a := n) hwf ht ⟨a0, a1⟩
    refine ⟨this.1, this.2.trans ?_⟩
    unfold keptA
    have hk : (chAt h n).2.2.1 = 3 /\ (chAt h n).2.2.2.2.2.1 = 1 := ⟨k1, k2⟩
    rw [if_pos hk, Int.toNat_natCast]
 ·refine Fr.br_t (by show ((ofF h t).2 != 0) = true; simp [h1]) ⟨trivial, ?_⟩
  rw [if_neg h1]
  rfl
theorem keptR_ok : SoundCt Tryz.prog 19 cKeptP :=
 convF keptR_run _ _ (fun w F x vs hr hok => by
  obtain ⟨h, t, _⟩ := x
  exact keptR_eq h t hok.1 hok.2)
noncomputable def CDr : Cx := cx [(19, cKeptP), (48, cOf), (50, cWritten)] []
theorem CDr_ok : CxOK Tryz.prog CDr := cx_ok mixed ⟨keptR_ok, of12_ok, written14_ok, trivial⟩ trivial
def frDueR (x : denP [.d histT, .d tarT]) : Fr (denL [i64, i64]) :=
 frDueG x.1 x.2.1 (decide (IntKind.i64.wrap ((cWritten.f ((cOf.f (x.1, x.2.1, ())).1, ())).1 + (cKeptP.f (x.1, x.2.1, ())).1) > 4000000000000000000))
theorem dueR_run : SoundCt Tryz.prog 21 ⟨[.d histT, .d tarT], [i64, i64], fun xs => (frDueR xs).get, fun xs => [(frDueR xs).ok]⟩ :=
 fn_sound CDr_ok (Λ := lam0) (fn := Tryz.f21) (fr := frDueR) (ps := [.d histT, .d tarT]) (rs := [i64, i64]) (histT.dflt, tarT.dflt, ()) (by kernel_rfl) (fun c E _ => lam0_ok c 0) (fun x => by kernel_rfl)
theorem dueR_ok : SoundCt Tryz.prog 21 cDue :=
 convF dueR_run _ _ (fun w F x vs hr hok => by
  obtain ⟨h, t, _⟩ := x
  have k := keptF_val h t
  have u := UptoF_val (ofF h t).1 292195
  refine dueG_eq hok.1 hok.2 ?_
  show decide (IntKind.i64.wrap ((UptoF (ofF h t).1 292195).1 + (keptF h t).1) > 4000000000000000000) = _
  rw [i64w (by omega)])
noncomputable def CGr : Cx := cx [(51, cPut), (21, cDue)] []
theorem CGr_ok : CxOK Tryz.prog CGr := cx_ok mixed ⟨putR_ok, dueR_ok, trivial⟩ trivial
theorem givenR_run : SoundCt Tryz.prog 23 ⟨[.d histT, .d tarT, .d changeT], [i64, i64], fun xs => (frGiven xs).get, fun xs => [(frGiven xs).ok]⟩ :=
 fn_sound CGr_ok (Λ := lam0) (fn := Tryz.f23) (fr := frGiven) (ps := [.d histT, .d tarT, .d changeT]) (rs := [i64, i64]) (histT.dflt, tarT.dflt, changeT.dflt, ()) (by kernel_rfl) (fun c E _ => lam0_ok c 0) (fun x => by kernel_rfl)
theorem givenR_ok : SoundCt Tryz.prog 23 cGiven :=
 convF givenR_run _ _ (fun w F x vs hr hok => by
  obtain ⟨h, t, c, _⟩ := x
  exact given_eq h t c hok.1 hok.2.1 hok.2.2)
def Hp : histT.den := (1, 1, ((1, 101, ()), (0, 36500, 0, 0, ()), [(1, 10, 10, 0, 10000, ())], ()), [], ())
def Tp : tarT.den := ([(1, (10000, 0, 0, 0, ()), [], [10000], [10000, 10000, 10000, 10000, 10000, 10000, 10000, 10000], 0, ())], ())
noncomputable def CEx : Cx := cx [] []
theorem CEx_ok : CxOK Tryz.prog CEx := cx_ok (cs := []) (ps := []) mixed trivial trivial
def cPlain : Ct := ⟨[], [histT, tarT], fun _ => (Hp, Tp, ()), fun _ => []⟩
theorem plain15_ok : SoundCt Tryz.prog 43 cPlain :=
 convF (fn_sound CEx_ok (Λ := lam0) (fn := Tryz.f43) (fr := fun _ => Fr.val (Hp, Tp, ())) (ps := []) (rs := [histT, tarT]) () (by kernel_rfl) (fun c E _ => lam0_ok c 0) (fun x => by kernel_rfl)) _ _ (fun _ _ _ _ _ _ => ⟨trivial, rfl⟩)
def canC (booked day way : Int) : changeT.den := (booked, day, 3, (0, 0, 0, 0, ()), [], way, ())
def cCancel : Ct := ⟨[.d i64, .d i64, .d i64], [changeT], fun x => (canC x.1 x.2.1 x.2.2.1, ()), fun _ => []⟩
theorem cancel_ok : SoundCt Tryz.prog 25 cCancel :=
 convF (fn_sound CEx_ok (Λ := lam0) (fn := Tryz.f25) (fr := fun x => Fr.val (canC x.1 x.2.1 x.2.2.1, ())) (ps := [.d i64, .d i64, .d i64]) (rs := [changeT]) (0, 0, 0, ()) (by kernel_rfl) (fun c E _ => lam0_ok c 0) (fun x => by kernel_rfl)) _ _ (fun _ _ _ _ _ _ => ⟨trivial, rfl⟩)
theorem val_due : dueF Hp Tp = (10000, 0) := by kernel_rfl
theorem val_g1 : givenF Hp Tp (canC 50 41 0) = (6000, 0) := by kernel_rfl
theorem val_g2 : givenF Hp Tp (canC 50 41 1) = (5400, 0) := by kernel_rfl
theorem val_g3 : (givenF Hp Tp (canC 50 101 1)).2 = 1 := by kernel_rfl
theorem val_k : keptF (putF Hp (canC 50 41 1)).1 Tp = (600, 0) := by kernel_rfl
theorem val_n : (dueF Hp ([], ())).2 = 7 := by kernel_rfl
noncomputable def CAl15 : Cx := cx [(43, cPlain), (20, cDue), (25, cCancel), (22, cGiven), (44, cPut), (18, cKeptP)] []
theorem CAl15_ok : CxOK Tryz.prog CAl15 := cx_ok mixed ⟨plain15_ok, due_ok, cancel_ok, given_ok, put_ok, keptP_ok, trivial⟩ trivial
def frAl15 (_ : denP []) : Fr (denL [.bool]) :=
 Fr.need (fewH Hp) (Fr.need (fewT Tp)
  (Fr.need (fewH Hp) (Fr.need (fewT Tp) (Fr.need ((0 : Nat) <= 1000000)
   (Fr.need (fewH Hp) (Fr.need (fewT Tp) (Fr.need ((0 : Nat) <= 1000000)
    (Fr.need (fewH Hp) (Fr.need (fewT Tp) (Fr.need ((0 : Nat) <= 1000000)
     (Fr.need (fewH Hp) (Fr.need ((0 : Nat) <= 1000000)
      (Fr.need (fewH (putF Hp (canC 50 41 1)).1) (Fr.need (fewT Tp)
       (Fr.need (fewH Hp) (Fr.need (fewT ([], ())) (Fr.val (true, ()))))))))))))))))))
theorem al15_run : SoundCt Tryz.prog 17 ⟨[], [.bool], fun xs => (frAl15 xs).get, fun xs => [(frAl15 xs).ok]⟩ :=
 fn_sound CAl15_ok (Λ := lam0) (fn := Tryz.f17) (fr := frAl15) (ps := []) (rs := [.bool]) () (by kernel_rfl) (fun c E _ => lam0_ok c 0) (fun x => by kernel_rfl)
def cLawR (ps : List PT) : Ct := ⟨ps, [.bool], fun _ => (true, ()), fun _ => []⟩
def cYesR : Ct := ⟨[], [.bool], fun _ => (true, ()), fun _ => []⟩
theorem fewHp : fewH Hp := ⟨by decide, by decide, fun c hc => by cases hc⟩
theorem fewTp : fewT Tp := by
 refine ⟨by decide, fun v hv => ?_⟩
 simp only [Tp, List.mem_cons, List.not_mem_nil, or_false] at hv
 subst hv
 exact ⟨by decide, by decide, by decide⟩
theorem fewT0' : fewT ([], ()) := ⟨by decide, fun v hv => by cases hv⟩
theorem alive15_ok : SoundCt Tryz.prog 17 cYesR :=
 convF al15_run _ _ (fun _ _ _ _ _ _ => by
  have z : (0 : Nat) <= 1000000 := Nat.zero_le _
  have hx : fewH (putF Hp (canC 50 41 1)).1 := put_few fewHp z
  exact ⟨⟨fewHp, fewTp, fewHp, fewTp, z, fewHp, fewTp, z, fewHp, fewTp, z, fewHp, z, hx, fewTp, fewHp, fewT0', trivial⟩, rfl⟩)
noncomputable def CLr : Cx := cx [(17, cYesR), (10, cFew), (18, cKeptP), (19, cKeptP), (20, cDue), (21, cDue), (22, cGiven), (23, cGiven)] []
theorem CLr_ok : CxOK Tryz.prog CLr := cx_ok mixed ⟨alive15_ok, few_ok, keptP_ok, keptR_ok, due_ok, dueR_ok, given_ok, givenR_ok, trivial⟩ trivial
def frTwo15 (h : histT.den) (t : tarT.den) (r : Int × Int) : Fr (denL [.bool]) :=
 Fr.br (!(cFew.f (h, t, ())).1) (Fr.val (true, ()))
  (Fr.need (fewH h) (Fr.need (fewT t) (Fr.need (fewH h) (Fr.need (fewT t) (Fr.val (bif bif true then r.1 == r.1 else false then r.2 == r.2 else false, ()))))))
theorem two15_eq (h : histT.den) (t : tarT.den) (r : Int × Int) : (frTwo15 h t r).ok /\ (frTwo15 h t r).get = (true, ()) := by
 cases hf : fewB h t with
 | false => exact Fr.br_t (by show (!(fewB h t)) = true; rw [hf]; rfl) ⟨trivial, rfl⟩
 | true =>
  obtain ⟨f1, f2⟩ := fewB_fewH hf
  refine Fr.br_f (by show (!(fewB h t)) = false; rw [hf]; rfl) (Fr.need_ f1 (Fr.need_ f2 (Fr.need_ f1 (Fr.need_ f2 ⟨trivial, ?_⟩))))
  show (bif bif true then r.1 == r.1 else false then r.2 == r.2 else false, ()) = (true, ())
  rw [beq_self_eq_true, beq_self_eq_true]
  rfl
theorem lawKept_ok : SoundCt Tryz.prog 5 (cLawR [.d histT, .d tarT]) :=
 convF (fn_sound CLr_ok (Λ := lam0) (fn := Tryz.f5) (fr := fun x => frTwo15 x.1 x.2.1 (keptF x.1 x.2.1)) (ps := [.d histT, .d tarT]) (rs := [.bool]) (histT.dflt, tarT.dflt, ()) (by kernel_rfl) (fun c E _ => lam0_ok c 0) (fun x => by kernel_rfl)) _ _
  (fun _ _ x _ _ _ => two15_eq x.1 x.2.1 _)
theorem lawDue_ok : SoundCt Tryz.prog 6 (cLawR [.d histT, .d tarT]) :=
 convF (fn_sound CLr_ok (Λ := lam0) (fn := Tryz.f6) (fr := fun x => frTwo15 x.1 x.2.1 (dueF x.1 x.2.1)) (ps := [.d histT, .d tarT]) (rs := [.bool]) (histT.dflt, tarT.dflt, ()) (by kernel_rfl) (fun c E _ => lam0_ok c 0) (fun x => by kernel_rfl)) _ _
  (fun _ _ x _ _ _ => two15_eq x.1 x.2.1 _)
def frGv15 (x : denP [.d histT, .d tarT, .d changeT]) : Fr (denL [.bool]) :=
 let h : histT.den := x.1; let t : tarT.den := x.2.1; let c : changeT.den := x.2.2.1
 let r : Int × Int := givenF h t c; let d : Int × Int := dueF h t
 Fr.br (bif !(cFew.f (h, t, ())).1 then true else decide ((List.length (α := coverT.den) c.2.2.2.2.1 : Int) > 50)) (Fr.val (true, ()))
  (Fr.need (fewH h) (Fr.need (fewT t)
   (Fr.need (fewH h) (Fr.need (fewT t) (Fr.need (c.2.2.2.2.1.length <= 1000000)
    (Fr.need (fewH h) (Fr.need (fewT t) (Fr.need (c.2.2.2.2.1.length <= 1000000)
     (Fr.need (fewH h) (Fr.need (fewT t)
      (Fr.val (bif bif bif bif true then r.1 == r.1 else false then r.2 == r.2 else false then d.1 == d.1 else false then d.2 == d.2 else false, ()))))))))))))
theorem gv15_run : SoundCt Tryz.prog 7 ⟨[.d histT, .d tarT, .d changeT], [.bool], fun xs => (frGv15 xs).get, fun xs => [(frGv15 xs).ok]⟩ :=
 fn_sound CLr_ok (Λ := lam0) (fn := Tryz.f7) (fr := frGv15) (ps := [.d histT, .d tarT, .d changeT]) (rs := [.bool]) (histT.dflt, tarT.dflt, changeT.dflt, ()) (by kernel_rfl) (fun c E _ => lam0_ok c 0) (fun x => by kernel_rfl)
theorem few_c {b : Bool} {n : Int} (h : (bif !b then true else decide (n > 50)) = false) : b = true /\ n <= 50 := by
 cases b with
 | false => cases h
 | true => exact ⟨rfl, Int.not_lt.1 (of_decide_eq_false h)⟩
theorem lawGiven_ok : SoundCt Tryz.prog 7 (cLawR [.d histT, .d tarT, .d changeT]) :=
 convF gv15_run _ _ (fun _ _ x _ _ _ => by
  obtain ⟨h, t, c, _⟩ := x
  cases hc : (bif !(fewB h t) then true else decide ((List.length (α := coverT.den) c.2.2.2.2.1 : Int) > 50)) with
  | true => exact Fr.br_t hc ⟨trivial, rfl⟩
  | false =>
   obtain ⟨hf, hn⟩ := few_c hc
   obtain ⟨f1, f2⟩ := fewB_fewH hf
   have hl : c.2.2.2.2.1.length <= 1000000 := by omega
   refine Fr.br_f hc (Fr.need_ f1 (Fr.need_ f2 (Fr.need_ f1 (Fr.need_ f2 (Fr.need_ hl (Fr.need_ f1 (Fr.need_ f2 (Fr.need_ hl (Fr.need_ f1 (Fr.need_ f2 ⟨trivial, ?_⟩))))))))))
   show (bif bif bif bif true then (givenF h t c).1 == (givenF h t c).1 else false then (givenF h t c).2 == (givenF h t c).2 else false then (dueF h t).1 == (dueF h t).1 else false then (dueF h t).2 == (dueF h t).2 else false, ()) = (true, ())
   simp only [beq_self_eq_true, cond_true])
end Go.Proofs.YtplkgghjldndkaaGreat
