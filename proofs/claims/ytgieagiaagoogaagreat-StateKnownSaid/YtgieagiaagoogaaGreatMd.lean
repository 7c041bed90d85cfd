/-
  Parts of the proof, one behind the other: B2, B3, B4, B5, D1, D2, D3, D4, D5, C1, C4, C5, C2, C3, D6, D7, D8, E1, E2, AbE, H1, AbF, I1.
-/
import Derived.Test.YtgieagiaagoogaaGreatMc
import Derived.IntWalk
import Derived.RangeFuncNested
import Derived.RangeFuncBound
import Derived.RangeFuncCalls
import Derived.RangeFuncLeaves
import Derived.Shelf.Abstract
import Derived.Shelf.RegionOpen
import Derived.WalkKit
import Derived.OwnWalkIn
import Derived.TacticsInMore
import Derived.LoopNIn
import Derived.LoopIn
import Derived.Lib.Hide
import Derived.Tactics2
import Derived.Laws.Pointers
import Derived.ScopeJumps
namespace Go.Proofs.YtgieagiaagoogaaGreat
open Go Go.Ab Go.RowKit Go.Proofs
def ko:Code->Nat->Option Code
 |.loop c,0=>some c
 |.seq a b,k=>if k < zp a then ko a k else ko b (k - zp a)
 |.cond _ a b,k=>if k < zp a then ko a k else ko b (k - zp a)
 |.block _ c,k=>ko c k
 |.scope c,k=>ko c k
 |_,_=>none
def qq9 (f:Func) (k:Nat):Code:=(f.body.bind (ko · k)).getD .skip
def Γ2:FuncId->Option Ct:=fun f=>if f=232 then some qi3 else if f=210 then some qv5 else none
def C2:Cx:=⟨Γ2,fun _=>none,fun _ _ _ _=>none⟩
theorem zqd:CxOK Tryz.prog C2:=zk9 fun f ct h=>by
 simp only [Γ2] at h
 split at h
 ·rename_i hf; subst hf; cases h; exact zpp
 ·split at h
  ·rename_i hf; subst hf; cases h; exact zpm
  ·cases h
def cnt (l:List Int) (x:Int):Nat:=l.countP fun y=>decide (y < x)
theorem yl6 {l:List Int} {x:Int} {i:Nat} (h1:∀ k y,k < i->l[k]? = some y->y < x) (h2:∀ k y,i<=k->l[k]? = some y->¬ y < x) (hi:i<=l.length):cnt l x=i:=by
 unfold cnt
 rw [← List.take_append_drop i l,List.countP_append]
 have e1:(l.take i).countP (fun y=>decide (y < x))=(l.take i).length:=by
  rw [List.countP_eq_length]
  intro y hy
  obtain ⟨k,hk⟩:=List.mem_iff_getElem?.1 hy
  rw [List.getElem?_take] at hk
  split at hk
  ·rename_i hlt
   simpa using h1 k y hlt hk
  ·cases hk
 have e2:(l.drop i).countP (fun y=>decide (y < x))=0:=by
  rw [List.countP_eq_zero]
  intro y hy
  obtain ⟨k,hk⟩:=List.mem_iff_getElem?.1 hy
  rw [List.getElem?_drop] at hk
  simpa using h2 (i+k) y (by omega) hk
 rw [e1,e2,List.length_take]
 omega
abbrev ptB:Pt:=⟨54,0,⟨[(0,.d jd),(1,.d i64),(6,.d i64),(7,.d i64),(8,.d i64)],[]⟩,⟨[(0,.d jd),(1,.d i64),(6,.d i64),(7,.d i64)],[]⟩,⟨[],[]⟩⟩
def mid (i j:Int):Int:=IntKind.i64.wrap ((IntKind.u64.wrap (IntKind.i64.wrap (i+j))).fdiv (2 ^ min (Int.toNat 1) IntKind.u64.bits))
def frB (x:ptB.M.X):Fr ptB.Out:=
 Fr.br (decide (x.1.2.2.2.1 < x.1.2.2.2.2.1))
  (Fr.need (¬ (1:Int) < 0)
   (Fr.need (0<=mid x.1.2.2.2.1 x.1.2.2.2.2.1/\mid x.1.2.2.2.1 x.1.2.2.2.2.1 < x.1.1.length)
    (Fr.br (qv5.f (x.1.1.getD (mid x.1.2.2.2.1 x.1.2.2.2.2.1).toNat i64.dflt,x.1.2.1,())).1
     (Fr.val (Rd.next ((x.1.1,x.1.2.1,x.1.2.2.1,IntKind.i64.wrap (mid x.1.2.2.2.1 x.1.2.2.2.2.1+1),x.1.2.2.2.2.1,()),())))
     (Fr.val (Rd.next ((x.1.1,x.1.2.1,x.1.2.2.1,x.1.2.2.2.1,mid x.1.2.2.2.1 x.1.2.2.2.2.1,()),()))))))
  (Fr.val (Rd.out ((x.1.1,x.1.2.1,x.1.2.2.1,x.1.2.2.2.1,()),())))
theorem yrr:qe Tryz.prog (qq9 Tryz.f223 0) ptB.M ptB frB:=
 qe.of_run zqd (bs:=0) (Λ:=zxx) rfl rfl rfl (fun E=>qho _ 0) (fun x=>by kernel_rfl)
theorem ynr {i j:Int} (hi:0<=i) (hij:i<=j) (hj:j<=9223372036854775807):mid i j=(i+j) / 2:=by
 unfold mid
 have h1:IntKind.u64.wrap (IntKind.i64.wrap (i+j))=i+j:=by
  rw [IntKind.wrap_i64,IntKind.wrap_u64]
  omega
 have h2:(2:Int) ^ min (Int.toNat 1) IntKind.u64.bits=2:=by decide
 rw [h1,h2,Int.fdiv_eq_ediv_of_nonneg _ (by decide),IntWalk.i64_in _ (by omega)]
structure InvB (l:List Int) (x i j:Int):Prop where
 lo:0<=i
 le:i<=j
 hi:j<=l.length
 big:(l.length:Int)<=9223372036854775807
 up:l.Pairwise (· < ·)
 below:∀ (k:Nat) (y:Int),(k:Int) < i->l[k]? = some y->y < x
 above:∀ (k:Nat) (y:Int),j<=k->l[k]? = some y->¬ y < x
def FB (x:ptB.M.X):Fr ptB.Out:=
 Fr.need (InvB x.1.1 x.1.2.1 x.1.2.2.2.1 x.1.2.2.2.2.1) (Fr.val (Rd.out ((x.1.1,x.1.2.1,x.1.2.2.1,(cnt x.1.1 x.1.2.1:Int),()),())))
theorem zml {l:List Int} (h:l.Pairwise (· < ·)) {a b:Nat} {y z:Int} (hab:a < b) (ha:l[a]? = some y) (hb:l[b]? = some z):y < z:=by
 obtain ⟨h1,rfl⟩:=List.getElem?_eq_some_iff.1 ha
 obtain ⟨h2,rfl⟩:=List.getElem?_eq_some_iff.1 hb
 exact (List.pairwise_iff_getElem.1 h) a b h1 h2 hab
theorem yrj (l:List Int) (x n i j:Int) (hinv:InvB l x i j) (Q:ptB.Out->Prop) (hQ:Q (Rd.out ((l,x,n,(cnt l x:Int),()),()))) :
  (frB ((l,x,n,i,j,()),())).satP fun
   |.next x'=>InvB x'.1.1 x'.1.2.1 x'.1.2.2.2.1 x'.1.2.2.2.2.1/\(x'.1.2.2.2.2.1 - x'.1.2.2.2.1).toNat < (j - i).toNat/\(FB x').satP Q
   |.out y=>Q (.out y)
   |.back z=>Q (.back z)
   |.pan p=>Q (.pan p):=by
 obtain ⟨h1,h2,h3,h4,h5,h6,h7⟩:=hinv
 simp only [frB,Fr.satP,decide_eq_true_eq,decide_eq_false_iff_not]
 refine ⟨fun hij=>?_,fun hij=>?_⟩
 ·have hij:i < j:=hij
  have hm:=ynr h1 h2 (by omega)
  have hmid:0<=(i+j) / 2/\(i+j) / 2 < l.length:=by omega
  rw [hm]
  refine ⟨by omega,hmid,?_⟩
  obtain ⟨y,hy⟩:∃ y,l[((i+j) / 2).toNat]? = some y:=by
   have:((i+j) / 2).toNat < l.length:=by omega
   exact ⟨_,List.getElem?_eq_getElem this⟩
  have hget:l.getD ((i+j) / 2).toNat i64.dflt=y:=by
   rw [List.getD_eq_getElem?_getD,hy]
   rfl
  rw [hget]
  show (decide (y < x)=true->_)/\(decide (y < x)=false->_)
  simp only [decide_eq_true_eq,decide_eq_false_iff_not]
  refine ⟨fun hyx=>?_,fun hyx=>?_⟩
  ·have hyx:y < x:=hyx
   have hw:IntKind.i64.wrap ((i+j) / 2+1)=(i+j) / 2+1:=IntWalk.i64_in _ (by omega)
   rw [hw]
   have hn:InvB l x ((i+j) / 2+1) j:=⟨by omega,by omega,h3,h4,h5,fun k z hk hz=>by
    by_cases hk2:k < ((i+j) / 2).toNat
    ·exact Int.lt_trans (zml h5 hk2 hz hy) hyx
    ·have:k=((i+j) / 2).toNat:=by omega
     subst this
     rw [hy] at hz
     cases hz
     exact hyx,h7⟩
   exact ⟨hn,by show (j - ((i+j) / 2+1)).toNat < (j - i).toNat; omega,hn,hQ⟩
  ·have hyx:¬ y < x:=hyx
   have hn:InvB l x i ((i+j) / 2):=⟨h1,by omega,by omega,h4,h5,h6,fun k z hk hz=>by
    by_cases hk2:((i+j) / 2).toNat < k
    ·have:=zml h5 hk2 hy hz
     omega
    ·have:k=((i+j) / 2).toNat:=by omega
     subst this
     rw [hy] at hz
     cases hz
     exact hyx⟩
   exact ⟨hn,by show ((i+j) / 2 - i).toNat < (j - i).toNat; omega,hn,hQ⟩
 ·have hij:¬ i < j:=hij
  have hij':i=j:=by omega
  subst hij'
  have hc:cnt l x=i.toNat:=yl6 (fun k y hk hy=>h6 k y (by omega) hy) (fun k y hk hy=>h7 k y (by omega) hy) (by omega)
  rw [hc] at hQ
  have:((i.toNat:Nat):Int)=i:=by omega
  rw [this] at hQ
  exact hQ
theorem loopB:qe Tryz.prog (.loop (qq9 Tryz.f223 0)) ptB.M ptB FB:=by
 refine qe.loop (n:=54) (id:=0) yrr (inv:=fun x=>InvB x.1.1 x.1.2.1 x.1.2.2.2.1 x.1.2.2.2.2.1) (μ:=fun x=>(x.1.2.2.2.2.1 - x.1.2.2.2.1).toNat) ?_ (fun x Q h=>h.1)
 rintro ⟨⟨l,x,n,i,j,_⟩,_⟩ hinv Q hq
 exact yrj l x n i j hinv Q hq.2
theorem qeq:{c:Code} -> {k:Nat} -> {b:Code}->ko c k=some b->k < zp c
 |.loop _,0,_,_=>Nat.zero_lt_one
 |.loop _,_+1,_,h=>by simp [ko] at h
 |.seq x y,k,b,h=>by
  simp only [ko] at h
  simp only [zp]
  split at h
  ·omega
  ·have:=qeq h
   omega
 |.cond _ x y,k,b,h=>by
  simp only [ko] at h
  simp only [zp]
  split at h
  ·omega
  ·have:=qeq h
   omega
 |.block _ c,k,b,h=>qeq (c:=c) h
 |.scope c,k,b,h=>qeq (c:=c) h
 |.skip,_,_,h=>by simp [ko] at h
 |.region _ _ _,_,_,h=>by simp [ko] at h
 |.ret,_,_,h=>by simp [ko] at h
 |.exit _,_,_,h=>by simp [ko] at h
 |.label _,_,_,h=>by simp [ko] at h
 |.goto _,_,_,h=>by simp [ko] at h
 |.rangeFunc _ _ _ _,_,_,h=>by simp [ko] at h
 |.refuse _,_,_,h=>by simp [ko] at h
theorem qlm {E:Env} {Λ:Nat->St->Option Tr}:(c:Code)->(k:Nat)->(∀ i b,ko c i=some b->qe4 Tryz.prog E b (Λ (k+i)))->jt Tryz.prog E Λ c k
 |.loop b,k,h=>h 0 b rfl
 |.seq x y,k,h=>⟨qlm x k fun i b hb=>h i b (by simp only [ko]; rw [if_pos (qeq hb)]; exact hb),qlm y _ fun i b hb=>by
   have:=h (zp x+i) b (by simp only [ko]; rw [if_neg (by omega),Nat.add_sub_cancel_left]; exact hb)
   rwa [← Nat.add_assoc] at this⟩
 |.cond _ x y,k,h=>⟨qlm x k fun i b hb=>h i b (by simp only [ko]; rw [if_pos (qeq hb)]; exact hb),qlm y _ fun i b hb=>by
   have:=h (zp x+i) b (by simp only [ko]; rw [if_neg (by omega),Nat.add_sub_cancel_left]; exact hb)
   rwa [← Nat.add_assoc] at this⟩
 |.block _ c,k,h=>qlm c k h
 |.skip,_,_=>trivial
 |.ret,_,_=>trivial
 |.exit _,_,_=>trivial
 |.region _ _ _,_,_=>trivial
 |.label _,_,_=>trivial
 |.goto _,_,_=>trivial
 |.scope c,k,h=>qlm c k h
 |.rangeFunc _ _ _ _,_,_=>trivial
 |.refuse _,_,_=>trivial
theorem zpk {E:Env} {Λ:Nat->St->Option Tr} {fn:Func} {c b:Code} (hc:fn.body=some c) (hn:(fn.body.map zp)=some 1) (hb:fn.body.bind (ko · 0)=some b) (h:qe4 Tryz.prog E b (Λ 0)):jt Tryz.prog E Λ c 0:=by
 refine qlm c 0 fun i b' hb'=>?_
 have h1:=qeq hb'
 rw [hc] at hn hb
 simp only [Option.map_some,Option.some.injEq] at hn
 have hi:i=0:=by omega
 subst hi
 simp only [Option.bind_some] at hb
 rw [hb] at hb'
 cases hb'
 exact h
def ΛB:Nat->St->Option Tr:=fun _=>ptB.han Γ2 ptB.M FB
def frS (x:qm [.d jd,.d i64]):Fr (qi [i64,.bool]):=
 Fr.need (InvB x.1 x.2.1 0 x.1.length)
  (Fr.need (decide ((cnt x.1 x.2.1:Int) < x.1.length)=true->0<=(cnt x.1 x.2.1:Int)/\(cnt x.1 x.2.1:Int) < x.1.length)
  (Fr.need ((x.1.getD (Int.toNat (cnt x.1 x.2.1:Int)) i64.dflt==x.2.1)=false->decide ((cnt x.1 x.2.1:Int) < x.1.length)=true->0<=(cnt x.1 x.2.1:Int)/\(cnt x.1 x.2.1:Int) < x.1.length)
   (Fr.val
    ((cnt x.1 x.2.1:Int),
     bif decide ((cnt x.1 x.2.1:Int) < x.1.length) then
      bif x.1.getD (Int.toNat (cnt x.1 x.2.1:Int)) i64.dflt==x.2.1 then true
      else
       bif (qi3.f (x.1.getD (Int.toNat (cnt x.1 x.2.1:Int)) i64.dflt,())).1 then (qi3.f (x.2.1,())).1 else false
     else false,
     ()))))
theorem zys:qa Tryz.prog 223 ⟨[.d jd,.d i64],[i64,.bool],fun xs=>(frS xs).get,fun xs=>[(frS xs).ok]⟩:=
 qg zqd (Λ:=ΛB) (fn:=Tryz.f223) ([],0,()) (by kernel_rfl) (fun c E hc=>zpk hc (by kernel_rfl) (b:=qq9 Tryz.f223 0) (by kernel_rfl) (qe.han zqd rfl loopB)) (fun xs=>by kernel_rfl)
theorem zim {x:Int}:{l:List Int}->l.Pairwise (· < ·)->(∀ k y,k < cnt l x->l[k]? = some y->y < x)/\∀ k y,cnt l x<=k->l[k]? = some y->¬ y < x
 |[],_=>⟨fun k y _ h=>by simp at h,fun k y _ h=>by simp at h⟩
 |a :: r,h=>by
  obtain ⟨h1,h2⟩:=List.pairwise_cons.1 h
  obtain ⟨i1,i2⟩:=zim (x:=x) h2
  by_cases ha:a < x
  ·have hc:cnt (a :: r) x=cnt r x+1:=by simp [cnt,List.countP_cons,ha]
   rw [hc]
   refine ⟨fun k y hk hy=>?_,fun k y hk hy=>?_⟩
   ·cases k with
    |zero=>simp at hy; omega
    |succ k=>exact i1 k y (by omega) (by simpa using hy)
   ·cases k with
    |zero=>omega
    |succ k=>exact i2 k y (by omega) (by simpa using hy)
  ·have hz:cnt (a :: r) x=0:=by
    unfold cnt
    rw [List.countP_eq_zero]
    intro y hy
    rcases List.mem_cons.1 hy with rfl | hy
    ·simpa using ha
    ·have:=h1 y hy
     simp
     omega
   rw [hz]
   refine ⟨fun k y hk _=>by omega,fun k y _ hy=>?_⟩
   cases k with
   |zero=>simp at hy; omega
   |succ k=>
    have hm:y ∈ r:=List.mem_of_getElem? (by simpa using hy)
    have:=h1 y hm
    omega
theorem zo0 {l:List Int} {x:Int} (h:l.Pairwise (· < ·)):x ∈ l↔l[cnt l x]? = some x:=by
 obtain ⟨h1,h2⟩:=zim (x:=x) h
 constructor
 ·intro hm
  obtain ⟨k,hk⟩:=List.mem_iff_getElem?.1 hm
  by_cases hlt:k < cnt l x
  ·have:=h1 k x hlt hk
   omega
  ·by_cases he:k=cnt l x
   ·rw [← he]; exact hk
   ·have hkl:=(List.getElem?_eq_some_iff.1 hk).1
    have hy:l[cnt l x]? = some (l[cnt l x]'(by omega)):=List.getElem?_eq_getElem (by omega)
    have a1:=zml h (by omega) hy hk
    have a2:=h2 _ _ (Nat.le_refl _) hy
    omega
 ·exact fun hk=>List.mem_of_getElem? hk
theorem zvx (l:List Int) (x:Int):cnt l x<=l.length:=List.countP_le_length
theorem zs0 {l:List Int} {x:Int} (h:l.Pairwise (· < ·)) (hl:(l.length:Int)<=9223372036854775807):InvB l x 0 l.length:=
 ⟨Int.le_refl _,by omega,Int.le_refl _,hl,h,fun k y hk _=>by omega,fun k y hk hy=>by
  have:=(List.getElem?_eq_some_iff.1 hy).1
  omega⟩
theorem yhz {l:List Int} {x:Int} (h:l.Pairwise (· < ·)) (hl:(l.length:Int)<=9223372036854775807):(frS (l,x,())).ok/\(frS (l,x,())).get=((cnt l x:Int),l.contains x,()):=by
 have hle:=zvx l x
 refine ⟨⟨zs0 h hl,fun hd=>?_,fun _ hd=>?_,trivial⟩,?_⟩
 ·have hd':(cnt l x:Int) < l.length:=by simpa using hd
  exact ⟨by omega,hd'⟩
 ·have hd':(cnt l x:Int) < l.length:=by simpa using hd
  exact ⟨by omega,hd'⟩
 ·show ((cnt l x:Int),(bif decide ((cnt l x:Int) < l.length) then bif l.getD (cnt l x) i64.dflt==x then true else (bif false then false else false) else false),())=_
  have hb:(bif decide ((cnt l x:Int) < l.length) then bif l.getD (cnt l x) i64.dflt==x then true else (bif false then false else false) else false)=l.contains x:=by
   have hm:=zo0 (x:=x) h
   by_cases hlt:cnt l x < l.length
   ·have h1:decide ((cnt l x:Int) < l.length)=true:=by simpa using hlt
    have hg:l[cnt l x]? = some (l[cnt l x]'hlt):=List.getElem?_eq_getElem hlt
    have hd:l.getD (cnt l x) i64.dflt=l[cnt l x]'hlt:=by rw [List.getD_eq_getElem?_getD,hg]; rfl
    rw [h1,hd]
    simp only [cond_true]
    by_cases he:l[cnt l x]'hlt=x
    ·have:x ∈ l:=hm.2 (by rw [hg,he])
     simp [he,this]
    ·have:¬ x ∈ l:=fun hx=>he (by have:=hm.1 hx; rw [hg] at this; simpa using this)
     simp [he,this]
   ·have h1:decide ((cnt l x:Int) < l.length)=false:=by simpa using hlt
    have:¬ x ∈ l:=fun hx=>by
     have:=hm.1 hx
     rw [List.getElem?_eq_none (by omega)] at this
     cases this
    rw [h1]
    simp [this]
  rw [hb]
def zb4:Ct:=⟨[.d jd,.d i64],[i64,.bool],fun x=>((cnt x.1 x.2.1:Int),x.1.contains x.2.1,()),fun x=>[x.1.Pairwise (· < ·)]⟩
theorem zyt:qa Tryz.prog 223 zb4:=
 conv zys _ _ fun w F xs vs hr hok=>by
  obtain ⟨l,x,_⟩:=xs
  obtain ⟨v,vs',rfl,hv,_⟩:=hr
  have hwf:=qs.wf hv.2.2
  have hlen:(l.length:Int)<=9223372036854775807:=by
   have:=hwf.1
   simp only [maxLen] at this
   omega
  exact yhz hok hlen
def qv7 (l:List Int) (x:Int):Nat:=l.countP fun y=>decide (y<=x)
theorem zil {x:Int}:{l:List Int}->l.Pairwise (· < ·)->qv7 l x=cnt l x+(if l.contains x then 1 else 0)
 |[],_=>rfl
 |a :: r,h=>by
  obtain ⟨h1,h2⟩:=List.pairwise_cons.1 h
  have ih:=zil (x:=x) h2
  have hnot:a=x->¬ x ∈ r:=fun he hm=>by have:=h1 x hm; omega
  unfold qv7 cnt at *
  rw [List.countP_cons,List.countP_cons,ih]
  rcases Int.lt_trichotomy a x with hlt | heq | hgt
  ·have:¬ x=a:=by omega
   simp [hlt,Int.le_of_lt hlt,this]
   omega
  ·subst heq
   have:=hnot rfl
   simp [this]
  ·have h3:¬ a<=x:=by omega
   have h4:¬ a < x:=by omega
   have h5:¬ x=a:=by omega
   simp [h3,h4,h5]
def vz (f:zg.den) (d:Int):Int:=match qv7 f.1 d with
 |0=>0
 |k+1=>f.2.1.getD k 0
def Γ3:FuncId->Option Ct:=fun f=>if f=223 then some zb4 else if f=204 then some zia else none
def C3:Cx:=⟨Γ3,fun _=>none,fun _ _ _ _=>none⟩
theorem zf3:CxOK Tryz.prog C3:=zk9 fun f ct h=>by
 simp only [Γ3] at h
 split at h
 ·rename_i hf; subst hf; cases h; exact zyt
 ·split at h
  ·rename_i hf; subst hf; cases h; exact ycw
  ·cases h
def frV (x:qm [.d zg,.d i64]):Fr (qi [i64]):=
 let r:=zb4.f (x.1.1,x.2.1,())
 Fr.need (x.1.1.Pairwise (· < ·))
  (Fr.br (!r.2.1)
   (Fr.br (decide (IntKind.i64.wrap (r.1 - 1) < 0)) (Fr.val (0,()))
    (Fr.need (0<=IntKind.i64.wrap (r.1 - 1)/\IntKind.i64.wrap (r.1 - 1) < x.1.2.1.length) (Fr.val (x.1.2.1.getD (IntKind.i64.wrap (r.1 - 1)).toNat i64.dflt,()))))
   (Fr.br (decide (r.1 < 0)) (Fr.val (0,()))
    (Fr.need (0<=r.1/\r.1 < x.1.2.1.length) (Fr.val (x.1.2.1.getD r.1.toNat i64.dflt,())))))
theorem yev:qa Tryz.prog 206 ⟨[.d zg,.d i64],[i64],fun xs=>(frV xs).get,fun xs=>[(frV xs).ok]⟩:=
 qg zf3 (Λ:=zxx) (fn:=Tryz.f206) (([],[],()),0,()) (by kernel_rfl) (fun c E _=>qho c 0) (fun xs=>by kernel_rfl)
theorem yh1 {at_ val:List Int} {d:Int} (h:at_.Pairwise (· < ·)) (hl:(at_.length:Int)<=9223372036854775807) (hlen:at_.length=val.length) :
  (frV ((at_,val,()),d,())).ok/\(frV ((at_,val,()),d,())).get=(vz (at_,val,()) d,()):=by
 have hle:=zvx at_ d
 have hcl:=zil (x:=d) h
 have hmem:=zo0 (x:=d) h
 by_cases hc:d ∈ at_
 ·have hcb:at_.contains d=true:=by simpa using hc
  have hlt:cnt at_ d < at_.length:=(List.getElem?_eq_some_iff.1 (hmem.1 hc)).1
  have hv:vz (at_,val,()) d=val.getD (cnt at_ d) 0:=by
   unfold vz
   simp only [hcl,hcb,if_true]
  refine ⟨⟨h,fun hb=>?_,fun _=>⟨fun hb=>?_,fun _=>⟨⟨by show (0:Int)<=(cnt at_ d:Int); omega,by show (cnt at_ d:Int) < val.length; omega⟩,trivial⟩⟩⟩,?_⟩
  ·have hb':(!at_.contains d)=true:=hb
   rw [hcb] at hb'
   cases hb'
  ·trivial
  ·show (if (!at_.contains d)=true then _ else if decide ((cnt at_ d:Int) < 0)=true then ((0:Int),()) else (val.getD (Int.toNat (cnt at_ d:Int)) i64.dflt,()))=_
   have h0:decide ((cnt at_ d:Int) < 0)=false:=by simp
   rw [hcb,h0,hv]
   rfl
 ·have hcb:at_.contains d=false:=by simpa using hc
  have hw:IntKind.i64.wrap ((cnt at_ d:Int) - 1)=(cnt at_ d:Int) - 1:=IntWalk.i64_in _ (by omega)
  have hv:vz (at_,val,()) d=(match cnt at_ d with | 0=>0 | k+1=>val.getD k 0):=by
   unfold vz
   simp only [hcl,hcb,Bool.false_eq_true,if_false,Nat.add_zero]
  refine ⟨⟨h,fun _=>⟨fun _=>trivial,fun hb=>?_⟩,fun hb=>?_⟩,?_⟩
  ·have hb':decide (IntKind.i64.wrap ((cnt at_ d:Int) - 1) < 0)=false:=hb
   rw [hw] at hb'
   have hb2:¬ ((cnt at_ d:Int) - 1 < 0):=by simpa using hb'
   refine ⟨?_,trivial⟩
   show 0<=IntKind.i64.wrap ((cnt at_ d:Int) - 1)/\IntKind.i64.wrap ((cnt at_ d:Int) - 1) < val.length
   rw [hw]
   omega
  ·have hb':(!at_.contains d)=false:=hb
   rw [hcb] at hb'
   cases hb'
  ·show (if (!at_.contains d)=true then (if decide (IntKind.i64.wrap ((cnt at_ d:Int) - 1) < 0)=true then ((0:Int),()) else (val.getD (IntKind.i64.wrap ((cnt at_ d:Int) - 1)).toNat i64.dflt,())) else _)=_
   rw [hcb,hw,hv]
   cases hk:cnt at_ d with
   |zero=>rfl
   |succ k=>
    have h0:decide (((k+1:Nat):Int) - 1 < 0)=false:=by simp
    have h1:(((k+1:Nat):Int) - 1).toNat=k:=by omega
    rw [h0,h1]
    rfl
def yly:Ct:=⟨[.d zg,.d i64],[i64],fun x=>(vz x.1 x.2.1,()),fun x=>[x.1.1.Pairwise (· < ·),x.1.1.length=x.1.2.1.length]⟩
theorem yew:qa Tryz.prog 206 yly:=
 conv yev _ _ fun w F xs vs hr hok=>by
  obtain ⟨⟨at_,val,_⟩,d,_⟩:=xs
  obtain ⟨v,vs',rfl,hv,_⟩:=hr
  have hwf:=qs.wf hv.2.2
  have hlen:(at_.length:Int)<=9223372036854775807:=by
   have:=hwf.1.1
   simp only [maxLen] at this
   omega
  exact yh1 hok.1 hlen hok.2
def qck:List Int->List Int->Int->Int->Bool
 |d :: l,v :: r,day,last=>(decide (day < d)&&(decide (d<=292194)&&(!(v==last)&&qd5 v)))&&qck l r d v
 |_,_,_,_=>true
abbrev ptR:Pt:=⟨48,0,⟨[(18,.d i64),(17,.d i64),(16,.d jd),(3,.d i64),(4,.d i64)],[.x 1 190 zg,.r 1 1 0]⟩,⟨[],[]⟩,⟨[(2,.d .bool)],[]⟩⟩
def frR (x:ptR.M.X):Fr ptR.Out:=
 Fr.br (decide (x.1.1 < x.1.2.1))
  (Fr.need (0<=x.1.1/\x.1.1 < x.1.2.2.1.length)
   (Fr.need (0<=x.1.1/\x.1.1 < x.2.1.2.1.length)
    (Fr.br
     (bif bif bif decide (x.1.2.2.1.getD x.1.1.toNat i64.dflt<=x.1.2.2.2.1) then true else decide (x.1.2.2.1.getD x.1.1.toNat i64.dflt > 292194) then true
       else x.2.1.2.1.getD x.1.1.toNat i64.dflt==x.1.2.2.2.2.1 then true
      else !(zia.f (x.2.1.2.1.getD x.1.1.toNat i64.dflt,())).1)
     (Fr.val (Rd.back ((false,()),())))
     (Fr.val (Rd.next ((IntKind.i64.wrap (x.1.1+1),x.1.2.1,x.1.2.2.1,x.1.2.2.1.getD x.1.1.toNat i64.dflt,x.2.1.2.1.getD x.1.1.toNat i64.dflt,()),(x.2.1.1,x.2.1.2.1,()),()))))))
  (Fr.val (Rd.out ((),())))
theorem yrv:qe Tryz.prog (qq9 Tryz.f185 0) ptR.M ptR frR:=
 qe.of_run zf3 (bs:=0) (Λ:=zxx) rfl rfl rfl (fun E=>qho _ 0) (fun x=>by kernel_rfl)
theorem zn2 {b:Bool} (h:(!b)=true):b=false:=by cases b<;>first | rfl | cases h
theorem zk5 {b:Bool} (h:(!b)=false):b=true:=by cases b<;>first | rfl | cases h
structure InvR (i n:Int) (l at_ val:List Int):Prop where
 same:l=at_
 len:n=l.length
 both:at_.length=val.length
 lo:0<=i
 hi:i<=n
 big:(l.length:Int)<=9223372036854775807
def FR (x:ptR.M.X):Fr ptR.Out:=
 Fr.need (InvR x.1.1 x.1.2.1 x.1.2.2.1 x.2.1.1 x.2.1.2.1)
  (Fr.br (qck (x.1.2.2.1.drop x.1.1.toNat) (x.2.1.2.1.drop x.1.1.toNat) x.1.2.2.2.1 x.1.2.2.2.2.1) (Fr.val (Rd.out ((),()))) (Fr.val (Rd.back ((false,()),()))))
theorem yrn (i n:Int) (l:List Int) (d v:Int) (at_ val:List Int) (hinv:InvR i n l at_ val) (Q:ptR.Out->Prop)
  (hq:(Fr.br (qck (l.drop i.toNat) (val.drop i.toNat) d v) (Fr.val (Rd.out ((),()))) (Fr.val (Rd.back ((false,()),()))):Fr ptR.Out).satP Q) :
  (frR ((i,n,l,d,v,()),(at_,val,()),())).satP fun
   |.next x'=>InvR x'.1.1 x'.1.2.1 x'.1.2.2.1 x'.2.1.1 x'.2.1.2.1/\(x'.1.2.1 - x'.1.1).toNat < (n - i).toNat/\(FR x').satP Q
   |.out y=>Q (.out y)
   |.back z=>Q (.back z)
   |.pan p=>Q (.pan p):=by
 obtain ⟨rfl,rfl,h3,h4,h5,h6⟩:=hinv
 refine ⟨fun hi=>?_,fun hi=>?_⟩
 ·have hi':i < l.length:=by simpa using hi
  have hl:i.toNat < l.length:=by omega
  have hv:i.toNat < val.length:=by omega
  have e1:l.drop i.toNat=l[i.toNat] :: l.drop (i.toNat+1):=List.drop_eq_getElem_cons hl
  have e2:val.drop i.toNat=val[i.toNat] :: val.drop (i.toNat+1):=List.drop_eq_getElem_cons hv
  have g1:l.getD i.toNat i64.dflt=l[i.toNat]:=by rw [List.getD_eq_getElem?_getD,List.getElem?_eq_getElem hl]; rfl
  have g2:val.getD i.toNat i64.dflt=val[i.toNat]:=by rw [List.getD_eq_getElem?_getD,List.getElem?_eq_getElem hv]; rfl
  rw [e1,e2] at hq
  generalize hx:l[i.toNat]=x at *
  generalize hy:val[i.toNat]=y at *
  have hw:IntKind.i64.wrap (i+1)=i+1:=IntWalk.i64_in _ (by omega)
  have hn:(i+1).toNat=i.toNat+1:=by omega
  refine ⟨⟨h4,hi'⟩,⟨h4,by show i < (val.length:Int); omega⟩,?_⟩
  show ((bif bif bif decide (l.getD i.toNat i64.dflt<=d) then true else decide (l.getD i.toNat i64.dflt > 292194) then true else val.getD i.toNat i64.dflt==v then true else !(qd5 (val.getD i.toNat i64.dflt)))=true->Q (Rd.back ((false,()),()))) /\
   ((bif bif bif decide (l.getD i.toNat i64.dflt<=d) then true else decide (l.getD i.toNat i64.dflt > 292194) then true else val.getD i.toNat i64.dflt==v then true else !(qd5 (val.getD i.toNat i64.dflt)))=false ->
    InvR (IntKind.i64.wrap (i+1)) l.length l l val/\((l.length:Int) - IntKind.i64.wrap (i+1)).toNat < ((l.length:Int) - i).toNat /\
     (FR ((IntKind.i64.wrap (i+1),(l.length:Int),l,l.getD i.toNat i64.dflt,val.getD i.toNat i64.dflt,()),(l,val,()),())).satP Q)
  rw [g1,g2,hw]
  have hcond:(bif bif bif decide (x<=d) then true else decide (x > 292194) then true else y==v then true else !(qd5 y)) = !(decide (d < x)&&(decide (x<=292194)&&(!(y==v)&&qd5 y))):=by
   have a1:decide (x<=d) = !decide (d < x):=by by_cases h:x<=d<;>simp [h]<;>omega
   have a2:decide (x > 292194) = !decide (x<=292194):=by by_cases h:x<=292194<;>simp [h]<;>omega
   rw [a1,a2]
   cases decide (d < x)<;>cases decide (x<=292194)<;>cases (y==v)<;>cases qd5 y<;>rfl
  rw [hcond]
  have hri:qck (x :: l.drop (i.toNat+1)) (y :: val.drop (i.toNat+1)) d v=((decide (d < x)&&(decide (x<=292194)&&(!(y==v)&&qd5 y)))&&qck (l.drop (i.toNat+1)) (val.drop (i.toNat+1)) x y):=rfl
  rw [hri] at hq
  refine ⟨fun hb=>?_,fun hb=>?_⟩
  ·have hb':(decide (d < x)&&(decide (x<=292194)&&(!(y==v)&&qd5 y)))=false:=zn2 hb
   rw [hb'] at hq
   exact hq.2 rfl
  ·have hb':(decide (d < x)&&(decide (x<=292194)&&(!(y==v)&&qd5 y)))=true:=zk5 hb
   rw [hb',Bool.true_and] at hq
   have hI:InvR (i+1) l.length l l val:=⟨rfl,rfl,h3,by omega,by omega,h6⟩
   refine ⟨hI,by omega,hI,?_⟩
   show (Fr.br (qck (l.drop (i+1).toNat) (val.drop (i+1).toNat) x y) (Fr.val (Rd.out ((),()))) (Fr.val (Rd.back ((false,()),()))):Fr ptR.Out).satP Q
   rw [hn]
   exact hq
 ·have hi':¬ i < l.length:=by simpa using hi
  have hl:l.drop i.toNat=[]:=List.drop_eq_nil_of_le (by omega)
  rw [hl] at hq
  exact hq.1 rfl
theorem yp3:qe Tryz.prog (.loop (qq9 Tryz.f185 0)) ptR.M ptR FR:=by
 refine qe.loop (n:=48) (id:=0) yrv (inv:=fun x=>InvR x.1.1 x.1.2.1 x.1.2.2.1 x.2.1.1 x.2.1.2.1) (μ:=fun x=>(x.1.2.1 - x.1.1).toNat) ?_ (fun x Q h=>h.1)
 rintro ⟨⟨i,n,l,d,v,_⟩,⟨at_,val,_⟩,_⟩ hinv Q hq
 exact yrn i n l d v at_ val hinv Q hq.2
def ΛR:Nat->St->Option Tr:=fun _=>ptR.han Γ3 ptR.M FR
def ymp (x:qm [.d zg]):Fr (qi [.bool]):=
 Fr.br ((x.1.1.length:Int) != (x.1.2.1.length:Int)) (Fr.val (false,()))
  (Fr.need (InvR 0 x.1.1.length x.1.1 x.1.1 x.1.2.1)
   (Fr.br (qck (x.1.1.drop (Int.toNat 0)) (x.1.2.1.drop (Int.toNat 0)) 0 0) (Fr.val (true,())) (Fr.val (false,()))))
theorem ydl:qa Tryz.prog 185 ⟨[.d zg],[.bool],fun xs=>(ymp xs).get,fun xs=>[(ymp xs).ok]⟩:=
 qg zf3 (Λ:=ΛR) (fn:=Tryz.f185) (([],[],()),()) (by kernel_rfl) (fun c E hc=>zpk hc (by kernel_rfl) (b:=qq9 Tryz.f185 0) (by kernel_rfl) (qe.han zf3 rfl yp3)) (fun xs=>by kernel_rfl)
def qdl (f:zg.den):Bool:=decide (f.1.length=f.2.1.length)&&qck f.1 f.2.1 0 0
def ylx:Ct:=⟨[.d zg],[.bool],fun x=>(qdl x.1,()),fun _=>[]⟩
theorem ydm:qa Tryz.prog 185 ylx:=
 conv ydl _ _ fun w F xs vs hr _=>by
  obtain ⟨⟨at_,val,_⟩,_⟩:=xs
  obtain ⟨v,vs',rfl,hv,_⟩:=hr
  have hwf:=qs.wf hv.2.2
  have hlen:(at_.length:Int)<=9223372036854775807:=by
   have:=hwf.1.1
   simp only [maxLen] at this
   omega
  by_cases hl:at_.length=val.length
  ·have hne:((at_.length:Int) != (val.length:Int))=false:=by simp [hl]
   refine ⟨⟨fun hb=>?_,fun _=>⟨⟨rfl,rfl,hl,Int.le_refl _,by omega,hlen⟩,⟨fun _=>trivial,fun _=>trivial⟩⟩⟩,?_⟩
   ·trivial
   ·show (if ((at_.length:Int) != (val.length:Int))=true then (false,()) else if qck at_ val 0 0=true then (true,()) else (false,()))=(decide (at_.length=val.length)&&qck at_ val 0 0,())
    rw [hne,decide_eq_true hl]
    cases qck at_ val 0 0<;>rfl
  ·have hne:((at_.length:Int) != (val.length:Int))=true:=by simp; omega
   refine ⟨⟨fun _=>trivial,fun hb=>?_⟩,?_⟩
   ·have hb':((at_.length:Int) != (val.length:Int))=false:=hb
    rw [hne] at hb'
    cases hb'
   ·show (if ((at_.length:Int) != (val.length:Int))=true then (false,()) else _)=(decide (at_.length=val.length)&&qck at_ val 0 0,())
    rw [hne,decide_eq_false hl]
    rfl
end Go.Proofs.YtgieagiaagoogaaGreat
namespace Go.Proofs.YtgieagiaagoogaaGreat
open Go Go.Ab Go.RowKit Go.Proofs Go.Shelf
attribute [local go_sem] Oper.semAt_some
theorem zl5 {w:World} {F:Nat->Prop} {l:List Int} {v:Value} (h:qs w F jd l (fun _ u=>u=v)) :
  ∃ A c,v = .slice A l.length c/\l.length<=c/\c<=maxLen/\(0 < l.length->∃ b off,A=some ⟨b,off,none⟩/\F b/\∀ (i:Nat) (x:Int),l[i]? = some x->w.cell? ⟨b,off+i,none⟩=some (.int .i64 x) /\ -9223372036854775808<=x/\x<=9223372036854775807):=by
 obtain ⟨A,c,rfl,h1,h2,h3⟩:=h
 refine ⟨A,c,rfl,h1,h2,fun hp=>?_⟩
 obtain ⟨ad,rfl,hF,hc,_⟩:=h3 0 l[0] (List.getElem?_eq_getElem hp)
 have hs:ad.spot=none:=by
  have hc':w.cell? (ad.add (0 * i64.size+0))=some (.int .i64 l[0]):=hc
  have he:ad.add (0 * i64.size+0)=ad:=by simp [Addr.add]
  rw [he] at hc'
  unfold World.cell? at hc'
  split at hc'
  ·split at hc'
   ·cases hc'
   ·rename_i hsp
    cases hsp2:ad.spot with
    |none=>rfl
    |some _=>rw [hsp2] at hsp; exact absurd rfl hsp
  ·cases hc'
 obtain ⟨b,off,sp⟩:=ad
 simp only at hs
 subst hs
 refine ⟨b,off,rfl,hF,fun i x hx=>?_⟩
 obtain ⟨ad,hA,_,hcx,hr⟩:=h3 i x hx
 simp only [Option.some.injEq] at hA
 subst hA
 have hcx':w.cell? ((⟨b,off,none⟩:Addr).add (i * 1+0))=some (.int .i64 x):=hcx
 have he:(⟨b,off,none⟩:Addr).add (i * 1+0)=⟨b,off+i,none⟩:=by
  unfold Addr.add
  split
  ·have:i=0:=by omega
   subst this
   rfl
  ·simp
 rw [he] at hcx'
 exact ⟨hcx',hr⟩
def js (f:zg.den) (e:Int):List Int->Int->List (Int × Int × Int)
 |[],a=>[(a,e,vz f a)]
 |d :: l,a=>if d<=a ∨ e<=d then js f e l a else (a,d,vz f a) :: js f e l d
def KpS (n₀ B1 B2:Nat) (W W':World):Prop:=Below n₀ W W'/\W'.heap[B1]? = W.heap[B1]? /\ W'.heap[B2]? = W.heap[B2]?
theorem KpS.refl (n₀ B1 B2:Nat) (W:World):KpS n₀ B1 B2 W W:=⟨Below.refl _ _,rfl,rfl⟩
theorem KpS.trans {n₀ B1 B2:Nat} {A B C:World} (h:KpS n₀ B1 B2 A B) (k:KpS n₀ B1 B2 B C):KpS n₀ B1 B2 A C:=⟨h.1.trans k.1,k.2.1.trans h.2.1,k.2.2.trans h.2.2⟩
theorem KpS.below {n₀ B1 B2:Nat} {W W':World} (h:Below W.heap.size W W') (h0:n₀<=W.heap.size) (h1:B1 < W.heap.size) (h2:B2 < W.heap.size):KpS n₀ B1 B2 W W':=⟨h.mono h0,h.block _ h1,h.block _ h2⟩
theorem qkr {β:Type} {B:Nat} {J:β->World->Prop} (hJ:AbidesFrom B J) {s:β} {W W':World} (h:J s W) (hb:Below W.heap.size W W'):J s W':=
 hJ s W W' none h ⟨hb.os,hb.tape,hb.output,hb.size,fun k hk _=>hb.block k hk⟩ (fun r e=>nomatch e)
abbrev zx7 (x:Int × Int × Int):Array Value:=#[.agg #[.int .i64 x.1,.int .i64 x.2.1],.int .i64 x.2.2]
def qrk (f:zg.den) (va:Value) (W:World):Prop:=∀ d:Int,-9223372036854775808<=d->d<=9223372036854775807->Calls Tryz.prog 206 #[va,.int .i64 d] W fun e W'=>e = .returned (.int .i64 (vz f d))/\Below W.heap.size W W'
theorem zof {f:zg.den} {va:Value} {W:World} {F:Nat->Prop} (hb:∀ b,F b->b < W.heap.size) (hr:zt W F zg f va) (h1:f.1.Pairwise (· < ·)) (h2:f.1.length=f.2.1.length):qrk f va W:=fun d hd1 hd2=>by
 have hi:zt W F i64 d (.int .i64 d):=⟨rfl,⟨fun h=>(by cases h),fun ⟨cs,h⟩=>(by cases h)⟩,rfl,hd1,hd2⟩
 refine (yew.2 W F (f,d,()) [va,.int .i64 d] hb ⟨va,_,rfl,hr,_,[],rfl,hi,rfl⟩ ⟨h1,h2⟩).mono ?_
 rintro e W' ⟨v,F',rfl,hbel,_,_,hv⟩
 have hv':qy Tryz.prog W' F' (fun _ _=>True) (qf1 i64 (vz f d)) v:=qbb hv
 have hv2:v = .int .i64 (vz f d):=hv'.2.1
 exact ⟨by rw [hv2],hbel⟩
end Go.Proofs.YtgieagiaagoogaaGreat
namespace Go.Proofs.YtgieagiaagoogaaGreat
open Go Go.Ab Go.RowKit Go.Proofs Go.Shelf
attribute [local go_sem] Oper.semAt_some
theorem qh {W:World} {b:Nat} {cs:Array Value} {t:TypeId} {x:Nat × Nat} (h:W.heap[b]? = some (.cells cs t x)) (i:Nat):W.cell? ⟨b,i,none⟩=cs[i]? := by
 simp [World.cell?,h]
structure RoundAt (n₀ B1 B2:Nat) (A:Option Addr) (at_:List Int) (va vb:Value) (e0 e1:Int) (f:zg.den) (W:World):Prop where
 b1:W.heap[B1]? = some (.cells #[va,vb] 190 (0,0))
 b2:W.heap[B2]? = some (.cells #[.int .i64 e0,.int .i64 e1] 31 (0,0))
 cells:0 < at_.length->∃ b off,A=some ⟨b,off,none⟩/\b < n₀/\∀ (i:Nat) (x:Int),at_[i]? = some x->W.cell? ⟨b,off+i,none⟩=some (.int .i64 x) /\ -9223372036854775808<=x/\x<=9223372036854775807
 vals:qrk f (.agg #[va,vb]) W
section
variable {α:Type} {g:α->Int × Int × Int}
theorem zxt {β:Type} {g:α->β} {all pre:List α} {y:β} {rest:List β} (h:pre.map g++y :: rest=all.map g) (hp:pre <+: all):∃ x,g x=y/\pre++[x] <+: all:=by
 obtain ⟨t,rfl⟩:=hp
 rw [List.map_append] at h
 have h':=List.append_cancel_left h
 cases t with
 |nil=>cases h'
 |cons x t=>
  simp only [List.map_cons,List.cons.injEq] at h'
  exact ⟨x,h'.1.symm,t,by simp⟩
def qeu (g:α->Int × Int × Int) (f:zg.den) (e1:Int) (at_:List Int) (all:List α) (k:Nat) (cur:Int) (pre:List α):Prop:=pre <+: all/\pre.map g++js f e1 (at_.drop k) cur=all.map g
theorem qeu.skip {f:zg.den} {e1:Int} {at_:List Int} {all:List α} {k:Nat} {cur:Int} {pre:List α} (h:qeu g f e1 at_ all k cur pre) {d:Int} (hd:at_[k]? = some d) (hc:d<=cur ∨ e1<=d):qeu g f e1 at_ all (k+1) cur pre:=by
 obtain ⟨hk,rfl⟩:=List.getElem?_eq_some_iff.1 hd
 refine ⟨h.1,?_⟩
 have h2:=h.2
 rw [List.drop_eq_getElem_cons hk] at h2
 rw [← h2]
 conv=>rhs; unfold js
 rw [if_pos hc]
theorem qeu.step {f:zg.den} {e1:Int} {at_:List Int} {all:List α} {k:Nat} {cur:Int} {pre:List α} (h:qeu g f e1 at_ all k cur pre) {d:Int} (hd:at_[k]? = some d) (hc:¬ (d<=cur ∨ e1<=d)) :
  ∃ x,g x=(cur,d,vz f cur)/\qeu g f e1 at_ all (k+1) d (pre++[x])/\pre.length < all.length:=by
 obtain ⟨hk,rfl⟩:=List.getElem?_eq_some_iff.1 hd
 have h2:=h.2
 rw [List.drop_eq_getElem_cons hk] at h2
 unfold js at h2
 rw [if_neg hc] at h2
 obtain ⟨x,hx,hp⟩:=zxt h2 h.1
 refine ⟨x,hx,⟨hp,?_⟩,?_⟩
 ·rw [← h2]
  simp [hx]
 ·have:=hp.length_le
  simp at this
  omega
theorem qeu.last {f:zg.den} {e1:Int} {at_:List Int} {all:List α} {k:Nat} {cur:Int} {pre:List α} (h:qeu g f e1 at_ all k cur pre) (hk:at_.length<=k) :
  ∃ x,g x=(cur,e1,vz f cur)/\pre++[x]=all/\pre.length < all.length:=by
 have h2:=h.2
 rw [List.drop_eq_nil_of_le hk] at h2
 obtain ⟨x,hx,hp⟩:=zxt (y:=(cur,e1,vz f cur)) (rest:=[]) h2 h.1
 have hl:=congrArg List.length h2
 simp [js] at hl
 refine ⟨x,hx,hp.eq_of_length (by simp; omega),by omega⟩
end
set_option maxRecDepth 100000 in
set_option maxHeartbeats 2000000 in
theorem ztp {α:Type} (g:α->Int × Int × Int) (all:List α) (n:Nat) (hn:1<=n) (l B1 B2 n₀:Nat) (A:Option Addr) (c:Nat) (at_:List Int) (vb:Value) (hvb:∃ A' n' c',vb = .slice A' n' c') (e0 e1:Int) (f:zg.den) (hlen:at_.length<=9223372036854775807) (he0 : -9223372036854775808<=e0/\e0<=9223372036854775807)
  (hall:all.map g=js f e1 at_ e0) (J Jx:List α->World->Prop) (W:World) (hJ:AbidesFrom W.heap.size J) (hn0:n₀<=W.heap.size)
  (hY:∀ pre x W1,J pre W1->pre.length < all.length->YieldAt Fence.wide (n - 1) Tryz.prog l (zx7 (g x)) W1 fun e W'=>
   (e = .returned (.bool true)/\J (pre++[x]) W'/\KpS n₀ B1 B2 W1 W') ∨ (e = .returned (.bool false)/\Jx (pre++[x]) W'))
  (hat:∀ W',KpS n₀ B1 B2 W W'->RoundAt n₀ B1 B2 A at_ (.slice A at_.length c) vb e0 e1 f W') (h0:J [] W) :
  CallsIn Fence.wide n Tryz.prog 205 #[.func (.yield l) #[] #[],.pointer (some ⟨B2,0,none⟩),.pointer (some ⟨B1,0,none⟩)] W fun e W'=>(∃ v,e = .returned v) /\
   ((∃ xs,xs=all/\J xs W') ∨ (∃ pre,pre <+: all/\Jx pre W')):=by
 obtain ⟨A',n',c',rfl⟩:=hvb
 have hro:Fence.wide.round=none:=rfl
 refine callsIn_of_wp Tryz.func205 rfl trivial ?_ hro
 simp only [Tryz.ntmps205,List.size_toArray,List.length_cons,List.length_nil,Nat.reduceAdd,Nat.reduceSub,Array.replicate_succ,Array.replicate_zero,List.push_toArray,List.append_toArray,List.nil_append,List.cons_append]
 have r0:=hat W (KpS.refl _ _ _ _)
 have c10:W.cell? ⟨B1,0,none⟩=some (.slice A at_.length c):=qh r0.b1 0
 have c11:W.cell? ⟨B1,1,none⟩=some (.slice A' n' c'):=qh r0.b1 1
 have c20:W.cell? ⟨B2,0,none⟩=some (.int .i64 e0):=qh r0.b2 0
 have c21:W.cell? ⟨B2,1,none⟩=some (.int .i64 e1):=qh r0.b2 1
 have hlen':=hlen
 gi_wp2
 gi_loopw [4,12] (fun u i wr=>∃ (k:Nat) (cur:Int) (pre:List α),k<=at_.length/\i = .int .i64 k/\u = .int .i64 cur/\(-9223372036854775808<=cur/\cur<=9223372036854775807)/\qeu g f e1 at_ all k cur pre/\J pre wr/\KpS n₀ B1 B2 W wr)
  (fun _ i _=>at_.length - (intOf i).toNat)
 case atStart=>exact ⟨0,e0,[],Nat.zero_le _,rfl,rfl,he0,⟨List.nil_prefix,hall.symm⟩,h0,KpS.refl _ _ _ _⟩
 case round=>
  obtain ⟨k,cur,pre,hk,rfl,rfl,hcur,hrel,hJs,hkp⟩:=hrel
  clear c10 c11 c20 c21 r0
  have rr:=hat _ hkp
  have c10:wr.cell? ⟨B1,0,none⟩=some (.slice A at_.length c):=qh rr.b1 0
  have c11:wr.cell? ⟨B1,1,none⟩=some (.slice A' n' c'):=qh rr.b1 1
  have c21:wr.cell? ⟨B2,1,none⟩=some (.int .i64 e1):=qh rr.b2 1
  by_cases hlt:k < at_.length
  ·obtain ⟨b,off,rfl,hb,hcx⟩:=rr.cells (by omega)
   obtain ⟨d,hd⟩:∃ d,at_[k]? = some d:=⟨_,List.getElem?_eq_getElem hlt⟩
   obtain ⟨hcd,hdr⟩:=hcx k d hd
   clear hcx
   have hb1:B1 < wr.heap.size:=(Array.getElem?_eq_some_iff.1 rr.b1).1
   have hb2:B2 < wr.heap.size:=(Array.getElem?_eq_some_iff.1 rr.b2).1
   have hn1:n₀<=wr.heap.size:=Nat.le_trans hn0 hkp.1.size
   by_cases t1:d<=cur
   ·have ht1:decide (d<=cur)=true:=by simpa using t1
    have hn:=hrel.skip hd (.inl t1)
    gi_wp2
    exact ⟨⟨k+1,cur,pre,by omega,by simp,rfl,hcur,hn,hJs,hkp⟩,by simp [intOf]; omega⟩
   ·have ht1:decide (d<=cur)=false:=by simpa using t1
    by_cases t2:e1<=d
    ·have ht2:decide (d ≥ e1)=true:=by simpa using t2
     have hn:=hrel.skip hd (.inr t2)
     gi_wp2
     exact ⟨⟨k+1,cur,pre,by omega,by simp,rfl,hcur,hn,hJs,hkp⟩,by simp [intOf]; omega⟩
    ·have ht2:decide (d ≥ e1)=false:=by simpa using t2
     obtain ⟨x,hgx,hst,hln⟩:=hrel.step hd (by omega)
     gi_wp2
     refine ⟨trivial,?_⟩
     refine (callsIn_wide.2 (rr.vals cur hcur.1 hcur.2)).mono ?_
     rintro e w1 ⟨rfl,hbel⟩
     have hk1:=hkp.trans (KpS.below hbel hn1 hb1 hb2)
     obtain ⟨fn,tmps,assign,body,hy,hR⟩:=hY pre x w1 (qkr hJ hJs hbel) hln
     rw [hgx] at hy
     gi_wp2
     refine hR.mono ?_
     rintro e W3 (⟨rfl,hJ3,hk3⟩ | ⟨rfl,hJx3⟩)
     ·gi_wp2
      go_roundw
      case rel=>exact ⟨k+1,d,pre++[x],by omega,by simp,rfl,hdr,hst,hJ3,hk1.trans hk3⟩
      case measure=>simp [intOf]; omega
     ·gi_wp2
      refine bodyPost_ret (results_none rfl _ _ _) rfl ?_
      exact ⟨⟨_,rfl⟩,.inr ⟨_,hst.1,hJx3⟩⟩
  ·obtain rfl:k=at_.length:=by omega
   obtain ⟨x,hgx,hl,hln⟩:=hrel.last (Nat.le_refl _)
   have hb1:B1 < wr.heap.size:=(Array.getElem?_eq_some_iff.1 rr.b1).1
   have hb2:B2 < wr.heap.size:=(Array.getElem?_eq_some_iff.1 rr.b2).1
   have hn1:n₀<=wr.heap.size:=Nat.le_trans hn0 hkp.1.size
   have hmx:Tryz.prog.follows .mixedOrders=true:=by kernel_rfl
   have hkd:KpS n₀ B1 B2 W wr.drew:=hkp.trans ⟨⟨rfl,rfl,rfl,Nat.le_refl _,fun _ _=>rfl⟩,rfl,rfl⟩
   have rd:=hat _ hkd
   have hJd:J pre wr.drew:=qkr hJ hJs ⟨rfl,rfl,rfl,Nat.le_refl _,fun _ _=>rfl⟩
   gi_wp2
   gi_region_with_o (first
    |(refine ⟨trivial,?_⟩; gi_at_call 206; refine (callsIn_wide.2 (rd.vals cur hcur.1 hcur.2)).mono ?_; rintro e w1 ⟨rfl,hbel⟩; have d21:w1.cell? ⟨B2,1,none⟩=some (.int .i64 e1):=qh (hat _ (hkd.trans (KpS.below hbel hn1 hb1 hb2))).b2 1; obtain ⟨fn,tmps,assign,body,hy,hR⟩:=hY pre x w1 (qkr hJ hJd hbel) hln; rw [hgx] at hy)
    |(refine (hR.mono (R':=fun e W'=>∃ bv,e = .returned (.bool bv)/\(if bv=true then J (pre++[x]) W' else Jx (pre++[x]) W')) (fun e W' h=>h.elim (fun h=>⟨true,h.1,h.2.1⟩) (fun h=>⟨false,h.1,h.2⟩))).mono ?_; rintro e W3 ⟨bv,rfl,hJ3⟩))
   all_goals go_end0
   all_goals (refine ⟨⟨_,rfl⟩,?_⟩; cases bv; exact .inr ⟨_,⟨[],by rw [List.append_nil]; exact hl⟩,hJ3⟩; exact .inl ⟨_,hl,hJ3⟩)
end Go.Proofs.YtgieagiaagoogaaGreat
namespace Go.Proofs.YtgieagiaagoogaaGreat
open Go Go.Ab Go.RowKit Go.Proofs Go.Shelf
attribute [local go_sem] Oper.semAt_some
theorem zes {v:Int}:qd5 v=true ↔ -4000000000000000000<=v/\v<=4000000000000000000:=by simp [qd5]
theorem qs6:{l r:List Int} -> {d v:Int}->qck l r d v=true->l.length=r.length->l.Pairwise (· < ·)/\(∀ x ∈ l,d < x/\x<=292194)/\∀ y ∈ r,qd5 y=true
 |[],[],_,_,_,_=>⟨List.Pairwise.nil,by simp,by simp⟩
 |[],_ :: _,_,_,_,hl=>by simp at hl
 |_ :: _,[],_,_,_,hl=>by simp at hl
 |a :: l,b :: r,d,v,h,hl=>by
  simp only [qck,Bool.and_eq_true,decide_eq_true_eq] at h
  obtain ⟨⟨h1,h2,h3,h4⟩,h5⟩:=h
  obtain ⟨i1,i2,i3⟩:=qs6 h5 (by simpa using hl)
  refine ⟨List.pairwise_cons.2 ⟨fun x hx=>(i2 x hx).1,i1⟩,fun x hx=>?_,fun y hy=>?_⟩
  ·rcases List.mem_cons.1 hx with rfl | hx
   ·exact ⟨h1,h2⟩
   ·exact ⟨Int.lt_trans h1 (i2 x hx).1,(i2 x hx).2⟩
  ·rcases List.mem_cons.1 hy with rfl | hy
   ·exact h4
   ·exact i3 y hy
theorem qn3 {f:zg.den} (h:qdl f=true):f.1.length=f.2.1.length/\f.1.Pairwise (· < ·)/\(∀ x ∈ f.1,0 < x/\x<=292194)/\∀ y ∈ f.2.1,-4000000000000000000<=y/\y<=4000000000000000000:=by
 simp only [qdl,Bool.and_eq_true,decide_eq_true_eq] at h
 obtain ⟨h1,h2,h3⟩:=qs6 h.2 h.1
 exact ⟨h.1,h1,h2,fun y hy=>zes.1 (h3 y hy)⟩
theorem zmo {f:zg.den} (h:∀ y ∈ f.2.1,-4000000000000000000<=y/\y<=4000000000000000000) (d:Int) : -4000000000000000000<=vz f d/\vz f d<=4000000000000000000:=by
 unfold vz
 split
 ·omega
 ·rename_i k _
  rw [List.getD_eq_getElem?_getD]
  cases hk:f.2.1[k]? with
  |none=>simp
  |some y=>
   have:=h y (List.mem_of_getElem? hk)
   simpa using this
def qj2 (x:Int × Int × Int):Prop:=1<=x.1/\x.1 < x.2.1/\x.2.1<=292195 /\ -4000000000000000000<=x.2.2/\x.2.2<=4000000000000000000
theorem qk2 {f:zg.den} (h:∀ y ∈ f.2.1,-4000000000000000000<=y/\y<=4000000000000000000) {e:Int} (he:e<=292195):(l:List Int)->(a:Int)->1<=a->a < e->∀ x ∈ js f e l a,qj2 x
 |[],a,h1,h2,x,hx=>by
  simp only [js,List.mem_singleton] at hx
  subst hx
  exact ⟨h1,h2,he,zmo h a⟩
 |d :: l,a,h1,h2,x,hx=>by
  unfold js at hx
  split at hx
  ·exact qk2 h he l a h1 h2 x hx
  ·rename_i hc
   rcases List.mem_cons.1 hx with rfl | hx
   ·exact ⟨h1,by show a < d; omega,by show d<=292195; omega,zmo h a⟩
   ·exact qk2 h he l d (by omega) (by omega) x hx
abbrev qe5:Type:={ x:Int × Int × Int // qj2 x }
def qcw (q:Int × Int) (x:Int × Int × Int):Option (Int × Int):=
 if max x.2.2 (-x.2.2) > (4000000000000000000 - q.2) / (x.2.1 - x.1) then none else some (q.1+(x.2.1 - x.1) * x.2.2,q.2+(x.2.1 - x.1) * max x.2.2 (-x.2.2))
def qap:List (Int × Int × Int)->Int × Int->Option (Int × Int)
 |[],q=>some q
 |x :: l,q=>(qcw q x).bind (qap l)
theorem qvm (l m:List (Int × Int × Int)) (q:Int × Int):qap (l++m) q=(qap l q).bind (qap m):=by
 induction l generalizing q with
 |nil=>rfl
 |cons x l ih=>
  simp only [List.cons_append,qap]
  cases qcw q x with
  |none=>rfl
  |some q'=>exact ih q'
def qtv (q:Int × Int):Prop:=0<=q.2/\q.2<=4000000000000000000 /\ -q.2<=q.1/\q.1<=q.2
theorem qxl {q q':Int × Int} {x:Int × Int × Int} (hx:qj2 x) (h:qcw q x=some q') (hq:qtv q):qtv q'/\(x.2.1 - x.1) * max x.2.2 (-x.2.2)<=4000000000000000000 - q.2/\0<=(x.2.1 - x.1) * max x.2.2 (-x.2.2) /\ -((x.2.1 - x.1) * max x.2.2 (-x.2.2))<=(x.2.1 - x.1) * x.2.2/\(x.2.1 - x.1) * x.2.2<=(x.2.1 - x.1) * max x.2.2 (-x.2.2):=by
 obtain ⟨h1,h2,h3,h4,h5⟩:=hx
 obtain ⟨a,b,v⟩:=x
 obtain ⟨s,t⟩:=q
 obtain ⟨g1,g2,g3,g4⟩:=hq
 simp only at *
 unfold qcw at h
 split at h
 ·cases h
 ·rename_i hc
  simp only [Option.some.injEq] at h
  subst h
  simp only at *
  have hn:0 < b - a:=by omega
  have hle:max v (-v)<=(4000000000000000000 - t) / (b - a):=by omega
  have e1:(b - a) * max v (-v)<=4000000000000000000 - t:=by
   have:=(Int.le_ediv_iff_mul_le hn).1 hle
   rw [Int.mul_comm]
   exact this
  have e2:0<=(b - a) * max v (-v):=Int.mul_nonneg (by omega) (by omega)
  have e3:(b - a) * v<=(b - a) * max v (-v):=Int.mul_le_mul_of_nonneg_left (by omega) (by omega)
  have e4 : -((b - a) * max v (-v))<=(b - a) * v:=by
   rw [← Int.mul_neg]
   exact Int.mul_le_mul_of_nonneg_left (by omega) (by omega)
  generalize (b - a) * max v (-v)=m at *
  generalize (b - a) * v=k at *
  refine ⟨⟨?_,?_,?_,?_⟩,e1,e2,e4,e3⟩<;>simp only<;>omega
def qaq (f:zg.den) (s:zw.den):Int × Int:=
 if qdl f=true/\wd s=true then match qap (js f s.2.1 f.1 s.1) (0,0) with
  |some q=>(q.1,0)
  |none=>(0,5)
 else (0,1)
def zq6:Ct:=⟨[.d zg,.d zw],[i64,i64],fun x=>((qaq x.1 x.2.1).1,(qaq x.1 x.2.1).2,()),fun _=>[]⟩
set_option maxRecDepth 100000 in
set_option maxHeartbeats 1000000 in
theorem zx8 (n:Nat) (A A':Option Addr) (l1 c1 l2 c2:Nat) (e0 e1:Int) (w:World) :
  CallsIn Fence.wide n Tryz.prog 187 #[.agg #[.slice A l1 c1,.slice A' l2 c2],.agg #[.int .i64 e0,.int .i64 e1]] w fun e w'=>
   e = .returned (.func (.func 205) #[] #[.pointer (some ⟨w.heap.size+1,0,none⟩),.pointer (some ⟨w.heap.size,0,none⟩)]) /\
   w'=(w.alloc (.cells #[.slice A l1 c1,.slice A' l2 c2] 190)).alloc (.cells #[.int .i64 e0,.int .i64 e1] 31):=by
 refine callsIn_of_wp Tryz.func187 rfl trivial ?_ rfl
 simp only [Tryz.ntmps187,List.size_toArray,List.length_cons,List.length_nil,Nat.reduceAdd,Nat.reduceSub,Array.replicate_succ,Array.replicate_zero,List.push_toArray,List.append_toArray,List.nil_append,List.cons_append]
 gi_wp2
 go_ret
 exact ⟨rfl,rfl⟩
end Go.Proofs.YtgieagiaagoogaaGreat
namespace Go.Proofs.YtgieagiaagoogaaGreat
open Go Go.Ab Go.RowKit Go.Proofs Go.Shelf
attribute [local go_sem] Oper.semAt_some
theorem zhx {f:FuncId} {ps:List PT} {g:qm ps->Bool} {ok:qm ps->List Prop} (h:qa Tryz.prog f ⟨ps,[.bool],fun x=>(g x,()),ok⟩) {w:World} {F:Nat->Prop} {xs:qm ps} {vs:List Value} (hb:∀ b,F b->b < w.heap.size) (hr:wn Tryz.prog w F ps xs vs) (hok:qq (ok xs)) :
  Calls Tryz.prog f vs.toArray w fun e w'=>e = .returned (.bool (g xs))/\Below w.heap.size w w':=by
 refine (h.2 w F xs vs hb hr hok).mono ?_
 rintro e w' ⟨v,F',rfl,hbel,_,_,hv⟩
 have hv':qy Tryz.prog w' F' (fun _ _=>True) (qf1 .bool (g xs)) v:=qbb hv
 have hv2:v = .bool (g xs):=hv'.2
 exact ⟨by rw [hv2],hbel⟩
structure Four (W:World) (z:Nat) (va vb x0 x1 x4 x5:Value):Prop where
 b0:W.heap[z]? = some (.cells #[va,vb] 190 (0,0))
 b1:W.heap[z+1]? = some (.cells #[x0,x1] 31 (0,0))
 b2:Boxed W (z+1+1) 3 x4
 b3:Boxed W (z+1+1+1) 57 x5
theorem Four.below {W W':World} {z m:Nat} {va vb x0 x1 x4 x5:Value} (h:Four W z va vb x0 x1 x4 x5) (hb:Below m W W') (hm:z+3 < m):Four W' z va vb x0 x1 x4 x5:=
 ⟨(hb.block _ (by omega)).trans h.b0,(hb.block _ (by omega)).trans h.b1,(hb.block _ (by omega)).trans h.b2,(hb.block _ (by omega)).trans h.b3⟩
theorem Four.start (w:World) (va vb x0 x1 x4 x5:Value) :
  Four ((((w.alloc (.cells #[va,vb] 190)).alloc (.cells #[x0,x1] 31)).alloc (.cells #[x4] 3)).alloc (.cells #[x5] 57)) w.heap.size va vb x0 x1 x4 x5:=by
 have h0:=World.alloc_heap_new w (.cells #[va,vb] 190)
 have h1:=World.alloc_heap_new (w.alloc (.cells #[va,vb] 190)) (.cells #[x0,x1] 31)
 have h2:=World.alloc_heap_new ((w.alloc (.cells #[va,vb] 190)).alloc (.cells #[x0,x1] 31)) (.cells #[x4] 3)
 have h3:=World.alloc_heap_new (((w.alloc (.cells #[va,vb] 190)).alloc (.cells #[x0,x1] 31)).alloc (.cells #[x4] 3)) (.cells #[x5] 57)
 simp only [World.size_alloc] at h1 h2 h3
 exact ⟨(Below.heap_alloc _ _ _ (by simp only [World.size_alloc]; omega)).trans ((Below.heap_alloc _ _ _ (by simp only [World.size_alloc]; omega)).trans ((Below.heap_alloc _ _ _ (by simp only [World.size_alloc]; omega)).trans h0)),
  (Below.heap_alloc _ _ _ (by simp only [World.size_alloc]; omega)).trans ((Below.heap_alloc _ _ _ (by simp only [World.size_alloc]; omega)).trans h1),
  (Below.heap_alloc _ _ _ (by simp only [World.size_alloc]; omega)).trans h2,h3⟩
theorem Four.cells {W:World} {z:Nat} {va vb x0 x1 x4 x5:Value} (h:Four W z va vb x0 x1 x4 x5) :
  W.cell? ⟨z,0,none⟩=some va/\W.cell? ⟨z,1,none⟩=some vb/\W.cell? ⟨z+1,0,none⟩=some x0/\W.cell? ⟨z+1,1,none⟩=some x1 /\
   W.cell? ⟨z+1+1,0,none⟩=some x4/\W.frozen? ⟨z+1+1,0,none⟩=false/\W.cell? ⟨z+1+1+1,0,none⟩=some x5/\W.frozen? ⟨z+1+1+1,0,none⟩=false:=
 ⟨qh h.b0 0,qh h.b0 1,qh h.b1 0,qh h.b1 1,h.b2.cell,h.b2.frozen,h.b3.cell,h.b3.frozen⟩
set_option maxRecDepth 100000 in
set_option maxHeartbeats 4000000 in
theorem yok (f:zg.den) (A A':Option Addr) (l1 c1 l2 c2:Nat) (e0 e1:Int) (w:World)
  (hR:∀ W,Below w.heap.size w W->Calls Tryz.prog 185 #[.agg #[.slice A l1 c1,.slice A' l2 c2]] W fun e w'=>e = .returned (.bool (qdl f))/\Below W.heap.size W w')
  (hF:∀ W,Calls Tryz.prog 186 #[.agg #[.int .i64 e0,.int .i64 e1]] W fun e w'=>e = .returned (.bool (wd (e0,e1,())))/\Below W.heap.size W w')
  (hno:¬ (qdl f=true/\wd (e0,e1,())=true)) :
  CallsIn Fence.wide 8 Tryz.prog 151 #[.agg #[.slice A l1 c1,.slice A' l2 c2],.agg #[.int .i64 e0,.int .i64 e1]] w fun e w'=>e = .returned (.tuple #[.int .i64 0,.int .i64 1])/\Below w.heap.size w w':=by
 refine callsIn_of_wp Tryz.func151 rfl trivial ?_ rfl
 simp only [Tryz.ntmps151,List.size_toArray,List.length_cons,List.length_nil,Nat.reduceAdd,Nat.reduceSub,Array.replicate_succ,Array.replicate_zero,List.push_toArray,List.append_toArray,List.nil_append,List.cons_append]
 generalize hb1:qdl f=b1 at *
 generalize hb2:wd (e0,e1,())=b2 at *
 have hB4:Below w.heap.size w ((((w.alloc (.cells #[.slice A l1 c1,.slice A' l2 c2] 190)).alloc (.cells #[.int .i64 e0,.int .i64 e1] 31)).alloc (.cells #[.int .i64 0] 3)).alloc (.cells #[.int .i64 0] 57)):=
  ((((Below.refl _ w).alloc (Nat.le_refl _) _).alloc (by simp) _).alloc (by simp; omega) _).alloc (by simp; omega) _
 have hS:=Four.start w (.slice A l1 c1) (.slice A' l2 c2) (.int .i64 e0) (.int .i64 e1) (.int .i64 0) (.int .i64 0)
 have hz:w.heap.size+3 < ((((w.alloc (.cells #[.slice A l1 c1,.slice A' l2 c2] 190)).alloc (.cells #[.int .i64 e0,.int .i64 e1] 31)).alloc (.cells #[.int .i64 0] 3)).alloc (.cells #[.int .i64 0] 57)).heap.size:=by simp
 have HS:=Lib.hid hS
 have HZ:=Lib.hid hz
 clear hS hz
 cases b1
 ·gi_wp2_with (refine ⟨trivial,?_⟩; gi_at_call 185; refine (callsIn_wide.2 (hR _ hB4)).mono ?_; rintro e w1 ⟨rfl,hb⟩; obtain ⟨k0,k1,k2,k3,k4,k5,k6,k7⟩:=(HS.out.below hb HZ.out).cells)
  refine ⟨trivial,?_⟩
  gi_wp2
  refine bodyPost_ret (v:=.tuple #[.int .i64 0,.int .i64 1]) (by simp [results,Tryz.results151,go_sem,k4,k6]) rfl ⟨rfl,?_⟩
  exact (((hB4.trans (hb.mono (by simp; omega))).setCell (p:=⟨w.heap.size+1+1,0,none⟩) (by simp; omega) _).setCell (p:=⟨w.heap.size+1+1+1,0,none⟩) (by simp; omega) _)
 ·cases b2
  ·gi_wp2_with (first | (refine ⟨trivial,?_⟩; gi_at_call 185; refine (callsIn_wide.2 (hR _ hB4)).mono ?_; rintro e w1 ⟨rfl,hb⟩; obtain ⟨k0,k1,k2,k3,k4,k5,k6,k7⟩:=(HS.out.below hb HZ.out).cells) | (refine ⟨trivial,?_⟩; gi_at_call 186; refine (callsIn_wide.2 (hF _)).mono ?_; rintro e w2 ⟨rfl,hb2⟩; obtain ⟨m0,m1,m2,m3,m4,m5,m6,m7⟩:=((HS.out.below hb HZ.out).below hb2 (Nat.lt_of_lt_of_le HZ.out hb.size)).cells))
   refine bodyPost_ret (v:=.tuple #[.int .i64 0,.int .i64 1]) (by simp [results,Tryz.results151,go_sem,m4,m6]) rfl ⟨rfl,?_⟩
   exact ((((hB4.trans (hb.mono (by simp; omega))).trans (hb2.mono (Nat.le_trans (hB4.trans (hb.mono (by simp; omega))).size (Nat.le_refl _)))).setCell (p:=⟨w.heap.size+1+1,0,none⟩) (by simp; omega) _).setCell (p:=⟨w.heap.size+1+1+1,0,none⟩) (by simp; omega) _)
  ·exact absurd ⟨rfl,rfl⟩ hno
theorem zlg (m:Nat) (hm:1<=m) (f:zg.den) (A A':Option Addr) (c1 l2 c2:Nat) (e0 e1:Int) (all:List qe5) (hall:all.map Subtype.val=js f e1 f.1 e0) (hlen:f.1.length<=9223372036854775807) (he0 : -9223372036854775808<=e0/\e0<=9223372036854775807) (w:World) (B1 B2:Nat) (W0:World) (h0:Below w.heap.size w W0)
  (hb1:W0.heap[B1]? = some (.cells #[.slice A f.1.length c1,.slice A' l2 c2] 190 (0,0))) (hb2:W0.heap[B2]? = some (.cells #[.int .i64 e0,.int .i64 e1] 31 (0,0)))
  (hcells:∀ W,Below w.heap.size w W->0 < f.1.length->∃ b off,A=some ⟨b,off,none⟩/\b < w.heap.size/\∀ (i:Nat) (x:Int),f.1[i]? = some x->W.cell? ⟨b,off+i,none⟩=some (.int .i64 x) /\ -9223372036854775808<=x/\x<=9223372036854775807)
  (hvals:∀ W,Below w.heap.size w W->qrk f (.agg #[.slice A f.1.length c1,.slice A' l2 c2]) W) :
  SeqStopsK Fence.wide m Tryz.prog 205 #[.pointer (some ⟨B2,0,none⟩),.pointer (some ⟨B1,0,none⟩)] (fun x:qe5=>zx7 x.1) (KpS w.heap.size B1 B2) (fun xs=>xs=all) (fun pre=>pre <+: all) all.length W0:=fun l J Jx W hW hJ hJx hY hJ0=>by
 have g1:B1 < W0.heap.size:=(Array.getElem?_eq_some_iff.1 hb1).1
 have g2:B2 < W0.heap.size:=(Array.getElem?_eq_some_iff.1 hb2).1
 have hB:Below w.heap.size w W:=h0.trans (hW.mono h0.size)
 refine ztp Subtype.val all m hm l B1 B2 w.heap.size A c1 f.1 (.slice A' l2 c2) ⟨_,_,_,rfl⟩ e0 e1 f hlen he0 hall J Jx W hJ hB.size hY (fun W' hk=>?_) hJ0
 have hB':=hB.trans hk.1
 exact ⟨hk.2.1.trans ((hW.block _ g1).trans hb1),hk.2.2.trans ((hW.block _ g2).trans hb2),hcells W' hB',hvals W' hB'⟩
def yle (o:Option (Int × Int)) (e:Ending):Prop:=match o with
 |some q=>e = .returned (.tuple #[.int .i64 q.1,.int .i64 0])
 |none=>e = .returned (.tuple #[.int .i64 0,.int .i64 5])
structure SumI (w:World) (z0 b4 b5 b6 b7:Nat) (pre:List qe5) (W:World) (q:Int × Int):Prop where
 sum:qap (pre.map Subtype.val) (0,0)=some q
 inv:qtv q
 x6:Boxed W b6 3 (.int .i64 q.1)
 x7:Boxed W b7 3 (.int .i64 q.2)
 x4:Boxed W b4 3 (.int .i64 0)
 x5:Boxed W b5 57 (.int .i64 0)
 bel:Below w.heap.size w W
 sz:z0<=W.heap.size
structure SumX (w:World) (b4 b5:Nat) (c:Code) (pre:List qe5) (W:World):Prop where
 ret:c = .ret
 sum:qap (pre.map Subtype.val) (0,0)=none
 x4:Boxed W b4 3 (.int .i64 0)
 x5:Boxed W b5 57 (.int .i64 5)
 bel:Below w.heap.size w W
theorem qbk {X Y:World} {row:Option Nat} {B b:Nat} {t:TypeId} {v:Value} (h:Boxed X b t v) (hg:X.grownBy Y row) (hr:∀ r,row=some r->B<=r/\∃ o:Obj,X.heap[r]? = some o/\o.isCells=false):Boxed Y b t v:=
 boxed_own b t (fun (_:Unit)=>v) () X Y row h hg (fun r e=>(hr r e).2)
theorem yef {w:World} {z0 b4 b5 b6 b7 B:Nat} (hB:w.heap.size<=B):OwnFrom B (fun pre W=>∃ q,SumI w z0 b4 b5 b6 b7 pre W q):=fun pre X Y row hs hg hr=>by
 obtain ⟨q,h⟩:=hs
 exact ⟨q,h.sum,h.inv,qbk h.x6 hg hr,qbk h.x7 hg hr,qbk h.x4 hg hr,qbk h.x5 hg hr,h.bel.grown hg h.bel.size (fun k e=>Nat.le_trans hB (hr k e).1),Nat.le_trans h.sz hg.size⟩
theorem yeh {w:World} {b4 b5 B:Nat} (hB:w.heap.size<=B) (c:Code):OwnFrom B (fun pre W=>SumX w b4 b5 c pre W):=fun pre X Y row h hg hr=>
 ⟨h.ret,h.sum,qbk h.x4 hg hr,qbk h.x5 hg hr,h.bel.grown hg h.bel.size (fun k e=>Nat.le_trans hB (hr k e).1)⟩
def yld (w0:Nat) (a:Int × Int × Int->Nat->Act) (x:qe5) (a':Act) (W:World):Prop:=∃ Bx,w0<=Bx/\W.heap[Bx]? = some (.cells #[.int .i64 x.1.1,.int .i64 x.1.2.1] 31 (0,0))/\a'=a x.1 Bx
theorem yee {w0 B:Nat} {a:Int × Int × Int->Nat->Act} (x:qe5) (a':Act):OwnFrom B (fun (_:Unit) W=>yld w0 a x a' W):=fun _ X Y row hs hg hr=>by
 obtain ⟨Bx,h1,h2,h3⟩:=hs
 refine ⟨Bx,h1,(hg.block Bx (Array.getElem?_eq_some_iff.1 h2).1 (fun e=>?_)).trans h2,h3⟩
 obtain ⟨_,o,ho,hc⟩:=hr Bx e.symm
 rw [h2] at ho
 cases ho
 cases hc
theorem zk3 (v:Int):max v (-v)=if v < -v then -v else v:=by split<;>omega
theorem zmf {pre:List qe5} {q:Int × Int} (h:qap (pre.map Subtype.val) (0,0)=some q) (x:qe5):qap ((pre++[x]).map Subtype.val) (0,0)=qcw q x.1:=by
 rw [List.map_append,qvm,h]
 show (qcw q x.1).bind (qap [])=_
 cases qcw q x.1<;>rfl
theorem qh0 (W:World) {b k:Nat} (v:Value) (h:k ≠ b):(W.setCell ⟨b,0,none⟩ v).heap[k]? = W.heap[k]? := by
 by_cases hk:k < W.heap.size
 ·exact (grownBy_setCell' W b v).block k hk (fun e=>h (by cases e; rfl))
 ·rw [Array.getElem?_eq_none (by rw [World.size_setCell]; omega),Array.getElem?_eq_none (by omega)]
theorem qvl {w W:World} {z0 b4 b5 b6 b7:Nat} {pre:List qe5} {s a x0 x1 v:Int} (hi:SumI w z0 b4 b5 b6 b7 pre W (s,a)) (hx:qj2 (x0,x1,v)) (hc:(4000000000000000000 - a) / (x1 - x0) < if v < -v then -v else v)
  (h45:b4 ≠ b5) (h4:w.heap.size<=b4) (h5:w.heap.size<=b5) :
  SumX w b4 b5 .ret (pre++[⟨(x0,x1,v),hx⟩]) ((W.setCell ⟨b4,0,none⟩ (.int .i64 0)).setCell ⟨b5,0,none⟩ (.int .i64 5)):=by
 refine ⟨rfl,?_,(hi.x4.set _).other h45 _,(hi.x5.other (Ne.symm h45) _).set _,(hi.bel.setCell (p:=⟨b4,0,none⟩) h4 _).setCell (p:=⟨b5,0,none⟩) h5 _⟩
 rw [zmf hi.sum]
 unfold qcw
 rw [if_pos]
 show max v (-v) > (4000000000000000000 - a) / (x1 - x0)
 rw [zk3]
 exact hc
theorem qvk {w W:World} {z0 b4 b5 b6 b7:Nat} {pre:List qe5} {s a x0 x1 v m:Int} (hi:SumI w z0 b4 b5 b6 b7 pre W (s,a)) (hx:qj2 (x0,x1,v)) (hc:(if v < -v then -v else v)<=(4000000000000000000 - a) / (x1 - x0)) (hm:m=if v < -v then -v else v)
  (h46:b4 ≠ b6) (h47:b4 ≠ b7) (h56:b5 ≠ b6) (h57:b5 ≠ b7) (h67:b6 ≠ b7) (h6:w.heap.size<=b6) (h7:w.heap.size<=b7) :
  SumI w z0 b4 b5 b6 b7 (pre++[⟨(x0,x1,v),hx⟩]) ((W.setCell ⟨b6,0,none⟩ (.int .i64 (wrap64 (s+wrap64 ((x1 - x0) * v))))).setCell ⟨b7,0,none⟩ (.int .i64 (wrap64 (a+wrap64 ((x1 - x0) * m))))) (s+(x1 - x0) * v,a+(x1 - x0) * max v (-v)):=by
 have hs:qcw (s,a) (x0,x1,v)=some (s+(x1 - x0) * v,a+(x1 - x0) * max v (-v)):=by
  unfold qcw
  rw [if_neg]
  show ¬ max v (-v) > (4000000000000000000 - a) / (x1 - x0)
  rw [zk3]
  omega
 have hmm:m=max v (-v):=by rw [zk3]; exact hm
 obtain ⟨hinv,k1,k2,k3,k4⟩:=qxl hx hs hi.inv
 obtain ⟨j1,j2,j3,j4⟩:=hi.inv
 simp only at k1 k2 k3 k4 j1 j2 j3 j4
 subst hmm
 have e1:wrap64 (s+wrap64 ((x1 - x0) * v))=s+(x1 - x0) * v:=by
  rw [IntWalk.wrap64_in ((x1 - x0) * v) (by omega),IntWalk.wrap64_in _ (by omega)]
 have e2:wrap64 (a+wrap64 ((x1 - x0) * max v (-v)))=a+(x1 - x0) * max v (-v):=by
  rw [IntWalk.wrap64_in ((x1 - x0) * max v (-v)) (by omega),IntWalk.wrap64_in _ (by omega)]
 rw [e1,e2]
 exact ⟨by rw [zmf hi.sum]; exact hs,hinv,(hi.x6.set _).other h67 _,(hi.x7.other (Ne.symm h67) _).set _,(hi.x4.other h46 _).other h47 _,(hi.x5.other h56 _).other h57 _,
  (hi.bel.setCell (p:=⟨b6,0,none⟩) h6 _).setCell (p:=⟨b7,0,none⟩) h7 _,by rw [World.size_setCell,World.size_setCell]; exact hi.sz⟩
theorem zpj {n₀ B1 B2 b c:Nat} (W:World) (u v:Value) (hb:n₀<=b) (hc:n₀<=c) (h1:B1 ≠ b) (h2:B1 ≠ c) (h3:B2 ≠ b) (h4:B2 ≠ c):KpS n₀ B1 B2 W ((W.setCell ⟨b,0,none⟩ u).setCell ⟨c,0,none⟩ v):=
 ⟨((Below.refl n₀ W).setCell (p:=⟨b,0,none⟩) hb _).setCell (p:=⟨c,0,none⟩) hc _,(qh0 _ _ h2).trans (qh0 _ _ h1),(qh0 _ _ h4).trans (qh0 _ _ h3)⟩
set_option maxRecDepth 100000 in
set_option maxHeartbeats 4000000 in
theorem yj2 (f:zg.den) (A A':Option Addr) (c1 l2 c2:Nat) (e0 e1:Int) (w:World)
  (hR:∀ W,Below w.heap.size w W->Calls Tryz.prog 185 #[.agg #[.slice A f.1.length c1,.slice A' l2 c2]] W fun e w'=>e = .returned (.bool true)/\Below W.heap.size W w')
  (hF:∀ W,Calls Tryz.prog 186 #[.agg #[.int .i64 e0,.int .i64 e1]] W fun e w'=>e = .returned (.bool true)/\Below W.heap.size W w')
  (all:List qe5) (hall:all.map Subtype.val=js f e1 f.1 e0) (hlen:f.1.length<=9223372036854775807) (he0 : -9223372036854775808<=e0/\e0<=9223372036854775807)
  (hcells:∀ W,Below w.heap.size w W->0 < f.1.length->∃ b off,A=some ⟨b,off,none⟩/\b < w.heap.size/\∀ (i:Nat) (x:Int),f.1[i]? = some x->W.cell? ⟨b,off+i,none⟩=some (.int .i64 x) /\ -9223372036854775808<=x/\x<=9223372036854775807)
  (hvals:∀ W,Below w.heap.size w W->qrk f (.agg #[.slice A f.1.length c1,.slice A' l2 c2]) W) :
  CallsIn Fence.wide 8 Tryz.prog 151 #[.agg #[.slice A f.1.length c1,.slice A' l2 c2],.agg #[.int .i64 e0,.int .i64 e1]] w fun e w'=>yle (qap (all.map Subtype.val) (0,0)) e/\Below w.heap.size w w':=by
 refine callsIn_of_wp_marks Tryz.func151 rfl trivial ?_ rfl
 simp only [Tryz.ntmps151,List.size_toArray,List.length_cons,List.length_nil,Nat.reduceAdd,Nat.reduceSub,Array.replicate_succ,Array.replicate_zero,List.push_toArray,List.append_toArray,List.nil_append,List.cons_append]
 have hB4:Below w.heap.size w ((((w.alloc (.cells #[.slice A f.1.length c1,.slice A' l2 c2] 190)).alloc (.cells #[.int .i64 e0,.int .i64 e1] 31)).alloc (.cells #[.int .i64 0] 3)).alloc (.cells #[.int .i64 0] 57)):=
  ((((Below.refl _ w).alloc (Nat.le_refl _) _).alloc (by simp) _).alloc (by simp; omega) _).alloc (by simp; omega) _
 have hS:=Four.start w (.slice A f.1.length c1) (.slice A' l2 c2) (.int .i64 e0) (.int .i64 e1) (.int .i64 0) (.int .i64 0)
 have hz:w.heap.size+3 < ((((w.alloc (.cells #[.slice A f.1.length c1,.slice A' l2 c2] 190)).alloc (.cells #[.int .i64 e0,.int .i64 e1] 31)).alloc (.cells #[.int .i64 0] 3)).alloc (.cells #[.int .i64 0] 57)).heap.size:=by simp
 have HS:=Lib.hid hS
 have HZ:=Lib.hid hz
 clear hS hz
 gi_wp2_with (first | (refine ⟨trivial,?_⟩; gi_at_call 185; refine (callsIn_wide.2 (hR _ hB4)).mono ?_; rintro e w1 ⟨rfl,hb⟩; obtain ⟨k0,k1,k2,k3,k4,k5,k6,k7⟩:=(HS.out.below hb HZ.out).cells) | (refine ⟨trivial,?_⟩; gi_at_call 186; refine (callsIn_wide.2 (hF _)).mono ?_; rintro e w2 ⟨rfl,hb2⟩; have HW2:=Lib.hid ((HS.out.below hb HZ.out).below hb2 (Nat.lt_of_lt_of_le HZ.out hb.size)); have HZ2:=Lib.hid (Nat.lt_of_lt_of_le (Nat.lt_of_lt_of_le HZ.out hb.size) hb2.size); have HW3:=Lib.hid (HW2.out.below (((Below.refl w2.heap.size w2).alloc (Nat.le_refl _) (.cells #[.int .i64 0] 3)).alloc (by simp) (.cells #[.int .i64 0] 3)) HZ2.out); obtain ⟨m0,m1,m2,m3,m4,m5,m6,m7⟩:=HW2.out.cells; obtain ⟨n0,n1,n2,n3,n4,n5,n6,n7⟩:=HW3.out.cells) | (refine ⟨trivial,?_⟩; gi_at_call 187; refine (zx8 _ _ _ _ _ _ _ _ _ _).mono ?_; rintro e w3 ⟨rfl,rfl⟩))
 obtain ⟨z2,hz2⟩:∃ z2,w2.heap.size=z2:=⟨_,rfl⟩
 have hbel2:Below w.heap.size w w2:=(hB4.trans (hb.mono (by simp; omega))).trans (hb2.mono (Nat.le_trans (by simp; omega) hb.size))
 have q0:=World.alloc_heap_new w2 (.cells #[.int .i64 0] 3)
 have q1:=World.alloc_heap_new (w2.alloc (.cells #[.int .i64 0] 3)) (.cells #[.int .i64 0] 3)
 have q2:=World.alloc_heap_new ((w2.alloc (.cells #[.int .i64 0] 3)).alloc (.cells #[.int .i64 0] 3)) (.cells #[.slice A f.1.length c1,.slice A' l2 c2] 190)
 have q3:=World.alloc_heap_new (((w2.alloc (.cells #[.int .i64 0] 3)).alloc (.cells #[.int .i64 0] 3)).alloc (.cells #[.slice A f.1.length c1,.slice A' l2 c2] 190)) (.cells #[.int .i64 e0,.int .i64 e1] 31)
 simp only [World.size_alloc] at q1 q2 q3
 have r0:=(Below.heap_alloc (((w2.alloc (.cells #[.int .i64 0] 3)).alloc (.cells #[.int .i64 0] 3)).alloc (.cells #[.slice A f.1.length c1,.slice A' l2 c2] 190)) (.cells #[.int .i64 e0,.int .i64 e1] 31) w2.heap.size (by simp only [World.size_alloc]; omega)).trans ((Below.heap_alloc _ _ _ (by simp only [World.size_alloc]; omega)).trans ((Below.heap_alloc _ _ _ (by simp only [World.size_alloc]; omega)).trans q0))
 have r1:=(Below.heap_alloc (((w2.alloc (.cells #[.int .i64 0] 3)).alloc (.cells #[.int .i64 0] 3)).alloc (.cells #[.slice A f.1.length c1,.slice A' l2 c2] 190)) (.cells #[.int .i64 e0,.int .i64 e1] 31) (w2.heap.size+1) (by simp only [World.size_alloc]; omega)).trans ((Below.heap_alloc _ _ _ (by simp only [World.size_alloc]; omega)).trans q1)
 have r2:=(Below.heap_alloc (((w2.alloc (.cells #[.int .i64 0] 3)).alloc (.cells #[.int .i64 0] 3)).alloc (.cells #[.slice A f.1.length c1,.slice A' l2 c2] 190)) (.cells #[.int .i64 e0,.int .i64 e1] 31) (w2.heap.size+1+1) (by simp only [World.size_alloc]; omega)).trans q2
 have hbW:Below w2.heap.size w2 ((((w2.alloc (.cells #[.int .i64 0] 3)).alloc (.cells #[.int .i64 0] 3)).alloc (.cells #[.slice A f.1.length c1,.slice A' l2 c2] 190)).alloc (.cells #[.int .i64 e0,.int .i64 e1] 31)):=
  ((((Below.refl _ w2).alloc (Nat.le_refl _) _).alloc (by simp) _).alloc (by simp; omega) _).alloc (by simp; omega) _
 have hsz:((((w2.alloc (.cells #[.int .i64 0] 3)).alloc (.cells #[.int .i64 0] 3)).alloc (.cells #[.slice A f.1.length c1,.slice A' l2 c2] 190)).alloc (.cells #[.int .i64 e0,.int .i64 e1] 31)).heap.size=w2.heap.size+4:=by simp
 have hW4:=HW2.out.below hbW HZ2.out
 have hzz:=HZ2.out
 obtain ⟨W0,hW0⟩:∃ W0,(((w2.alloc (.cells #[.int .i64 0] 3)).alloc (.cells #[.int .i64 0] 3)).alloc (.cells #[.slice A f.1.length c1,.slice A' l2 c2] 190)).alloc (.cells #[.int .i64 e0,.int .i64 e1] 31)=W0:=⟨_,rfl⟩
 rw [hW0] at r0 r1 r2 q3 hbW hsz hW4 ⊢
 clear hW0 HW3 HW2 HZ2 HS HZ hB4 m0 m1 m2 m3 m4 m5 m6 m7 n0 n1 n2 n3 n4 n5 n6 n7 k0 k1 k2 k3 k4 k5 k6 k7 q0 q1 q2
 have hbel0:Below w.heap.size w W0:=hbel2.trans (hbW.mono hbel2.size)
 clear hbW hb hb2 hz2 hbel2 hR hF
 have hzw:w.heap.size+3 < W0.heap.size:=by omega
 have hsz':w2.heap.size+4<=W0.heap.size:=by omega
 clear hsz
 refine wpIn_rangeFunc_ownH rfl (by omega) (gf:=205) (lb:=#[.pointer (some ⟨w2.heap.size+1+1+1,0,none⟩),.pointer (some ⟨w2.heap.size+1+1,0,none⟩)]) rfl trivial (enters_of Tryz.func205 (by kernel_rfl) rfl)
  (zlg 7 (by omega) f A A' c1 l2 c2 e0 e1 all hall hlen he0 w (w2.heap.size+1+1) (w2.heap.size+1+1+1) W0 hbel0 r2 q3 hcells hvals)
  (fun h k=>h.trans k) (fun W l o o' hl ho hoc how=>⟨belowK_b (w:=w) (Nat.le_refl _) W l o o' (by omega) ho hoc how,World.putObj_heap_other (by omega),World.putObj_heap_other (by omega)⟩) (Below.refl _ _) (fun _=>rfl)
  (fun pre W=>∃ q,SumI w W0.heap.size (w.heap.size+1+1) (w.heap.size+1+1+1) w2.heap.size (w2.heap.size+1) pre W q)
  (fun c pre W=>SumX w (w.heap.size+1+1) (w.heap.size+1+1+1) c pre W)
  (yef (by omega)) (yeh (by omega)) ⟨(0,0),rfl,⟨by decide,by decide,by decide,by decide⟩,r0,r1,hW4.b2,hW4.b3,hbel0,Nat.le_refl _⟩
  (yld W0.heap.size (fun x Bx=>{ tmps:=#[.agg #[.slice A f.1.length c1,.slice A' l2 c2],.agg #[.int .i64 e0,.int .i64 e1],.pointer (some ⟨w.heap.size,0,none⟩),.pointer (some ⟨w.heap.size+1,0,none⟩),.pointer (some ⟨w.heap.size+1+1,0,none⟩),.pointer (some ⟨w.heap.size+1+1+1,0,none⟩),.pointer (some ⟨w2.heap.size,0,none⟩),.pointer (some ⟨w2.heap.size+1,0,none⟩),.pointer (some ⟨Bx,0,none⟩),.int .i64 x.2.2,undef,undef,
   .agg #[.slice A f.1.length c1,.slice A' l2 c2],.bool true,.bool false,.bool false,.agg #[.int .i64 e0,.int .i64 e1],.bool true,.bool false,.bool false,.agg #[.slice A f.1.length c1,.slice A' l2 c2],.agg #[.int .i64 e0,.int .i64 e1],.func (.func 205) #[] #[.pointer (some ⟨w2.heap.size+1+1+1,0,none⟩),.pointer (some ⟨w2.heap.size+1+1,0,none⟩)],
   .agg #[.int .i64 x.1,.int .i64 x.2.1],.int .i64 x.2.2,undef,undef,undef,undef,undef,undef,undef,undef,undef,undef,undef,undef,undef,undef,undef,undef,undef,undef,undef,undef,undef,undef,undef,undef,undef,undef],defers:=[] }))
  yee ?assign ?body ?done ?stop
 case assign=>
  rintro l pre x W K ⟨q,hi⟩ hK
  obtain ⟨⟨x0,x1,v⟩,hx⟩:=x
  gi_wp2
  have hsz1:=hi.sz
  exact hK _ _ ((KeepsOthers.alloc _ _).from _) (KpS.below ((Below.refl _ W).alloc (Nat.le_refl _) _) hi.bel.size (by omega) (by omega))
   ⟨q,hi.sum,hi.inv,hi.x6.alloc _,hi.x7.alloc _,hi.x4.alloc _,hi.x5.alloc _,hi.bel.alloc hi.bel.size _,by simp; omega⟩ ⟨W.heap.size,hsz1,World.alloc_heap_new W _,rfl⟩
 case body=>
  rintro l pre x a' W hl ⟨r,hr⟩ ⟨q,hi⟩ ⟨Bx,hBx,bX,rfl⟩ hlt
  obtain ⟨⟨x0,x1,v⟩,hx⟩:=x
  obtain ⟨s,a⟩:=q
  have hx':1<=x0/\x0 < x1/\x1<=292195 /\ -4000000000000000000<=v/\v<=4000000000000000000:=hx
  obtain ⟨y1,y2,y3,y4,y5⟩:=hx'
  have hinv:0<=a/\a<=4000000000000000000 /\ -a<=s/\s<=a:=hi.inv
  obtain ⟨i1,i2,i3,i4⟩:=hinv
  have bX':W.heap[Bx]? = some (.cells #[.int .i64 x0,.int .i64 x1] 31 (0,0)):=bX
  have cX0:W.cell? ⟨Bx,0,none⟩=some (.int .i64 x0):=qh bX' 0
  have cX1:W.cell? ⟨Bx,1,none⟩=some (.int .i64 x1):=qh bX' 1
  have c6:W.cell? ⟨w2.heap.size,0,none⟩=some (.int .i64 s):=hi.x6.cell
  have c7:W.cell? ⟨w2.heap.size+1,0,none⟩=some (.int .i64 a):=hi.x7.cell
  have f6:=hi.x6.frozen
  have f7:=hi.x7.frozen
  have c4:=hi.x4.cell
  have f4:=hi.x4.frozen
  have c5:=hi.x5.cell
  have f5:=hi.x5.frozen
  have HB:=Lib.hid bX'
  clear bX bX' hr
  gi_wp2
  ·have hc:(4000000000000000000 - a) / (x1 - x0) < if v < -v then -v else v:=by assumption
   exact ⟨((KeepsOthers.setCell _ _ _).trans (KeepsOthers.setCell _ _ _)).from _,qvl hi hx hc (by omega) (by omega) (by omega)⟩
  ·have hc:(4000000000000000000 - a) / (x1 - x0) < if v < -v then -v else v:=by assumption
   exact ⟨((KeepsOthers.setCell _ _ _).trans (KeepsOthers.setCell _ _ _)).from _,qvl hi hx hc (by omega) (by omega) (by omega)⟩
  ·have hc:(if v < -v then -v else v)<=(4000000000000000000 - a) / (x1 - x0):=by assumption
   have hv:v < -v:=by assumption
   exact ⟨((KeepsOthers.setCell _ _ _).trans (KeepsOthers.setCell _ _ _)).from _,zpj W _ _ (by omega) (by omega) (by omega) (by omega) (by omega) (by omega),_,_,
    qvk hi hx hc (by rw [if_pos hv]) (by omega) (by omega) (by omega) (by omega) (by omega) (by omega) (by omega)⟩
  ·have hc:(if v < -v then -v else v)<=(4000000000000000000 - a) / (x1 - x0):=by assumption
   have hv:¬ v < -v:=by omega
   exact ⟨((KeepsOthers.setCell _ _ _).trans (KeepsOthers.setCell _ _ _)).from _,zpj W _ _ (by omega) (by omega) (by omega) (by omega) (by omega) (by omega),_,_,
    qvk hi hx hc (by rw [if_neg hv]) (by omega) (by omega) (by omega) (by omega) (by omega) (by omega) (by omega)⟩
 case done=>
  rintro D zs W hD rfl ⟨q,hi⟩ hK
  have c6:=hi.x6.cell
  have c4:=hi.x4.cell
  have f4:=hi.x4.frozen
  have c5:=hi.x5.cell
  have f5:=hi.x5.frozen
  gi_wp2
  have hK':=((KeepsOthers.setCell W ⟨w.heap.size+1+1,0,none⟩ (.int .i64 q.1)).trans (KeepsOthers.setCell _ ⟨w.heap.size+1+1+1,0,none⟩ (.int .i64 0))).same D _ hK rfl
  have x4':=(hi.x4.set (.int .i64 q.1)).other (B':=w.heap.size+1+1+1) (by omega) (.int .i64 0)
  have x5':=(hi.x5.other (B':=w.heap.size+1+1) (by omega) (.int .i64 q.1)).set (.int .i64 0)
  have d4:=cell_kept x4'.cell (grownBy_putObj' _ D (.deferred none)) (fun r e=>by cases e; exact ⟨_,hK',rfl⟩)
  have d5:=cell_kept x5'.cell (grownBy_putObj' _ D (.deferred none)) (fun r e=>by cases e; exact ⟨_,hK',rfl⟩)
  have hbb:=(hi.bel.setCell (p:=⟨w.heap.size+1+1,0,none⟩) (by show w.heap.size<=w.heap.size+1+1; omega) (.int .i64 q.1)).setCell (p:=⟨w.heap.size+1+1+1,0,none⟩) (by show w.heap.size<=w.heap.size+1+1+1; omega) (.int .i64 0)
  refine ⟨by simp,.inl ⟨_,_,rfl,run_takeDeferred hK',?_⟩⟩
  refine ⟨.tuple #[.int .i64 q.1,.int .i64 0],?_,?_,hbb.trans (belowK_b (w:=w) (Nat.le_refl _) _ D _ _ (by omega) hK' rfl rfl)⟩
  ·simp [results,Tryz.results151,go_sem,d4,d5]
  ·rw [hi.sum]
   rfl
 case stop=>
  rintro D c pre W hD ⟨r,rfl⟩ h hK
  obtain rfl:=h.ret
  have c4:=h.x4.cell
  have f4:=h.x4.frozen
  have c5:=h.x5.cell
  have f5:=h.x5.frozen
  gi_wp2
  have d4:=cell_kept h.x4.cell (grownBy_putObj' _ D (.deferred none)) (fun r e=>by cases e; exact ⟨_,hK,rfl⟩)
  have d5:=cell_kept h.x5.cell (grownBy_putObj' _ D (.deferred none)) (fun r e=>by cases e; exact ⟨_,hK,rfl⟩)
  refine ⟨by simp,.inl ⟨_,_,rfl,run_takeDeferred hK,?_⟩⟩
  refine ⟨.tuple #[.int .i64 0,.int .i64 5],?_,?_,h.bel.trans (belowK_b (w:=w) (Nat.le_refl _) _ D _ _ (by omega) hK rfl rfl)⟩
  ·simp [results,Tryz.results151,go_sem,d4,d5]
  ·rw [List.map_append,qvm,h.sum]
   rfl
end Go.Proofs.YtgieagiaagoogaaGreat
namespace Go.Proofs.YtgieagiaagoogaaGreat
open Go Go.Ab Go.RowKit Go.Proofs Go.Shelf
theorem ylm {cs:Array Value} {a b:Value} (hs:cs.size=2) (h0:cs[0]? = some a) (h1:cs[1]? = some b):cs = #[a,b]:=by
 apply Array.ext
 ·simp [hs]
 ·intro i hi hj
  have h2:i < 2:=by omega
  match i,h2 with
  |0,_=>
   have:=Array.getElem?_eq_some_iff.1 h0
   simpa using this.2
  |1,_=>
   have:=Array.getElem?_eq_some_iff.1 h1
   simpa using this.2
theorem yeb {w:World} {F:Nat->Prop} {f:zg.den} {v:Value} (h:zt w F zg f v):∃ a b,v = .agg #[a,b]/\qs w F jd f.1 (fun _ u=>u=a)/\qs w F jd f.2.1 (fun _ u=>u=b):=by
 obtain ⟨cs,rfl⟩:=h.2.1.1 rfl
 have hs:cs.size=2:=h.1
 refine ⟨cs[0]'(by omega),cs[1]'(by omega),?_,?_,?_⟩
 ·congr 1
  exact ylm hs (Array.getElem?_eq_getElem (by omega)) (Array.getElem?_eq_getElem (by omega))
 ·refine qs.mono (fun _ h=>h) (fun _ _=>rfl) ?_ h.2.2.1
  intro j u hj hu
  have:j=0:=by have:j < 1:=hj; omega
  subst this
  have hu':cs[0]? = some u:=hu
  rw [Array.getElem?_eq_getElem (by omega)] at hu'
  simpa using hu'.symm
 ·refine qs.mono (fun _ h=>h) (fun _ _=>rfl) ?_ h.2.2.2.1
  intro j u hj hu
  have:j=0:=by have:j < 1:=hj; omega
  subst this
  have hu':cs[1]? = some u:=hu
  rw [Array.getElem?_eq_getElem (by omega)] at hu'
  simpa using hu'.symm
theorem yd6 {w:World} {F:Nat->Prop} {s:zw.den} {v:Value} (h:zt w F zw s v):v = .agg #[.int .i64 s.1,.int .i64 s.2.1]/\(-9223372036854775808<=s.1/\s.1<=9223372036854775807) /\ -9223372036854775808<=s.2.1/\s.2.1<=9223372036854775807:=by
 obtain ⟨cs,rfl⟩:=h.2.1.1 rfl
 have hs:cs.size=2:=h.1
 have h0:cs[0]? = some (.int .i64 s.1):=h.2.2.1.1
 have h1:cs[1]? = some (.int .i64 s.2.1):=h.2.2.2.1.1
 exact ⟨by rw [ylm hs h0 h1],h.2.2.1.2,h.2.2.2.1.2⟩
theorem qvn:{l:List (Int × Int × Int)}->(∀ x ∈ l,qj2 x) -> {q q':Int × Int}->qtv q->qap l q=some q'->qtv q'
 |[],_,q,q',hq,h=>by
  simp only [qap,Option.some.injEq] at h
  subst h
  exact hq
 |x :: l,hl,q,q',hq,h=>by
  simp only [qap] at h
  cases hs:qcw q x with
  |none=>rw [hs] at h; cases h
  |some q1=>
   rw [hs] at h
   exact qvn (fun y hy=>hl y (by simp [hy])) (qxl (hl x (by simp)) hs hq).1 h
theorem qcp {a b:Int} {u:Unit}:wd (a,b,u)=true↔1<=a/\a < b/\b<=292195:=by
 simp [wd]
theorem zmj {w:World} {F:Nat->Prop} {a b:Int} (ha : -9223372036854775808<=a/\a<=9223372036854775807) (hb : -9223372036854775808<=b/\b<=9223372036854775807):qiz w F [i64,i64] (a,b,()) (.tuple #[.int .i64 a,.int .i64 b]):=
 ⟨_,rfl,_,_,rfl,⟨rfl,⟨fun h=>(by cases h),fun ⟨cs,h⟩=>(by cases h)⟩,rfl,ha⟩,_,_,rfl,⟨rfl,⟨fun h=>(by cases h),fun ⟨cs,h⟩=>(by cases h)⟩,rfl,hb⟩,rfl⟩
theorem zhr:{l:List (Int × Int × Int)}->(∀ x ∈ l,qj2 x)->∃ all:List qe5,all.map Subtype.val=l
 |[],_=>⟨[],rfl⟩
 |x :: l,h=>by
  obtain ⟨all,ha⟩:=zhr (l:=l) (fun y hy=>h y (by simp [hy]))
  exact ⟨⟨x,h x (by simp)⟩ :: all,by simp [ha]⟩
theorem yol:qa Tryz.prog 151 zq6:=by
 refine ⟨enters (fn:=Tryz.f151) (by kernel_rfl) rfl rfl,fun w F xs vs hbd hr _=>?_⟩
 obtain ⟨f,⟨e0,e1,u⟩,_⟩:=xs
 obtain ⟨va,vs',rfl,hva,vb,vs'',rfl,hvb,hn⟩:=hr
 cases hn
 have hva':zt w F zg f va:=hva
 have hvb':zt w F zw (e0,e1,u) vb:=hvb
 obtain ⟨rfl,he0,he1⟩:=yd6 hvb'
 obtain ⟨sa,sb,rfl,ha,hb⟩:=yeb hva'
 obtain ⟨A,c1,rfl,hl1,hl2,hcells⟩:=zl5 ha
 obtain ⟨A',c2,rfl,hl3,hl4,_⟩:=zl5 hb
 have hmono:∀ W,Below w.heap.size w W->zt W F zg f (.agg #[.slice A f.1.length c1,.slice A' f.2.1.length c2]):=fun W hW=>hva'.mono (fun _ h=>h) (fun b hb=>hW.block b (hbd b hb))
 have hspan:∀ (W:World) (F:Nat->Prop),zt W F zw (e0,e1,u) (.agg #[.int .i64 e0,.int .i64 e1]):=fun W F=>⟨rfl,⟨fun _=>⟨_,rfl⟩,fun _=>rfl⟩,⟨rfl,he0⟩,⟨rfl,he1⟩,trivial⟩
 have hR:∀ W,Below w.heap.size w W->Calls Tryz.prog 185 #[.agg #[.slice A f.1.length c1,.slice A' f.2.1.length c2]] W fun e w'=>e = .returned (.bool (qdl f))/\Below W.heap.size W w':=fun W hW=>
  zhx (ps:=[.d zg]) (g:=fun x=>qdl x.1) ydm (F:=F) (xs:=(f,())) (vs:=[_]) (fun b hb=>Nat.lt_of_lt_of_le (hbd b hb) hW.size) ⟨_,[],rfl,hmono W hW,rfl⟩ trivial
 have hF:∀ W,Calls Tryz.prog 186 #[.agg #[.int .i64 e0,.int .i64 e1]] W fun e w'=>e = .returned (.bool (wd (e0,e1,())))/\Below W.heap.size W w':=fun W=>
  zhx (ps:=[.d zw]) (g:=fun x=>wd x.1) ybx (F:=fun _=>False) (xs:=((e0,e1,()),())) (vs:=[_]) (fun b hb=>hb.elim) ⟨_,[],rfl,hspan W _,rfl⟩ trivial
 by_cases hyes:qdl f=true/\wd (e0,e1,())=true
 ·obtain ⟨hr1,hr2⟩:=hyes
  obtain ⟨hlen,hup,_,hval⟩:=qn3 hr1
  have hok:=qk2 (f:=f) hval (e:=e1) (qcp.1 hr2).2.2 f.1 e0 (qcp.1 hr2).1 (qcp.1 hr2).2.1
  obtain ⟨all,hall⟩:=zhr hok
  rw [hr1] at hR
  rw [hr2] at hF
  have hl0:f.1.length<=9223372036854775807:=by
   have:=Nat.le_trans hl1 hl2
   unfold maxLen at this
   omega
  have key:=yj2 f A A' c1 f.2.1.length c2 e0 e1 w hR hF all hall hl0 he0 (fun W hW hp=>by
   obtain ⟨b,off,h1,h2,h3⟩:=hcells hp
   exact ⟨b,off,h1,hbd b h2,fun i x hx=>⟨(hW.cell (p:=⟨b,off+i,none⟩) (hbd b h2)).trans (h3 i x hx).1,(h3 i x hx).2⟩⟩)
   (fun W hW=>zof (fun b hb=>Nat.lt_of_lt_of_le (hbd b hb) hW.size) (hmono W hW) hup hlen)
  refine (callsIn_wide.1 key).mono ?_
  rintro e w' ⟨he,hbel⟩
  rw [hall] at he
  have hS:qaq f (e0,e1,u)=match qap (js f e1 f.1 e0) (0,0) with
    |some q=>(q.1,0)
    |none=>(0,5):=by
   unfold qaq
   rw [if_pos ⟨hr1,hr2⟩]
   try rfl
  cases hq:qap (js f e1 f.1 e0) (0,0) with
  |none=>
   rw [hq] at he hS
   have he':e = .returned (.tuple #[.int .i64 0,.int .i64 5]):=he
   refine ⟨_,F,he',hbel,fun _ h=>h,fun b hb=>⟨.inl hb,Nat.lt_of_lt_of_le (hbd b hb) hbel.size⟩,?_⟩
   show qiz w' F [i64,i64] ((qaq f (e0,e1,u)).1,(qaq f (e0,e1,u)).2,()) _
   rw [hS]
   exact zmj (by decide) (by decide)
  |some q=>
   rw [hq] at he hS
   have he':e = .returned (.tuple #[.int .i64 q.1,.int .i64 0]):=he
   refine ⟨_,F,he',hbel,fun _ h=>h,fun b hb=>⟨.inl hb,Nat.lt_of_lt_of_le (hbd b hb) hbel.size⟩,?_⟩
   show qiz w' F [i64,i64] ((qaq f (e0,e1,u)).1,(qaq f (e0,e1,u)).2,()) _
   rw [hS]
   obtain ⟨j1,j2,j3,j4⟩:=qvn hok (q:=(0,0)) ⟨by decide,by decide,by decide,by decide⟩ hq
   exact zmj ⟨by show _<=q.1; omega,by show q.1<=_; omega⟩ (b:=0) (by decide)
 ·have key:=yok f A A' f.1.length c1 f.2.1.length c2 e0 e1 w hR hF hyes
  refine (callsIn_wide.1 key).mono ?_
  rintro e w' ⟨rfl,hbel⟩
  refine ⟨_,F,rfl,hbel,fun _ h=>h,fun b hb=>⟨.inl hb,Nat.lt_of_lt_of_le (hbd b hb) hbel.size⟩,?_⟩
  show qiz w' F [i64,i64] ((qaq f (e0,e1,u)).1,(qaq f (e0,e1,u)).2,()) _
  have hS:qaq f (e0,e1,u)=(0,1):=if_neg hyes
  rw [hS]
  exact zmj (by decide) (by decide)
end Go.Proofs.YtgieagiaagoogaaGreat
namespace Go.Proofs.YtgieagiaagoogaaGreat
open Go Go.Ab Go.RowKit Go.Proofs
abbrev qac:Ty:=.sl qk
theorem qd8 (a b:Bool):(bif a then b else false)=(a&&b):=by cases a<;>rfl
theorem ylr (a b:Bool):(bif a then true else b)=(a || b):=by cases a<;>rfl
theorem qdf {n:Int} (h : -9223372036854775808<=n/\n<=9223372036854775807):IntKind.i64.wrap n=n:=IntWalk.i64_in _ h
def qa5:Pc:=⟨[.d i64],[],fun _=>(),fun x=>!(x.1==0),fun x=>⟨57,.i64,x.1⟩,fun _=>[]⟩
theorem zcx:qdi Tryz.prog 109 qa5:=by
 refine ⟨enters (fn:=Tryz.f109) (by kernel_rfl) rfl rfl,fun w F xs vs hb hr _=>?_⟩
 obtain ⟨v,vs',rfl,hv,hn⟩:=hr
 cases hn
 obtain ⟨n,_⟩:=xs
 have hv':v = .int .i64 n:=by
  have h:qy Tryz.prog w F (fun _ _=>True) (qf1 i64 n) v:=qbb hv
  exact h.2.1
 subst hv'
 by_cases h0:n=0
 ·subst h0
  go_enter Tryz.func109,Tryz.ntmps109
  go_wp2
  go_end0
  refine .inl ⟨rfl,.tuple #[],F,rfl,Below.refl _ _,fun _ h=>h,fun b h=>⟨.inl h,hb b h⟩,#[],rfl,rfl⟩
 ·have hne:(n==0)=false:=by simpa using h0
  have hne2:(n != 0)=true:=by simpa using h0
  have hbad:qa5.bad (n,())=true:=by show (!(n==0))=true; rw [hne]; rfl
  go_enter Tryz.func109,Tryz.ntmps109
  go_wp2
  exact ⟨rfl,.inr ⟨hbad,rfl,Below.refl _ _⟩⟩
def m32 (a:Int):Int:=IntKind.u64.wrap ((BitVec.ofInt IntKind.u64.bits a &&& BitVec.ofInt IntKind.u64.bits 4294967295).toNat:Int)
def h32 (a:Int):Int:=a.fdiv (2 ^ min (Int.toNat 32) IntKind.u64.bits)
theorem qdh {n:Int} (h:0<=n/\n<=18446744073709551615):IntKind.u64.wrap n=n:=IntWalk.u64_in _ h
theorem zal {a:Int} (h:0<=a/\a<=18446744073709551615):m32 a=a % 4294967296:=by
 obtain ⟨n,rfl⟩:∃ n:Nat,a=n:=⟨a.toNat,by omega⟩
 unfold m32
 have e1:(BitVec.ofInt IntKind.u64.bits (n:Int) &&& BitVec.ofInt IntKind.u64.bits 4294967295).toNat=n % 4294967296:=by
  have h1:(BitVec.ofInt IntKind.u64.bits (n:Int)).toNat=n:=by
   rw [BitVec.toNat_ofInt]
   show ((n:Int) % ((2 ^ 64:Nat):Int)).toNat=n
   omega
  have h2:(BitVec.ofInt IntKind.u64.bits (4294967295:Int)).toNat=2 ^ 32 - 1:=by decide
  rw [BitVec.toNat_and,h1,h2,Nat.and_two_pow_sub_one_eq_mod]
 rw [e1,qdh (by omega)]
 omega
theorem zw6 {a:Int}:h32 a=a / 4294967296:=by
 unfold h32
 have:(2:Int) ^ min (Int.toNat 32) IntKind.u64.bits=4294967296:=by decide
 rw [this,Int.fdiv_eq_ediv_of_nonneg _ (by decide)]
def qym (x y:Int):Int:=IntKind.u64.wrap (IntKind.u64.wrap (h32 x * m32 y)+h32 (IntKind.u64.wrap (m32 x * m32 y)))
def ypj (x:qm [.d u64,.d u64]):Fr (qi [u64,u64]):=
 Fr.need (¬ (32:Int) < 0) (Fr.need (¬ (32:Int) < 0) (Fr.need (¬ (32:Int) < 0) (Fr.need (¬ (32:Int) < 0) (Fr.need (¬ (32:Int) < 0)
  (Fr.val (IntKind.u64.wrap (IntKind.u64.wrap (IntKind.u64.wrap (h32 x.1 * h32 x.2.1)+h32 (qym x.1 x.2.1))+h32 (IntKind.u64.wrap (m32 (qym x.1 x.2.1)+IntKind.u64.wrap (m32 x.1 * h32 x.2.1)))),
   IntKind.u64.wrap (x.1 * x.2.1),()))))))
def qrq:Ct:=⟨[.d u64,.d u64],[u64,u64],fun x=>(x.1 * x.2.1 / 18446744073709551616,x.1 * x.2.1 % 18446744073709551616,()),fun _=>[]⟩
theorem qwo {a b n:Int} (ha:0<=a/\a<=n) (hb:0<=b/\b<=n):0<=a * b/\a * b<=n * n:=
 ⟨Int.mul_nonneg ha.1 hb.1,Int.mul_le_mul ha.2 hb.2 hb.1 (by omega)⟩
theorem zxp (a1 a0 b1 b0:Int):(a1 * 4294967296+a0) * (b1 * 4294967296+b0)=a1 * b1 * 18446744073709551616+(a1 * b0+a0 * b1) * 4294967296+a0 * b0:=by grind
theorem zxo {x y:Int} (hx:0<=x/\x<=18446744073709551615) (hy:0<=y/\y<=18446744073709551615) :
  IntKind.u64.wrap (IntKind.u64.wrap (IntKind.u64.wrap (h32 x * h32 y)+h32 (qym x y))+h32 (IntKind.u64.wrap (m32 (qym x y)+IntKind.u64.wrap (m32 x * h32 y))))=x * y / 18446744073709551616:=by
 have ex:x=x / 4294967296 * 4294967296+x % 4294967296:=by omega
 have ey:y=y / 4294967296 * 4294967296+y % 4294967296:=by omega
 have hs:=zxp (x / 4294967296) (x % 4294967296) (y / 4294967296) (y % 4294967296)
 rw [← ex,← ey] at hs
 rw [hs]
 unfold qym
 rw [zal hx,zal hy]
 simp only [zw6]
 have b1:0<=x / 4294967296/\x / 4294967296<=4294967295:=by omega
 have b2:0<=x % 4294967296/\x % 4294967296<=4294967295:=by omega
 have b3:0<=y / 4294967296/\y / 4294967296<=4294967295:=by omega
 have b4:0<=y % 4294967296/\y % 4294967296<=4294967295:=by omega
 have p11:=qwo b1 b3
 have p10:=qwo b1 b4
 have p01:=qwo b2 b3
 have p00:=qwo b2 b4
 clear hs ex ey b1 b2 b3 b4
 generalize x / 4294967296 * (y / 4294967296)=q11 at *
 generalize x / 4294967296 * (y % 4294967296)=q10 at *
 generalize x % 4294967296 * (y / 4294967296)=q01 at *
 generalize x % 4294967296 * (y % 4294967296)=q00 at *
 rw [qdh (n:=q11) (by omega),qdh (n:=q10) (by omega),qdh (n:=q01) (by omega),qdh (n:=q00) (by omega),qdh (n:=q10+q00 / 4294967296) (by omega),zal (a:=q10+q00 / 4294967296) (by omega),
  qdh (n:=(q10+q00 / 4294967296) % 4294967296+q01) (by omega)]
 rw [qdh (n:=q11+(q10+q00 / 4294967296) / 4294967296) (by omega),qdh (by omega)]
 omega
theorem qvr {w:World} {F:Nat->Prop} {n:Int} {v:Value} (h:zt w F u64 n v):0<=n/\n<=18446744073709551615:=h.2.2.2
theorem qq6 {w:World} {F:Nat->Prop} {n:Int} {v:Value} (h:zt w F i64 n v) : -9223372036854775808<=n/\n<=9223372036854775807:=h.2.2.2
theorem zxn:qa Tryz.prog 189 qrq:=
 flat (ps:=[.d u64,.d u64]) (rs:=[u64,u64]) (zb (cs:=[]) (ps:=[]) qv trivial trivial) (fn:=Tryz.f189) (fr:=ypj) (0,0,()) (by kernel_rfl) (fun x=>by kernel_rfl) _ _
  (fun w F x vs hr _=>by
   obtain ⟨a,b,u⟩:=x
   obtain ⟨v1,vs1,rfl,h1,v2,vs2,rfl,h2,_⟩:=hr
   have g1:=qvr h1
   have g2:=qvr h2
   refine ⟨⟨by decide,by decide,by decide,by decide,by decide,trivial⟩,?_⟩
   show (IntKind.u64.wrap (IntKind.u64.wrap (IntKind.u64.wrap (h32 a * h32 b)+h32 (qym a b))+h32 (IntKind.u64.wrap (m32 (qym a b)+IntKind.u64.wrap (m32 a * h32 b)))),IntKind.u64.wrap (a * b),())=(a * b / 18446744073709551616,a * b % 18446744073709551616,())
   have hw:IntKind.u64.wrap (a * b)=a * b % 18446744073709551616:=by
    rw [IntKind.wrap_u64]
   rw [zxo g1 g2,hw])
def zsf (x:qm [.d u64,.d u64,.d u64]):Fr (qi [u64,u64]):=
 Fr.br (x.2.2.1==0) (Fr.need False (Fr.val (0,0,())))
  (Fr.br (decide (x.2.2.1<=x.1)) (Fr.need False (Fr.val (0,0,())))
   (Fr.br (x.1==0) (Fr.need (x.2.2.1 ≠ 0) (Fr.need (x.2.2.1 ≠ 0) (Fr.val (IntKind.u64.wrap (x.2.1.tdiv x.2.2.1),x.2.1.tmod x.2.2.1,()))))
    (Fr.need False (Fr.val (0,0,())))))
def zqz:Ct:=⟨[.d u64,.d u64,.d u64],[u64,u64],fun x=>(x.2.1 / x.2.2.1,x.2.1 % x.2.2.1,()),fun x=>[x.1=0,0 < x.2.2.1]⟩
theorem zwb {lo y:Int} (g2:0<=lo/\lo<=18446744073709551615) (hy:0 < y):(zsf (0,lo,y,())).ok/\(zsf (0,lo,y,())).get=(lo / y,lo % y,()):=by
 have e1:(y==0)=false:=by simp; omega
 have e2:decide (y<=(0:Int))=false:=by simp; omega
 have e3:y ≠ 0:=by omega
 refine ⟨⟨fun hc=>?_,fun _=>⟨fun hc=>?_,fun _=>⟨fun _=>⟨e3,e3,trivial⟩,fun hc=>by cases hc⟩⟩⟩,?_⟩
 ·have hc':(y==0)=true:=hc
  rw [e1] at hc'
  cases hc'
 ·have hc':decide (y<=(0:Int))=true:=hc
  rw [e2] at hc'
  cases hc'
 ·show (if (y==0)=true then ((0:Int),(0:Int),()) else if decide (y<=(0:Int))=true then ((0:Int),(0:Int),()) else (IntKind.u64.wrap (lo.tdiv y),lo.tmod y,()))=(lo / y,lo % y,())
  rw [e1,e2]
  simp only [Bool.false_eq_true,if_false]
  rw [IntWalk.u64_quo lo y ⟨g2.1,g2.2,by omega⟩,IntWalk.rem_in lo y g2.1]
theorem yme:qa Tryz.prog 190 zqz:=
 flat (ps:=[.d u64,.d u64,.d u64]) (rs:=[u64,u64]) (zb (cs:=[]) (ps:=[]) qv trivial trivial) (fn:=Tryz.f190) (fr:=zsf) (0,0,0,()) (by kernel_rfl) (fun x=>by kernel_rfl) _ _
  (fun w F x vs hr hok=>by
   obtain ⟨hi,lo,y,u⟩:=x
   obtain ⟨v1,vs1,rfl,h1,v2,vs2,rfl,h2,v3,vs3,rfl,h3,_⟩:=hr
   obtain ⟨he,hy⟩:=hok
   have he':hi=0:=he
   subst he'
   exact zwb (qvr h2) hy)
noncomputable def XiN:FuncId->Option (Func × (Nat->St->Option Tr)):=qai [(188,(Tryz.f188,qp))]
noncomputable def XiO:FuncId->Option (Func × (Nat->St->Option Tr)):=qai [(153,(Tryz.f153,qp)),(152,(Tryz.f152,qp))]
abbrev zgc:List (FuncId × Ct):=[(189,qrq),(190,zqz)]
theorem qxq:qmc Tryz.prog zgc:=⟨zxn,yme,trivial⟩
noncomputable def CN1:Cx:=cx zgc []
noncomputable def CN2:Cx:=cxK zgc [] (qp6 Tryz.prog CN1 XiN)
noncomputable def CN3:Cx:=cxK zgc [] (qp6 Tryz.prog CN2 XiO)
theorem ykw:CxOK Tryz.prog CN1:=zb qv qxq trivial
theorem zu9:∀ f fn Λ,XiN f=some (fn,Λ)->Tryz.prog.funcs[f]? = some fn/\∀ c E',fn.body=some c->jt Tryz.prog E' Λ c 0:=fun f fn Λ h=>by
 simp only [XiN,qai] at h
 split at h
 ·rename_i hf
  subst hf
  cases h
  exact ⟨by kernel_rfl,fun c E' _=>qd c 0⟩
 ·cases h
theorem ykx:CxOK Tryz.prog CN2:=qcz qv qxq trivial (qil ykw zu9)
theorem zva:∀ f fn Λ,XiO f=some (fn,Λ)->Tryz.prog.funcs[f]? = some fn/\∀ c E',fn.body=some c->jt Tryz.prog E' Λ c 0:=fun f fn Λ h=>by
 simp only [XiO,qai] at h
 split at h
 ·rename_i hf
  subst hf
  cases h
  exact ⟨by kernel_rfl,fun c E' _=>qd c 0⟩
 ·split at h
  ·rename_i hf
   subst hf
   cases h
   exact ⟨by kernel_rfl,fun c E' _=>qd c 0⟩
  ·cases h
theorem yky:CxOK Tryz.prog CN3:=qcz qv qxq trivial (qil ykx zva)
def qv9 (q:Int):Fr (qi [i64,i64]):=Fr.br (decide (q > 4000000000000000000)) (Fr.val (0,5,())) (Fr.val (IntKind.i64.wrap q,0,()))
def evT (q r c:Int):Fr (qi [i64,i64]):=
 Fr.br (decide (q > 4000000000000000000)) (Fr.val (0,5,()))
  (Fr.need ((r==IntKind.u64.wrap (c - r))=true->decide (r > IntKind.u64.wrap (c - r))=false->(2:Int) ≠ 0)
   (Fr.br (bif decide (r > IntKind.u64.wrap (c - r)) then true else bif r==IntKind.u64.wrap (c - r) then q.tmod 2==1 else false) (qv9 (IntKind.u64.wrap (q+1))) (qv9 q)))
def evD (h l c:Int):Fr (qi [i64,i64]):=
 Fr.br (decide (h ≥ c)) (Fr.val (0,5,())) (Fr.need (h=0) (Fr.need (0 < c) (evT (zqz.f (h,l,c,())).1 (zqz.f (h,l,c,())).2.1 c)))
def qzy (x:qm [.d i64,.d i64,.d i64]):Fr (qi [i64,i64]):=
 Fr.br (bif bif decide (x.1 < 0) then true else decide (x.2.1 < 0) then true else decide (x.2.2.1 < 0)) (Fr.val (0,1,()))
  (Fr.br (x.2.2.1==0) (Fr.val (0,6,()))
   (evD (qrq.f (IntKind.u64.wrap x.1,IntKind.u64.wrap x.2.1,())).1 (qrq.f (IntKind.u64.wrap x.1,IntKind.u64.wrap x.2.1,())).2.1 (IntKind.u64.wrap x.2.2.1)))
def qd1 (p c:Int):Int:=if p % c > c - p % c ∨ (p % c=c - p % c/\p / c % 2=1) then p / c+1 else p / c
def jx (a b c:Int):Int × Int:=if a < 0 ∨ b < 0 ∨ c < 0 then (0,1) else if c=0 then (0,6) else if qd1 (a * b) c > 4000000000000000000 then (0,5) else (qd1 (a * b) c,0)
theorem ylp (a b c:Bool):(bif bif a then true else b then true else c)=(a || (b || c)):=by cases a<;>cases b<;>rfl
theorem zi4 {q:Int} (h:0<=q):(qv9 q).ok/\(qv9 q).get=if q > 4000000000000000000 then (0,5,()) else (q,0,()):=by
 refine ⟨⟨fun _=>trivial,fun _=>trivial⟩,?_⟩
 show (if decide (q > 4000000000000000000)=true then ((0:Int),(5:Int),()) else (IntKind.i64.wrap q,(0:Int),()))=_
 by_cases hq:q > 4000000000000000000
 ·rw [if_pos (by simpa using hq),if_pos hq]
 ·have hw:IntKind.i64.wrap q=q:=qdf (by omega)
  rw [if_neg (by simpa using hq),if_neg hq,hw]
theorem zwj {q r c:Int} (hr:0<=r/\r < c) (hc:c<=9223372036854775807) (hq:0<=q) :
  (evT q r c).ok/\(evT q r c).get=if (if r > c - r ∨ (r=c - r/\q % 2=1) then q+1 else q) > 4000000000000000000 then (0,5,()) else ((if r > c - r ∨ (r=c - r/\q % 2=1) then q+1 else q),0,()):=by
 have hw:IntKind.u64.wrap (c - r)=c - r:=qdh (by omega)
 have hm:q.tmod 2=q % 2:=Int.tmod_eq_emod_of_nonneg hq
 unfold evT
 rw [hw,hm]
 by_cases h1:q > 4000000000000000000
 ·have hd:decide (q > 4000000000000000000)=true:=by simpa using h1
  refine ⟨⟨fun _=>trivial,fun hb=>by rw [hd] at hb; cases hb⟩,?_⟩
  show (if decide (q > 4000000000000000000)=true then ((0:Int),(5:Int),()) else _)=_
  rw [hd,if_pos rfl,if_pos]
  split<;>omega
 ·have hd:decide (q > 4000000000000000000)=false:=by simpa using h1
  have hcond:(bif decide (r > c - r) then true else bif r==c - r then q % 2==1 else false)=decide (r > c - r ∨ (r=c - r/\q % 2=1)):=by
   rw [ylr,qd8]
   generalize c - r=d
   rw [Bool.eq_iff_iff]
   simp
  rw [hcond]
  have hw2:IntKind.u64.wrap (q+1)=q+1:=qdh (by omega)
  rw [hw2]
  have f1:=zi4 (q:=q+1) (by omega)
  have f2:=zi4 (q:=q) hq
  refine ⟨⟨fun _=>trivial,fun _=>⟨fun _ _=>by decide,fun _=>f1.1,fun _=>f2.1⟩⟩,?_⟩
  show (if decide (q > 4000000000000000000)=true then ((0:Int),(5:Int),()) else if decide (r > c - r ∨ (r=c - r/\q % 2=1))=true then (qv9 (q+1)).get else (qv9 q).get)=_
  rw [hd,if_neg (by decide),f1.2,f2.2]
  by_cases h2:r > c - r ∨ (r=c - r/\q % 2=1)
  ·simp only [h2,decide_true,if_true]
  ·simp only [h2,decide_false,if_false,Bool.false_eq_true]
theorem zry {a b c:Int} (ha : -9223372036854775808<=a/\a<=9223372036854775807) (hb : -9223372036854775808<=b/\b<=9223372036854775807) (hc : -9223372036854775808<=c/\c<=9223372036854775807)
  (hp:0<=a->0<=b->a * b < 18446744073709551616):(qzy (a,b,c,())).ok/\(qzy (a,b,c,())).get=((jx a b c).1,(jx a b c).2,()):=by
 unfold qzy
 simp only [ylp]
 by_cases hn:a < 0 ∨ b < 0 ∨ c < 0
 ·have hd:(decide (a < 0) || (decide (b < 0) || decide (c < 0)))=true:=by simpa using hn
  rw [hd]
  refine ⟨⟨fun _=>trivial,fun hx=>by cases hx⟩,?_⟩
  unfold jx
  rw [if_pos hn]
  rfl
 ·have hd:(decide (a < 0) || (decide (b < 0) || decide (c < 0)))=false:=by simpa using hn
  rw [hd]
  have ha0:0<=a:=by omega
  have hb0:0<=b:=by omega
  have hc0:0<=c:=by omega
  have hab:=hp ha0 hb0
  have hab0:0<=a * b:=Int.mul_nonneg ha0 hb0
  rw [show IntKind.u64.wrap a=a from qdh (by omega),show IntKind.u64.wrap b=b from qdh (by omega),show IntKind.u64.wrap c=c from qdh (by omega)]
  have e1:(qrq.f (a,b,())).1=0:=by
   show a * b / 18446744073709551616=0
   omega
  have e2:(qrq.f (a,b,())).2.1=a * b:=by
   show a * b % 18446744073709551616=a * b
   omega
  rw [e1,e2]
  unfold jx
  rw [if_neg hn]
  by_cases hz:c=0
  ·subst hz
   refine ⟨⟨fun hx=>(by cases hx),fun _=>⟨fun _=>trivial,fun hx=>by cases hx⟩⟩,rfl⟩
  ·have hz':(c==0)=false:=by simpa using hz
   rw [if_neg hz,hz']
   have hcp:0 < c:=by omega
   have hge:decide ((0:Int) ≥ c)=false:=by simpa using hcp
   have key:=zwj (q:=a * b / c) (r:=a * b % c) (c:=c) ⟨Int.emod_nonneg _ (by omega),Int.emod_lt_of_pos _ hcp⟩ hc.2 (Int.ediv_nonneg hab0 hc0)
   unfold evD
   rw [hge]
   refine ⟨⟨fun hx=>(by cases hx),fun _=>⟨fun hx=>(by cases hx),fun _=>⟨fun hx=>(by cases hx),fun _=>⟨rfl,hcp,key.1⟩⟩⟩⟩,?_⟩
   show (evT (a * b / c) (a * b % c) c).get=_
   rw [key.2]
   show _=((if qd1 (a * b) c > 4000000000000000000 then ((0:Int),(5:Int)) else (qd1 (a * b) c,0)).1,(if qd1 (a * b) c > 4000000000000000000 then ((0:Int),(5:Int)) else (qd1 (a * b) c,0)).2,())
   unfold qd1
   generalize (if a * b % c > c - a * b % c ∨ a * b % c=c - a * b % c/\a * b / c % 2=1 then a * b / c+1 else a * b / c)=z
   split<;>rfl
def qmf:Ct:=⟨[.d i64,.d i64,.d i64],[i64,i64],fun x=>((jx x.1 x.2.1 x.2.2.1).1,(jx x.1 x.2.1 x.2.2.1).2,()),fun x=>[0<=x.1->0<=x.2.1->x.1 * x.2.1 < 18446744073709551616]⟩
theorem yho:qa Tryz.prog 111 qmf:=
 flat (ps:=[.d i64,.d i64,.d i64]) (rs:=[i64,i64]) yky (fn:=Tryz.f111) (fr:=qzy) (0,0,0,()) (by kernel_rfl) (fun x=>by kernel_rfl) _ _
  (fun w F x vs hr hok=>by
   obtain ⟨a,b,c,u⟩:=x
   obtain ⟨v1,vs1,rfl,h1,v2,vs2,rfl,h2,v3,vs3,rfl,h3,_⟩:=hr
   exact zry (qq6 h1) (qq6 h2) (qq6 h3) hok)
def qa4 (p:List Int × List Int) (day v:Int):List Int × List Int:=
 let q:=if p.1.getLast? = some day then (p.1.dropLast,p.2.dropLast) else p
 if v ≠ q.2.getLast?.getD 0/\day<=292194 then (q.1++[day],q.2++[v]) else q
section
variable {α:Type}
def zf8 (at_ val:List Int) (day v:Int) (K:List Int->List Int->Fr α):Fr α:=
 Fr.br (decide ((val.length:Int) > 0))
  (Fr.need (0<=IntKind.i64.wrap (val.length - 1)/\IntKind.i64.wrap (val.length - 1) < val.length)
   (Fr.need ((IntKind.i64.wrap (val.length - 1)).toNat < val.length)
    (Fr.br (bif v != val.getD (IntKind.i64.wrap (val.length - 1)).toNat i64.dflt then decide (day<=292194) else false)
     (Fr.need (at_.length + [day].length<=maxLen/\(at_.length + [day].length) * 8<=140737488355328)
      (Fr.need (val.length + [v].length<=maxLen/\(val.length + [v].length) * 8<=140737488355328)
       (K (at_++[day]) (val++[v]))))
     (K at_ val))))
  (Fr.br (bif v != 0 then decide (day<=292194) else false)
   (Fr.need (at_.length + [day].length<=maxLen/\(at_.length + [day].length) * 8<=140737488355328)
    (Fr.need (val.length + [v].length<=maxLen/\(val.length + [v].length) * 8<=140737488355328)
     (K (at_++[day]) (val++[v]))))
   (K at_ val))
def ylj (at_ val:List Int) (day v:Int) (K:List Int->List Int->Fr α):Fr α:=
 Fr.need (decide ((at_.length:Int) > 0)=true->0<=IntKind.i64.wrap (at_.length - 1)/\IntKind.i64.wrap (at_.length - 1) < at_.length)
  (Fr.need (decide ((at_.length:Int) > 0)=true->(IntKind.i64.wrap (at_.length - 1)).toNat < at_.length)
   (Fr.br (bif decide ((at_.length:Int) > 0) then at_.getD (IntKind.i64.wrap (at_.length - 1)).toNat i64.dflt==day else false)
    (Fr.need (0<=IntKind.i64.wrap (at_.length - 1)/\IntKind.i64.wrap (at_.length - 1)<=at_.length)
     (Fr.need (0<=IntKind.i64.wrap (at_.length - 1)/\IntKind.i64.wrap (at_.length - 1)<=val.length)
      (zf8 (at_.take (IntKind.i64.wrap (at_.length - 1)).toNat) (val.take (IntKind.i64.wrap (at_.length - 1)).toNat) day v K)))
    (zf8 at_ val day v K)))
theorem qo7 {l:List Int} (h:0 < l.length) (hb:l.length < 1000000):l.getD (IntKind.i64.wrap ((l.length:Int) - 1)).toNat i64.dflt=l.getLast?.getD 0:=by
 rw [qdf (by omega),List.getLast?_eq_getElem?,List.getD_eq_getElem?_getD]
 have:((l.length:Int) - 1).toNat=l.length - 1:=by omega
 rw [this]
 rfl
theorem zve {at_ val:List Int} {day v:Int} {K:List Int->List Int->Fr α} {Q:α->Prop} (h1:at_.length < 1000000) (h2:val.length < 1000000)
  (h:(if v ≠ val.getLast?.getD 0/\day<=292194 then K (at_++[day]) (val++[v]) else K at_ val).satP Q):(zf8 at_ val day v K).satP Q:=by
 have hroom:∀ (l:List Int) (x:Int),l.length < 1000000->l.length + [x].length<=maxLen/\(l.length + [x].length) * 8<=140737488355328:=fun l x hl=>by
  simp only [maxLen,List.length_singleton]
  omega
 by_cases hv:0 < val.length
 ·refine ⟨fun _=>⟨?_,?_,?_,?_⟩,fun hn=>?_⟩
  ·rw [qdf (by omega)]
   omega
  ·rw [qdf (by omega)]
   omega
  ·intro hb
   rw [qo7 hv h2,qd8] at hb
   have hb':v ≠ val.getLast?.getD 0/\day<=292194:=by simpa using hb
   rw [if_pos hb'] at h
   exact ⟨hroom _ _ h1,hroom _ _ h2,h⟩
  ·intro hb
   rw [qo7 hv h2,qd8] at hb
   have hb':¬ (v ≠ val.getLast?.getD 0/\day<=292194):=by
    intro hc
    simp [hc.1,hc.2] at hb
   rw [if_neg hb'] at h
   exact h
  ·exact absurd (of_decide_eq_false hn) (by omega)
 ·have hnil:val=[]:=by
   cases val with
   |nil=>rfl
   |cons _ _=>simp at hv
  subst hnil
  refine ⟨fun hn=>by simp at hn,fun _=>⟨fun hb=>?_,fun hb=>?_⟩⟩
  ·rw [qd8] at hb
   have hb':v ≠ ([]:List Int).getLast?.getD 0/\day<=292194:=by simpa using hb
   rw [if_pos hb'] at h
   exact ⟨hroom _ _ h1,hroom _ _ h2,h⟩
  ·rw [qd8] at hb
   have hb':¬ (v ≠ ([]:List Int).getLast?.getD 0/\day<=292194):=by
    intro hc
    have h3:v ≠ 0:=hc.1
    simp [h3,hc.2] at hb
   rw [if_neg hb'] at h
   exact h
theorem yaa {at_ val:List Int} {day v:Int} {K:List Int->List Int->Fr α} {Q:α->Prop} (h1:at_.length < 1000000) (h2:at_.length=val.length)
  (h:(K (qa4 (at_,val) day v).1 (qa4 (at_,val) day v).2).satP Q):(ylj at_ val day v K).satP Q:=by
 have key:∀ a b:List Int,a.length < 1000000->b.length < 1000000->qa4 (at_,val) day v=(if v ≠ b.getLast?.getD 0/\day<=292194 then (a++[day],b++[v]) else (a,b))->(zf8 a b day v K).satP Q:=fun a b ha hb he=>by
  refine zve ha hb ?_
  rw [he] at h
  by_cases hc:v ≠ b.getLast?.getD 0/\day<=292194
  ·rw [if_pos hc] at h ⊢
   exact h
  ·rw [if_neg hc] at h ⊢
   exact h
 refine ⟨fun hp=>?_,fun hp=>?_,fun hb=>⟨?_,?_,?_⟩,fun hb=>?_⟩
 ·have:(at_.length:Int) > 0:=by simpa using hp
  rw [qdf (by omega)]
  omega
 ·have:(at_.length:Int) > 0:=by simpa using hp
  rw [qdf (by omega)]
  omega
 ·have:(at_.length:Int) > 0:=by
   rw [qd8] at hb
   simp at hb
   simpa using hb.1
  rw [qdf (by omega)]
  omega
 ·have:(at_.length:Int) > 0:=by
   rw [qd8] at hb
   simp at hb
   simpa using hb.1
  rw [qdf (by omega)]
  omega
 ·rw [qd8] at hb
  obtain ⟨hp,hb⟩:=Bool.and_eq_true_iff.1 hb
  have hp':0 < at_.length:=by simpa using hp
  rw [qo7 hp' h1] at hb
  have hl:at_.getLast? = some day:=by
   have:at_.getLast?.getD 0=day:=by simpa using hb
   rw [List.getLast?_eq_getElem?] at this ⊢
   rw [List.getElem?_eq_getElem (by omega)] at this ⊢
   simpa using this
  have e1:(IntKind.i64.wrap ((at_.length:Int) - 1)).toNat=at_.length - 1:=by
   rw [qdf (by omega)]
   omega
  rw [e1]
  refine key _ _ (by simp; omega) (by simp; omega) ?_
  unfold qa4
  simp only [hl,if_true,List.dropLast_eq_take,← h2]
 ·rw [qd8] at hb
  refine key _ _ h1 (by omega) ?_
  have hl:at_.getLast? ≠ some day:=by
   intro hl
   have hp':0 < at_.length:=by
    cases at_ with
    |nil=>simp at hl
    |cons _ _=>simp
   have hp:decide ((at_.length:Int) > 0)=true:=by simpa using hp'
   rw [hp,qo7 hp' h1,hl] at hb
   simp at hb
  unfold qa4
  simp only [hl,if_false]
end
theorem zdn {p:List Int × List Int} (day v:Int) (h:p.1.length=p.2.length):(qa4 p day v).1.length=(qa4 p day v).2.length/\(qa4 p day v).1.length<=p.1.length+1:=by
 unfold qa4
 by_cases hc:p.1.getLast? = some day
 ·simp only [hc,if_true]
  split<;>simp<;>omega
 ·simp only [hc,if_false]
  split<;>simp<;>omega
abbrev yf2:List (Tmp × PT):=[(10015,.d i64),(10014,.d i64),(10013,.d qac),(10005,.d i64)]
abbrev yf1:List MI:=[.y 3 190 [(some 3,i64),(some 3,i64)],.r 10003 3 0,.g 10004 149 [3],.x 7 122 qk,.r 10007 7 0,.x 2 190 zg,.r 10002 2 0]
abbrev ptA:Pt:=⟨65,0,⟨yf2,yf1⟩,⟨[],[]⟩,⟨[],[]⟩⟩
abbrev LA:LS:=⟨(0,.d i64) :: (1,.d i64) :: yf2,.r 2 3 0 :: yf1⟩
noncomputable def zqw:Code:=Tryz.f149.body.getD .skip
def frA (x:LA.X):Fr ptA.Out:=
 ylj x.2.1.1 x.2.1.2.1 x.1.1 x.1.2.1 fun a b=>Fr.val (Rd.next (x.1.2.2,(a,b,()),x.2.2))
theorem zv5:CxOK Tryz.prog (cx [] []):=zb qv trivial trivial
theorem yrq:qe Tryz.prog zqw LA ptA frA:=
 qe.of_run zv5 (bs:=80000) (Λ:=qp) rfl rfl rfl (fun E=>qd _ 0) (fun x=>by kernel_rfl)
def FA (x:LA.X):Fr ptA.Out:=
 Fr.need (x.2.1.1.length < 1000000/\x.2.1.1.length=x.2.1.2.1.length)
  (Fr.val (Rd.next (x.1.2.2,((qa4 (x.2.1.1,x.2.1.2.1) x.1.1 x.1.2.1).1,(qa4 (x.2.1.1,x.2.1.2.1) x.1.1 x.1.2.1).2,()),x.2.2)))
theorem yph:qe Tryz.prog zqw LA ptA FA:=
 yrq.conv fun x Q h=>yaa h.1.1 h.1.2 h.2
noncomputable def kA:Nat->FuncId->List AV->St->Option Tr:=yb7 Tryz.prog (cx [] []).Γ 149 Tryz.f149 LA ptA FA
theorem ypn:qhs Tryz.prog kA:=yia zv5 (c:=zqw) (by kernel_rfl) (by kernel_rfl) rfl rfl yph
end Go.Proofs.YtgieagiaagoogaaGreat
namespace Go.Proofs.YtgieagiaagoogaaGreat
open Go Go.Ab Go.RowKit Go.Proofs
noncomputable def CC:Cx:=cxK [(150,qj3)] [(109,qa5)] kA
theorem zqe:CxOK Tryz.prog CC:=qcz qv ⟨zw3,trivial⟩ ⟨zcx,trivial⟩ ypn
abbrev ptC:Pt:=⟨41,0,⟨[(15,.d i64),(14,.d i64),(13,.d qac),(5,.d i64)],[.y 3 190 [(some 3,i64),(some 3,i64)],.r 3 3 0,.g 4 149 [3],.x 2 190 zg,.r 2 2 0]⟩,⟨[],[.y 3 190 [(some 3,i64),(some 3,i64)],.r 3 3 0,.x 2 190 zg,.r 2 2 0]⟩,⟨[],[]⟩⟩
def addS (p:List Int × List Int) (s:qk.den):List Int × List Int:=qa4 (qa4 p s.1.1 s.2.2.2.2.1) s.1.2.1 0
def ybu (x:ptC.M.X) (s:qk.den):Fr ptC.Out:=
 Fr.need (x.2.1.1.length < 1000000/\x.2.1.1.length=x.2.1.2.1.length)
  (Fr.need ((qa4 (x.2.1.1,x.2.1.2.1) s.1.1 s.2.2.2.2.1).1.length < 1000000/\(qa4 (x.2.1.1,x.2.1.2.1) s.1.1 s.2.2.2.2.1).1.length=(qa4 (x.2.1.1,x.2.1.2.1) s.1.1 s.2.2.2.2.1).2.length)
   (Fr.val (Rd.next ((IntKind.i64.wrap (x.1.1+1),x.1.2.1,x.1.2.2.1,s.1.2.1,()),((addS (x.2.1.1,x.2.1.2.1) s).1,(addS (x.2.1.1,x.2.1.2.1) s).2,()),x.2.2.1,()))))
def frC (x:ptC.M.X):Fr ptC.Out:=
 Fr.br (decide (x.1.1 < x.1.2.1))
  (Fr.need (0<=x.1.1/\x.1.1 < x.1.2.2.1.length)
   (Fr.br (!(qj3.f (x.1.2.2.1.getD x.1.1.toNat qk.dflt,x.1.2.2.2.1,())).1)
    (Fr.br (qa5.bad (1,())) (Fr.val (Rd.pan (qa5.pv (1,()))))
     (ybu x (x.1.2.2.1.getD x.1.1.toNat qk.dflt)))
    (ybu x (x.1.2.2.1.getD x.1.1.toNat qk.dflt))))
  (Fr.val (Rd.out ((),(x.2.1.1,x.2.1.2.1,()),x.2.2.1,())))
theorem yrs:qe Tryz.prog (qo Tryz.f108 0) ptC.M ptC frC:=
 qe.of_run zqe (bs:=0) (Λ:=qp) rfl rfl rfl (fun E=>qd _ 0) (fun x=>by kernel_rfl)
def xb:List qk.den->Int->List Int × List Int->Option (List Int × List Int)
 |[],_,p=>some p
 |s :: l,e,p=>if qjb s e=true then xb l s.1.2.1 (addS p s) else none
def yc2 (r:zg.den) (o:Option (List Int × List Int)):Fr ptC.Out:=
 Fr.br o.isSome (Fr.val (Rd.out ((),((o.getD ([],[])).1,(o.getD ([],[])).2,()),r,()))) (Fr.val (Rd.pan ⟨57,.i64,1⟩))
structure InvC (i n:Int) (l:List qk.den) (p:List Int × List Int):Prop where
 len:n=l.length
 lo:0<=i
 hi:i<=n
 most:l.length<=2000
 both:p.1.length=p.2.length
 few:p.1.length<=2 * i
def FC (x:ptC.M.X):Fr ptC.Out:=
 Fr.need (InvC x.1.1 x.1.2.1 x.1.2.2.1 (x.2.1.1,x.2.1.2.1)) (yc2 x.2.2.1 (xb (x.1.2.2.1.drop x.1.1.toNat) x.1.2.2.2.1 (x.2.1.1,x.2.1.2.1)))
theorem yrk (i n:Int) (l:List qk.den) (e:Int) (at_ val:List Int) (r:zg.den) (hinv:InvC i n l (at_,val)) (Q:ptC.Out->Prop) (hq:(yc2 r (xb (l.drop i.toNat) e (at_,val))).satP Q) :
  (frC ((i,n,l,e,()),(at_,val,()),r,())).satP fun
   |.next x'=>InvC x'.1.1 x'.1.2.1 x'.1.2.2.1 (x'.2.1.1,x'.2.1.2.1)/\(x'.1.2.1 - x'.1.1).toNat < (n - i).toNat/\(FC x').satP Q
   |.out y=>Q (.out y)
   |.back z=>Q (.back z)
   |.pan p=>Q (.pan p):=by
 obtain ⟨rfl,h4,h5,h6,h7,h8⟩:=hinv
 refine ⟨fun hi=>?_,fun hi=>?_⟩
 ·have hi':i < l.length:=by simpa using hi
  have hl:i.toNat < l.length:=by omega
  have e1:l.drop i.toNat=l[i.toNat] :: l.drop (i.toNat+1):=List.drop_eq_getElem_cons hl
  have g1:l.getD i.toNat qk.dflt=l[i.toNat]:=by rw [List.getD_eq_getElem?_getD,List.getElem?_eq_getElem hl]; rfl
  rw [e1] at hq
  generalize hs:l[i.toNat]=s at *
  refine ⟨⟨h4,hi'⟩,fun hb=>?_,fun hb=>?_⟩
  ·have hb':qjb s e=false:=by
    have:(!(qj3.f (l.getD i.toNat qk.dflt,e,())).1)=true:=hb
    rw [g1] at this
    simpa [qj3] using this
   have hq':Q (Rd.pan ⟨57,.i64,1⟩):=by
    unfold xb at hq
    rw [hb'] at hq
    exact hq.2 rfl
   exact ⟨fun _=>hq',fun hc=>by cases hc⟩
  ·have hb':qjb s e=true:=by
    have:(!(qj3.f (l.getD i.toNat qk.dflt,e,())).1)=false:=hb
    rw [g1] at this
    simpa [qj3] using this
   unfold xb at hq
   rw [hb',if_pos rfl] at hq
   have a1:=zdn (p:=(at_,val)) s.1.1 s.2.2.2.2.1 h7
   have a2:=zdn (p:=qa4 (at_,val) s.1.1 s.2.2.2.2.1) s.1.2.1 0 a1.1
   show (ybu ((i,(l.length:Int),l,e,()),(at_,val,()),r,()) (l.getD i.toNat qk.dflt)).satP _
   rw [g1]
   have hw:IntKind.i64.wrap (i+1)=i+1:=qdf (by omega)
   have hn:(i+1).toNat=i.toNat+1:=by omega
   have h7':at_.length=val.length:=h7
   have h8':(at_.length:Int)<=2 * i:=h8
   have a1':(qa4 (at_,val) s.1.1 s.2.2.2.2.1).1.length<=at_.length+1:=a1.2
   have hI:InvC (i+1) l.length l (addS (at_,val) s):=⟨rfl,by omega,by omega,h6,a2.1,by
    have:(addS (at_,val) s).1.length<=(qa4 (at_,val) s.1.1 s.2.2.2.2.1).1.length+1:=a2.2
    omega⟩
   refine ⟨⟨by show at_.length < 1000000; omega,h7⟩,⟨by show (qa4 (at_,val) s.1.1 s.2.2.2.2.1).1.length < 1000000; omega,a1.1⟩,?_⟩
   show InvC (IntKind.i64.wrap (i+1)) l.length l (addS (at_,val) s)/\((l.length:Int) - IntKind.i64.wrap (i+1)).toNat < ((l.length:Int) - i).toNat/\(FC ((IntKind.i64.wrap (i+1),(l.length:Int),l,s.1.2.1,()),((addS (at_,val) s).1,(addS (at_,val) s).2,()),r,())).satP Q
   rw [hw]
   refine ⟨hI,by omega,hI,?_⟩
   show (yc2 r (xb (l.drop (i+1).toNat) s.1.2.1 (addS (at_,val) s))).satP Q
   rw [hn]
   exact hq
 ·have hi':¬ i < l.length:=by simpa using hi
  have hl:l.drop i.toNat=[]:=List.drop_eq_nil_of_le (by omega)
  rw [hl] at hq
  exact hq.1 rfl
theorem yp0:qe Tryz.prog (.loop (qo Tryz.f108 0)) ptC.M ptC FC:=by
 refine qe.loop (n:=41) (id:=0) yrs (inv:=fun x=>InvC x.1.1 x.1.2.1 x.1.2.2.1 (x.2.1.1,x.2.1.2.1)) (μ:=fun x=>(x.1.2.1 - x.1.1).toNat) ?_ (fun x Q h=>h.1)
 rintro ⟨⟨i,n,l,e,_⟩,⟨at_,val,_⟩,r,_⟩ hinv Q hq
 exact yrk i n l e at_ val r hinv Q hq.2
noncomputable def ΛC:Nat->St->Option Tr:=fun _=>ptC.han CC.Γ ptC.M FC
def qa6 (l:List qk.den):Option (List Int × List Int):=if l.length<=2000 then xb l 1 ([],[]) else none
def yfw (x:qm [.d qac]):Fr (Oc (qi [zg])):=
 Fr.need (InvC 0 x.1.length x.1 ([],[]))
  (Fr.br (xb (x.1.drop (Int.toNat 0)) 1 ([],[])).isSome (Fr.val (Oc.ok ((((xb (x.1.drop (Int.toNat 0)) 1 ([],[])).getD ([],[])).1,((xb (x.1.drop (Int.toNat 0)) 1 ([],[])).getD ([],[])).2,()),())))
   (Fr.val (Oc.pan ⟨57,.i64,1⟩)))
def qnr (x:qm [.d qac]):Fr (Oc (qi [zg])):=
 Fr.br (decide ((x.1.length:Int) > 2000))
  (Fr.br (qa5.bad (1,())) (Fr.val (Oc.pan (qa5.pv (1,())))) (yfw x))
  (yfw x)
theorem ya4:qdi Tryz.prog 108 ⟨[.d qac],[zg],fun xs=>(qnr xs).get.val,fun xs=>(qnr xs).get.bad,fun xs=>(qnr xs).get.pv,fun xs=>[(qnr xs).ok]⟩:=
 zjt zqe (Λ:=ΛC) (fn:=Tryz.f108) ([],()) (by kernel_rfl) (fun c E hc=>yz hc (by kernel_rfl) (b:=qo Tryz.f108 0) (by kernel_rfl) (qe.han zqe rfl yp0)) (fun xs=>by kernel_rfl)
def ya (l:List qk.den):zg.den:=(((qa6 l).getD ([],[])).1,((qa6 l).getD ([],[])).2,())
def je:Pc:=⟨[.d qac],[zg],fun x=>(ya x.1,()),fun x=>(qa6 x.1).isNone,fun _=>⟨57,.i64,1⟩,fun _=>[]⟩
theorem zis:qdi Tryz.prog 108 je:=
 yfo ya4 _ _ _ _ fun w F xs vs hr _=>by
  obtain ⟨l,_⟩:=xs
  by_cases hl:l.length<=2000
  ·have hd:decide ((l.length:Int) > 2000)=false:=by simp; omega
   have hI:InvC 0 l.length l ([],[]):=⟨rfl,Int.le_refl _,by omega,hl,rfl,by simp⟩
   have hO:qa6 l=xb l 1 ([],[]):=if_pos hl
   have hget:(qnr (l,())).get=if (xb l 1 ([],[])).isSome=true then Oc.ok (ya l,()) else Oc.pan ⟨57,.i64,1⟩:=by
    show (if decide ((l.length:Int) > 2000)=true then _ else (if (xb l 1 ([],[])).isSome=true then Oc.ok _ else Oc.pan _))=_
    rw [hd]
    unfold ya
    rw [hO]
    rfl
   refine ⟨⟨fun hb=>?_,fun _=>⟨hI,fun _=>trivial,fun _=>trivial⟩⟩,?_,?_,?_⟩
   ·have hb':decide ((l.length:Int) > 2000)=true:=hb
    rw [hd] at hb'
    cases hb'
   ·show (qnr (l,())).get.bad=(qa6 l).isNone
    rw [hget,hO]
    cases xb l 1 ([],[])<;>rfl
   ·intro hb
    have hb':(qa6 l).isNone=false:=hb
    show (qnr (l,())).get.val=(ya l,())
    rw [hget]
    rw [hO] at hb'
    cases h:xb l 1 ([],[]) with
    |none=>rw [h] at hb'; cases hb'
    |some p=>rfl
   ·intro hb
    have hb':(qa6 l).isNone=true:=hb
    show (qnr (l,())).get.pv=_
    rw [hget]
    rw [hO] at hb'
    cases h:xb l 1 ([],[]) with
    |none=>rfl
    |some p=>rw [h] at hb'; cases hb'
  ·have hd:decide ((l.length:Int) > 2000)=true:=by simp; omega
   have hO:qa6 l=none:=if_neg hl
   have hget:(qnr (l,())).get=Oc.pan ⟨57,.i64,1⟩:=by
    show (if decide ((l.length:Int) > 2000)=true then _ else _)=_
    rw [hd]
    rfl
   refine ⟨⟨fun _=>⟨fun _=>trivial,fun hc=>by cases hc⟩,fun hb=>?_⟩,?_,?_,?_⟩
   ·have hb':decide ((l.length:Int) > 2000)=false:=hb
    rw [hd] at hb'
    cases hb'
   ·show (qnr (l,())).get.bad=(qa6 l).isNone
    rw [hget,hO]
    rfl
   ·intro hb
    have hb':(qa6 l).isNone=false:=hb
    rw [hO] at hb'
    cases hb'
   ·intro _
    show (qnr (l,())).get.pv=_
    rw [hget]
    rfl
def wj (d:Int):Int:=if 292195 < (if d < 1 then 1 else d) then 292195 else (if d < 1 then 1 else d)
theorem zvt (d:Int):1<=wj d/\wj d<=292195:=by
 unfold wj
 split<;>split<;>omega
noncomputable def CU:Cx:=cx [(151,zq6),(111,qmf)] [(109,qa5)]
theorem ypa:CxOK Tryz.prog CU:=zb qv ⟨yol,yho,trivial⟩ ⟨zcx,trivial⟩
def zsj (s e:Int):Fr (Oc (qi [i64])):=
 Fr.br (qa5.bad (e,())) (Fr.val (Oc.pan (qa5.pv (e,()))))
  (Fr.need (0<=s->(0:Int)<=1->s * 1 < 18446744073709551616)
   (Fr.br (qa5.bad ((qmf.f (s,1,365,())).2.1,())) (Fr.val (Oc.pan (qa5.pv ((qmf.f (s,1,365,())).2.1,())))) (Fr.val (Oc.ok ((qmf.f (s,1,365,())).1,())))))
def frU (x:qm [.d zg,.d i64]):Fr (Oc (qi [i64])):=
 Fr.br (wj x.2.1==1) (Fr.val (Oc.ok (0,()))) (zsj (zq6.f (x.1,(1,wj x.2.1,()),())).1 (zq6.f (x.1,(1,wj x.2.1,()),())).2.1)
theorem ykb:qdi Tryz.prog 110 ⟨[.d zg,.d i64],[i64],fun xs=>(frU xs).get.val,fun xs=>(frU xs).get.bad,fun xs=>(frU xs).get.pv,fun xs=>[(frU xs).ok]⟩:=
 zjt ypa (Λ:=qp) (fn:=Tryz.f110) (([],[],()),0,()) (by kernel_rfl) (fun c E hc=>qd c 0) (fun xs=>by kernel_rfl)
def qcf (s e:Int):Int × Int:=if e ≠ 0 then (0,e) else if (jx s 1 365).2 ≠ 0 then (0,(jx s 1 365).2) else ((jx s 1 365).1,0)
def yb (f:zg.den) (d:Int):Int × Int:=if wj d=1 then (0,0) else qcf (qaq f (1,wj d,())).1 (qaq f (1,wj d,())).2
def qb4:Pc:=⟨[.d zg,.d i64],[i64],fun x=>((yb x.1 x.2.1).1,()),fun x=>!((yb x.1 x.2.1).2==0),fun x=>⟨57,.i64,(yb x.1 x.2.1).2⟩,fun _=>[]⟩
theorem yeg (f:zg.den) (s:zw.den):(qaq f s).1<=4000000000000000000:=by
 unfold qaq
 split
 ·rename_i h
  obtain ⟨_,_,_,hval⟩:=qn3 h.1
  have hs:=qcp.1 h.2
  have hok:=qk2 (f:=f) hval (e:=s.2.1) hs.2.2 f.1 s.1 hs.1 hs.2.1
  cases hq:qap (js f s.2.1 f.1 s.1) (0,0) with
  |none=>show (0:Int)<=_; decide
  |some q=>
   obtain ⟨j1,j2,j3,j4⟩:=qvn hok (q:=(0,0)) ⟨by decide,by decide,by decide,by decide⟩ hq
   show q.1<=_
   omega
 ·show (0:Int)<=_; decide
theorem yh0 {s e:Int} (hs:s<=4000000000000000000):(zsj s e).ok/\(zsj s e).get=if (qcf s e).2=0 then Oc.ok ((qcf s e).1,()) else Oc.pan ⟨57,.i64,(qcf s e).2⟩:=by
 by_cases he:e=0
 ·subst he
  have hneed:0<=s->(0:Int)<=1->s * 1 < 18446744073709551616:=fun _ _=>by omega
  by_cases h2:(jx s 1 365).2=0
  ·have hU:qcf s 0=((jx s 1 365).1,0):=by
    unfold qcf
    rw [if_neg (fun h=>h rfl),if_neg (fun h=>h h2)]
   have hb:qa5.bad ((qmf.f (s,1,365,())).2.1,())=false:=by
    show (!((jx s 1 365).2==0))=false
    rw [h2]
    rfl
   rw [hU]
   refine ⟨⟨fun hc=>(by cases hc),fun _=>⟨hneed,fun _=>trivial,fun _=>trivial⟩⟩,?_⟩
   show (if qa5.bad ((qmf.f (s,1,365,())).2.1,())=true then _ else Oc.ok ((jx s 1 365).1,()))=_
   rw [hb]
   rfl
  ·have hU:qcf s 0=(0,(jx s 1 365).2):=by
    unfold qcf
    rw [if_neg (fun h=>h rfl),if_pos h2]
   have hb:qa5.bad ((qmf.f (s,1,365,())).2.1,())=true:=by
    show (!((jx s 1 365).2==0))=true
    simp [h2]
   rw [hU]
   refine ⟨⟨fun hc=>(by cases hc),fun _=>⟨hneed,fun _=>trivial,fun _=>trivial⟩⟩,?_⟩
   show (if qa5.bad ((qmf.f (s,1,365,())).2.1,())=true then Oc.pan ⟨57,.i64,(jx s 1 365).2⟩ else _)=_
   rw [hb,if_pos rfl]
   exact (if_neg h2).symm
 ·have hU:qcf s e=(0,e):=by
   unfold qcf
   rw [if_pos he]
  have hb:qa5.bad (e,())=true:=by
   show (!(e==0))=true
   simp [he]
  rw [hU]
  refine ⟨⟨fun _=>trivial,fun hc=>(by rw [hb] at hc; cases hc)⟩,?_⟩
  show (if qa5.bad (e,())=true then Oc.pan ⟨57,.i64,e⟩ else _)=_
  rw [hb,if_pos rfl]
  exact (if_neg he).symm
theorem zqa:qdi Tryz.prog 110 qb4:=
 yfo ykb _ _ _ _ fun w F xs vs hr _=>by
  obtain ⟨f,d,_⟩:=xs
  have key:(frU (f,d,())).ok/\(frU (f,d,())).get=if (yb f d).2=0 then Oc.ok ((yb f d).1,()) else Oc.pan ⟨57,.i64,(yb f d).2⟩:=by
   unfold yb
   by_cases hd:wj d=1
   ·rw [if_pos hd]
    have hb:(wj d==1)=true:=by simpa using hd
    refine ⟨⟨fun _=>trivial,fun hc=>(by rw [hb] at hc; cases hc)⟩,?_⟩
    show (if (wj d==1)=true then Oc.ok (0,()) else _)=_
    rw [hb]
    rfl
   ·rw [if_neg hd]
    have hb:(wj d==1)=false:=by simpa using hd
    have h2:=yh0 (e:=(qaq f (1,wj d,())).2) (yeg f (1,wj d,()))
    refine ⟨⟨fun hc=>(by rw [hb] at hc; cases hc),fun _=>h2.1⟩,?_⟩
    show (if (wj d==1)=true then _ else (zsj (qaq f (1,wj d,())).1 (qaq f (1,wj d,())).2).get)=_
    rw [hb,if_neg (by decide),h2.2]
  refine ⟨key.1,?_,?_,?_⟩
  ·show (frU (f,d,())).get.bad = !((yb f d).2==0)
   rw [key.2]
   by_cases h:(yb f d).2=0
   ·rw [if_pos h,h]
    rfl
   ·rw [if_neg h]
    have:((yb f d).2==0)=false:=by simpa using h
    rw [this]
    rfl
  ·intro hb
   have hb':(!((yb f d).2==0))=false:=hb
   have h:(yb f d).2=0:=by simpa using hb'
   show (frU (f,d,())).get.val=((yb f d).1,())
   rw [key.2,if_pos h]
   rfl
  ·intro hb
   have hb':(!((yb f d).2==0))=true:=hb
   have h:¬ (yb f d).2=0:=by simpa using hb'
   show (frU (f,d,())).get.pv=_
   rw [key.2,if_neg h]
   rfl
theorem zum {w:World} {b:Nat} {ty:TypeId} {old v:Value} (h:w.heap[b]? = some (.cells #[old] ty (0,0))):w.setCell ⟨b,0,none⟩ v=w.setRow b #[v]:=by
 unfold World.setCell World.setRow
 congr 1
 apply Array.ext_getElem?
 intro i
 simp only [Array.getElem?_modify]
 by_cases hi:b=i
 ·subst hi
  rw [h]
  simp
 ·simp [hi]
theorem zp8:TolOK Tryz.prog 107 57 .i64:=by
 refine ⟨enters (fn:=Tryz.f107) (by kernel_rfl) rfl rfl,fun p w=>?_,fun b ty old n w hb=>?_⟩
 ·refine callsD_of_wpS Tryz.func107 rfl fun c₀ cs hu=>?_
  simp only [Tryz.ntmps107,List.size_toArray,List.length_cons,List.length_nil,Nat.reduceAdd,Nat.reduceSub,Array.replicate_succ,Array.replicate_zero,List.push_toArray,List.append_toArray,List.nil_append,List.cons_append]
  apply wpS_seq
  apply wpS_region
  simp [wpOpsS,go_sem,recoverD,hu,Exit.thenS]
  refine wpS_of_wp ?_
  go_wp2
  cases c₀
  simp_all [bodyPostS,results,Tryz.results107]
 ·have hc:w.cell? ⟨b,0,none⟩=some old:=qh hb 0
  have hz:w.frozen? ⟨b,0,none⟩=false:=by simp [World.frozen?,hb]
  have hta:∀ w,(Instr.typeAssert (.iface 57 (.int .i64 n)) 20 57 true).run Tryz.prog w = .ok (.tuple #[.int .i64 n,.bool true]) w:=fun _=>by kernel_rfl
  refine callsD_of_wpS Tryz.func107 rfl fun c₀ cs hu=>?_
  simp only [Tryz.ntmps107,List.size_toArray,List.length_cons,List.length_nil,Nat.reduceAdd,Nat.reduceSub,Array.replicate_succ,Array.replicate_zero,List.push_toArray,List.append_toArray,List.nil_append,List.cons_append]
  apply wpS_seq
  apply wpS_region
  simp [wpOpsS,go_sem,recoverD,hu,Exit.thenS]
  refine wpS_of_wp ?_
  go_wp2
  simp [bodyPostS,results,Tryz.results107,zum hb]
theorem ybd:(0:Int)<=0/\(0:Int)<=6:=by decide
theorem ybe:(0:Int)<=1/\(1:Int)<=6:=by decide
theorem zuw:(0:Int)<=0/\(0:Int)<=4000000000000000000:=by decide
theorem ymk:(0:Int)<=5/\(5:Int)<=6:=by decide
theorem zwk (a b c:Int):0<=(jx a b c).2/\(jx a b c).2<=6:=by
 unfold jx
 split
 ·exact ⟨by decide,by decide⟩
 ·split
  ·exact ⟨by decide,by decide⟩
  ·split
   ·exact ymk
   ·exact ybd
theorem zdy (a b c:Int) (hc:0 < c):0<=(jx a b c).1/\(jx a b c).1<=4000000000000000000:=by
 unfold jx
 split
 ·exact ⟨by decide,by decide⟩
 ·rename_i h
  split
  ·exact ⟨by decide,by decide⟩
  ·split
   ·exact ⟨by decide,by decide⟩
   ·have hab:0<=a * b:=Int.mul_nonneg (by omega) (by omega)
    have hq:0<=a * b / c:=Int.ediv_nonneg hab (by omega)
    have:0<=qd1 (a * b) c:=by
     unfold qd1
     split<;>omega
    exact ⟨this,by show qd1 (a * b) c<=_; omega⟩
theorem zy3 (f:zg.den) (s:zw.den):0<=(qaq f s).2/\(qaq f s).2<=6:=by
 unfold qaq
 split
 ·cases qap (js f s.2.1 f.1 s.1) (0,0)
  ·exact ymk
  ·exact ybd
 ·exact ⟨by decide,by decide⟩
theorem qvs (f:zg.den) (d:Int):0<=(yb f d).2/\(yb f d).2<=6:=by
 unfold yb
 split
 ·exact ⟨by decide,by decide⟩
 ·unfold qcf
  split
  ·exact zy3 _ _
  ·split
   ·exact zwk _ _ _
   ·exact ybd
theorem qvt (f:zg.den) (d:Int):0<=(yb f d).1/\(yb f d).1<=4000000000000000000:=by
 unfold yb
 split
 ·exact zuw
 ·unfold qcf
  split
  ·exact zuw
  ·split
   ·exact zuw
   ·exact zdy _ _ _ (by decide)
theorem zzj (f:zg.den) (d:Int) (h:(yb f d).2 ≠ 0):(yb f d).1=0:=by
 unfold yb at *
 split at h
 ·exact absurd rfl h
 ·rename_i hd
  rw [if_neg hd]
  unfold qcf at *
  split at h
  ·rename_i he
   rw [if_pos he]
  ·rename_i he
   rw [if_neg he]
   split at h
   ·rename_i h2
    rw [if_pos h2]
   ·exact absurd rfl h
theorem zcc {n:Int} (h:0<=n/\n<=6):inR .i64 n:=by
 constructor
 ·show (-9223372036854775808:Int)<=n
  omega
 ·show n<=(9223372036854775807:Int)
  omega
noncomputable def CP:Cx:=cx [] [(108,je),(110,qb4)]
theorem yo5:CxOK Tryz.prog CP:=zb qv trivial ⟨zis,zqa,trivial⟩
def qad (l:List qk.den) (d:Int):Int × Int:=if (qa6 l).isNone=true then (0,1) else yb (ya l) d
def qza:Ct:=⟨[.d qac,.d i64],[i64,i64],fun x=>((qad x.1 x.2.1).1,(qad x.1 x.2.1).2,()),fun _=>[]⟩
def ymq (x:qm [.d qac,.d i64]):Fr (qi [i64,i64]):=
 Fr.br (je.bad (x.1,())) (Fr.need (inR .i64 (je.pv (x.1,())).n) (Fr.val (0,(je.pv (x.1,())).n,())))
  (Fr.br (qb4.bad ((je.f (x.1,())).1,x.2.1,()))
   (Fr.need (inR .i64 (qb4.pv ((je.f (x.1,())).1,x.2.1,())).n) (Fr.val (0,(qb4.pv ((je.f (x.1,())).1,x.2.1,())).n,())))
   (Fr.val ((qb4.f ((je.f (x.1,())).1,x.2.1,())).1,0,())))
theorem ygr:qa Tryz.prog 79 qza:=
 conv (ya6 yo5 (Λ:=qp) (fn:=Tryz.f79) (fr:=ymq) (ps:=[.d qac,.d i64]) (rs:=[i64,i64]) ([],0,()) (by kernel_rfl) zp8 (fun c E _=>qd c 0) (fun x=>by kernel_rfl)) _ _ fun w F xs vs hr _=>by
  obtain ⟨l,d,_⟩:=xs
  by_cases hc:(qa6 l).isNone=true
  ·have hb:je.bad (l,())=true:=hc
   refine ⟨⟨fun _=>⟨zcc ybe,trivial⟩,fun h=>(by have h':je.bad (l,())=false:=h; rw [hb] at h'; cases h')⟩,?_⟩
   show (if je.bad (l,())=true then ((0:Int),(1:Int),()) else _)=((qad l d).1,(qad l d).2,())
   unfold qad
   rw [hb,if_pos rfl,if_pos hc]
  ·have hb:je.bad (l,())=false:=(by show (qa6 l).isNone=false; exact Bool.eq_false_iff.2 hc)
   have hU:qad l d=yb (ya l) d:=if_neg hc
   refine ⟨⟨fun h=>(by have h':je.bad (l,())=true:=h; rw [hb] at h'; cases h'),fun _=>⟨fun _=>⟨zcc (qvs _ _),trivial⟩,fun _=>trivial⟩⟩,?_⟩
   show (if je.bad (l,())=true then _ else if (!((yb (ya l) d).2==0))=true then ((0:Int),(yb (ya l) d).2,()) else ((yb (ya l) d).1,0,()))=((qad l d).1,(qad l d).2,())
   rw [hb,if_neg (by decide),hU]
   by_cases h2:(yb (ya l) d).2=0
   ·rw [if_neg (by simp [h2]),h2]
   ·rw [if_pos (by simp [h2]),zzj _ _ h2]
def qrt:Ct:=⟨[.d qac],[i64,i64],fun x=>((qad x.1 292195).1,(qad x.1 292195).2,()),fun _=>[]⟩
theorem zqq:qa Tryz.prog 47 qrt:=
 flat (ps:=[.d qac]) (rs:=[i64,i64]) (zb (cs:=[(79,qza)]) (ps:=[]) qv ⟨ygr,trivial⟩ trivial) (fn:=Tryz.f47) (fr:=fun x=>Fr.val ((qza.f (x.1,292195,())).1,(qza.f (x.1,292195,())).2.1,())) ([],()) (by kernel_rfl) (fun x=>by kernel_rfl) _ _
  (fun _ _ x _ _ _=>⟨trivial,rfl⟩)
def qag (f:zg.den):Int->Nat->Int
 |_,0=>0
 |a,n+1=>vz f a+qag f (a+1) n
theorem ziy (f:zg.den):(m n:Nat)->(a:Int)->qag f a (m+n)=qag f a m+qag f (a+m) n
 |0,n,a=>by simp [qag]
 |m+1,n,a=>by
  have h:=ziy f m n (a+1)
  rw [show m+1+n=(m+n)+1 by omega]
  simp only [qag]
  rw [h]
  have:a+1+(m:Int)=a+((m+1:Nat):Int):=by omega
  rw [this]
  omega
theorem qpv {f:zg.den} (h:∀ d,0<=vz f d):(n:Nat)->(a:Int)->0<=qag f a n
 |0,a=>Int.le_refl _
 |n+1,a=>by
  have:=qpv h n (a+1)
  have:=h a
  simp only [qag]
  omega
theorem qr0 {f:zg.den} {v:Int}:(n:Nat)->(a:Int)->(∀ d,a<=d->d < a+n->vz f d=v)->qag f a n=n * v
 |0,a,_=>by simp [qag]
 |n+1,a,h=>by
  simp only [qag]
  rw [h a (by omega) (by omega),qr0 n (a+1) (fun d h1 h2=>h d (by omega) (by omega))]
  grind
theorem zrj {l:List Int} {a d:Int} (had:a<=d) (h:∀ x ∈ l,x<=a ∨ d < x):qv7 l d=qv7 l a:=by
 unfold qv7
 apply List.countP_congr
 intro x hx
 have:=h x hx
 simp only [decide_eq_true_eq]
 omega
theorem zbm {f:zg.den} {a d:Int} (had:a<=d) (h:∀ x ∈ f.1,x<=a ∨ d < x):vz f d=vz f a:=by
 unfold vz
 rw [zrj had h]
theorem zmp {f:zg.den} (h:∀ y ∈ f.2.1,0<=y) (d:Int):0<=vz f d:=by
 unfold vz
 split
 ·exact Int.le_refl _
 ·rename_i k _
  rw [List.getD_eq_getElem?_getD]
  cases hk:f.2.1[k]? with
  |none=>simp
  |some y=>
   have:=h y (List.mem_of_getElem? hk)
   simpa using this
theorem zbg {s t a b v:Int} (hv:0<=v) (hab:a < b) (ht:t<=4000000000000000000) :
  qcw (s,t) (a,b,v)=if t+(b - a) * v<=4000000000000000000 then some (s+(b - a) * v,t+(b - a) * v) else none:=by
 have hm:max v (-v)=v:=by omega
 unfold qcw
 simp only [hm]
 have hiff:v > (4000000000000000000 - t) / (b - a)↔¬ t+(b - a) * v<=4000000000000000000:=by
  have:=Int.le_ediv_iff_mul_le (a:=v) (b:=4000000000000000000 - t) (c:=b - a) (by omega)
  rw [Int.mul_comm v] at this
  omega
 by_cases h:t+(b - a) * v<=4000000000000000000
 ·rw [if_neg (by rw [hiff]; exact fun hc=>hc h),if_pos h]
 ·rw [if_pos (hiff.2 h),if_neg h]
theorem qta {f:zg.den} (hv:∀ d,0<=vz f d) {e:Int}:(l:List Int)->(a s t:Int)->l.Pairwise (· < ·)->(∀ x ∈ f.1,x<=a ∨ e<=x ∨ x ∈ l)->a < e->t<=4000000000000000000 ->
  qap (js f e l a) (s,t)=if t+qag f a (e - a).toNat<=4000000000000000000 then some (s+qag f a (e - a).toNat,t+qag f a (e - a).toNat) else none
 |[],a,s,t,_,hc,hae,ht=>by
  have hd:qag f a (e - a).toNat=(e - a) * vz f a:=by
   rw [qr0 (e - a).toNat a (fun d h1 h2=>zbm h1 (fun x hx=>by
    rcases hc x hx with h | h | h
    ·exact .inl h
    ·exact .inr (by omega)
    ·cases h))]
   congr 1
   omega
  rw [hd]
  simp only [js,qap]
  rw [zbg (hv a) hae ht]
  split<;>rfl
 |d :: l,a,s,t,hp,hc,hae,ht=>by
  obtain ⟨hp1,hp2⟩:=List.pairwise_cons.1 hp
  unfold js
  split
  ·rename_i hsk
   refine qta hv l a s t hp2 (fun x hx=>?_) hae ht
   rcases hc x hx with h | h | h
   ·exact .inl h
   ·exact .inr (.inl h)
   ·rcases List.mem_cons.1 h with rfl | h
    ·rcases hsk with h | h
     ·exact .inl h
     ·exact .inr (.inl h)
    ·exact .inr (.inr h)
  ·rename_i hsk
   have hda:a < d:=by omega
   have hde:d < e:=by omega
   have hd:qag f a (d - a).toNat=(d - a) * vz f a:=by
    rw [qr0 (d - a).toNat a (fun d' h1 h2=>zbm h1 (fun x hx=>by
     rcases hc x hx with h | h | h
     ·exact .inl h
     ·exact .inr (by omega)
     ·rcases List.mem_cons.1 h with rfl | h
      ·exact .inr (by omega)
      ·have:=hp1 x h
       exact .inr (by omega)))]
    congr 1
    omega
   have hsplit:qag f a (e - a).toNat=qag f a (d - a).toNat+qag f d (e - d).toNat:=by
    rw [show (e - a).toNat=(d - a).toNat+(e - d).toNat by omega,ziy]
    congr 2
    omega
   have hnn:=qpv hv (e - d).toNat d
   simp only [qap]
   rw [zbg (hv a) hda ht,← hd]
   by_cases h1:t+qag f a (d - a).toNat<=4000000000000000000
   ·rw [if_pos h1]
    show qap (js f e l d) _=_
    have hc':∀ x ∈ f.1,x<=d ∨ e<=x ∨ x ∈ l:=fun x hx=>by
     rcases hc x hx with h | h | h
     ·exact .inl (Int.le_trans h (Int.le_of_lt hda))
     ·exact .inr (.inl h)
     ·rcases List.mem_cons.1 h with rfl | h
      ·exact .inl (Int.le_refl _)
      ·exact .inr (.inr h)
    rw [qta hv l d _ _ hp2 hc' hde h1]
    rw [hsplit,Int.add_assoc,Int.add_assoc]
   ·have hno:¬ t+qag f a (e - a).toNat<=4000000000000000000:=by
     rw [hsplit]
     clear hd hsplit
     generalize qag f a (d - a).toNat=A at *
     generalize qag f d (e - d).toNat=B at *
     omega
    rw [if_neg h1,if_neg hno]
    rfl
structure Pos (f:zg.den):Prop where
 right:qdl f=true
 pos:∀ y ∈ f.2.1,0<=y
theorem Pos.val {f:zg.den} (h:Pos f) (d:Int):0<=vz f d:=zmp h.pos d
theorem zuq {f:zg.den} (h:Pos f) {a e:Int} (ha:1<=a) (hae:a < e) (he:e<=292195) :
  qaq f (a,e,())=if qag f a (e - a).toNat<=4000000000000000000 then (qag f a (e - a).toNat,0) else (0,5):=by
 obtain ⟨h1,h2,h3,h4⟩:=qn3 h.right
 have hsum:=qta h.val (e:=e) f.1 a 0 0 h2 (fun x hx=>.inr (.inr hx)) hae (by decide)
 simp only [Int.zero_add] at hsum
 unfold qaq
 rw [if_pos ⟨h.right,qcp.2 ⟨ha,hae,he⟩⟩,hsum]
 by_cases hc:qag f a (e - a).toNat<=4000000000000000000
 ·rw [if_pos hc,if_pos hc]
 ·rw [if_neg hc,if_neg hc]
def Sd (f:zg.den) (d:Int):Int:=qag f 1 (wj d - 1).toNat
theorem ybh {p:Int} (h:0<=p):qd1 p 365=(p+182) / 365:=by
 unfold qd1
 split<;>omega
theorem yhn {p:Int} (h:0<=p) (h2:p<=4000000000000000000):jx p 1 365=((p+182) / 365,0):=by
 unfold jx
 rw [Int.mul_one,ybh h,if_neg (by omega),if_neg (by decide),if_neg (by omega)]
theorem zuv {f:zg.den} (h:Pos f) (d:Int):yb f d=if Sd f d<=4000000000000000000 then ((Sd f d+182) / 365,0) else (0,5):=by
 have hb:=zvt d
 have hnn:=qpv h.val (wj d - 1).toNat 1
 unfold yb
 by_cases hd:wj d=1
 ·rw [if_pos hd]
  have:Sd f d=0:=by
   unfold Sd
   rw [hd]
   rfl
  rw [this,if_pos (by decide)]
  rfl
 ·rw [if_neg hd,zuq h (by decide) (by omega) hb.2]
  show qcf _ _=_
  unfold Sd
  by_cases hc:qag f 1 (wj d - 1).toNat<=4000000000000000000
  ·rw [if_pos hc,if_pos hc]
   show qcf (qag f 1 (wj d - 1).toNat) 0=_
   unfold qcf
   rw [if_neg (fun h=>h rfl),yhn hnn hc,if_neg (fun h=>h rfl)]
  ·rw [if_neg hc,if_neg hc]
   rfl
theorem qs5 {d v:Int}:{l r:List Int}->(d0 v0:Int)->l.length=r.length ->
  qck (l++[d]) (r++[v]) d0 v0=(qck l r d0 v0&&(decide (l.getLast?.getD d0 < d)&&(decide (d<=292194)&&(!(v==r.getLast?.getD v0)&&qd5 v))))
 |[],[],d0,v0,_=>by
  show (_&&true)=(true&&_)
  rw [Bool.and_true,Bool.true_and]
  rfl
 |[],_ :: _,_,_,h=>by simp at h
 |_ :: _,[],_,_,h=>by simp at h
 |a :: l,b :: r,d0,v0,h=>by
  have ih:=qs5 (d:=d) (v:=v) (l:=l) (r:=r) a b (by simpa using h)
  simp only [List.cons_append,qck]
  rw [ih]
  have e1:(a :: l).getLast?.getD d0=l.getLast?.getD a:=by
   rw [List.getLast?_cons]
   rfl
  have e2:(b :: r).getLast?.getD v0=r.getLast?.getD b:=by
   rw [List.getLast?_cons]
   rfl
  rw [e1,e2]
  simp only [Bool.and_assoc]
structure Good (p:List Int × List Int) (m:Int):Prop where
 len:p.1.length=p.2.length
 up:qck p.1 p.2 0 0=true
 le:p.1.getLast?.getD 0<=m
 pos:∀ y ∈ p.2,0<=y
theorem qz9 {l:List Int} {x:Int} (h:l.getLast? = some x):l=l.dropLast++[x]:=by
 cases l with
 |nil=>simp at h
 |cons a l=>
  rw [List.getLast?_eq_some_getLast (by simp)] at h
  simp only [Option.some.injEq] at h
  rw [← h]
  exact (List.dropLast_concat_getLast (by simp)).symm
theorem Good.pop {p:List Int × List Int} {m day:Int} (h:Good p m) (hl:p.1.getLast? = some day):Good (p.1.dropLast,p.2.dropLast) (day - 1)/\day<=m:=by
 obtain ⟨at_,val⟩:=p
 obtain ⟨h1,h2,h3,h4⟩:=h
 simp only at *
 have e1:=qz9 hl
 cases hv:val.getLast? with
 |none=>
  have:val=[]:=by simpa using hv
  subst this
  rw [e1] at h1
  simp at h1
 |some y=>
  have e2:=qz9 hv
  have hlen:at_.dropLast.length=val.dropLast.length:=by simp [h1]
  rw [e1,e2,qs5 0 0 hlen] at h2
  simp only [Bool.and_eq_true,decide_eq_true_eq] at h2
  refine ⟨⟨hlen,h2.1,?_,fun z hz=>h4 z ?_⟩,?_⟩
  ·have:=h2.2.1
   show at_.dropLast.getLast?.getD 0<=day - 1
   omega
  ·rw [e2]
   exact List.mem_append_left _ hz
  ·rw [hl] at h3
   exact h3
theorem Good.push {p:List Int × List Int} {m day v:Int} (h:Good p m) (hd:m < day) (hday:day<=292194) (hv:0<=v/\v<=4000000000000000000) (hne:v ≠ p.2.getLast?.getD 0):Good (p.1++[day],p.2++[v]) day:=by
 obtain ⟨h1,h2,h3,h4⟩:=h
 refine ⟨by simp [h1],?_,by simp,fun z hz=>?_⟩
 ·show qck (p.1++[day]) (p.2++[v]) 0 0=true
  rw [qs5 0 0 h1,h2]
  have hm:qd5 v=true:=zes.2 (by omega)
  have hb:(v==p.2.getLast?.getD 0)=false:=by simpa using hne
  have hlt:p.1.getLast?.getD 0 < day:=by omega
  simp [hm,hb,hlt,hday]
 ·rcases List.mem_append.1 hz with hz | hz
  ·exact h4 z hz
  ·simp only [List.mem_singleton] at hz
   subst hz
   exact hv.1
theorem Good.mono {p:List Int × List Int} {m m':Int} (h:Good p m) (hm:m<=m'):Good p m':=⟨h.len,h.up,Int.le_trans h.le hm,h.pos⟩
theorem Good.add {p:List Int × List Int} {m day v:Int} (h:Good p m) (hd:m<=day) (h1:1<=day) (hv:0<=v/\v<=4000000000000000000):Good (qa4 p day v) day:=by
 unfold qa4
 by_cases hl:p.1.getLast? = some day
 ·have hp:=(h.pop hl).1
  simp only [hl,if_true]
  split
  ·rename_i hc
   exact hp.push (by omega) hc.2 hv hc.1
  ·exact hp.mono (by omega)
 ·simp only [hl,if_false]
  have hlt:p.1.getLast?.getD 0<=day - 1:=by
   have hle:=h.le
   cases hx:p.1.getLast? with
   |none=>show (0:Int)<=_; omega
   |some x=>
    rw [hx] at hle hl
    have hne:x ≠ day:=fun he=>hl (by rw [he])
    have hle':x<=m:=hle
    show x<=_
    omega
  have hg:Good p (day - 1):=⟨h.len,h.up,hlt,h.pos⟩
  split
  ·rename_i hc
   exact hg.push (by omega) hc.2 hv hc.1
  ·exact hg.mono (by omega)
theorem qz8 {s:qk.den} {e:Int}:qjb s e=true↔e<=s.1.1/\s.1.1 < s.1.2.1/\s.1.2.1<=292195/\0<=s.2.2.2.2.1/\s.2.2.2.2.1<=4000000000000000000:=by
 simp [qjb]
theorem Good.addS {p:List Int × List Int} {s:qk.den} {e:Int} (h:Good p e) (he:1<=e) (hs:qjb s e=true):Good (addS p s) s.1.2.1:=by
 obtain ⟨h1,h2,h3,h4,h5⟩:=qz8.1 hs
 have hf:1<=s.1.1:=Int.le_trans he h1
 have ht:1<=s.1.2.1:=Int.le_trans hf (Int.le_of_lt h2)
 exact (h.add h1 hf ⟨h4,h5⟩).add (Int.le_of_lt h2) ht (by decide)
def qnn:List qk.den->Int->List Int × List Int->Option (Int × (List Int × List Int))
 |[],e,p=>some (e,p)
 |s :: l,e,p=>if qjb s e=true then qnn l s.1.2.1 (addS p s) else none
theorem zdt:(l:List qk.den)->(e:Int)->(p:List Int × List Int)->xb l e p=(qnn l e p).map (·.2)
 |[],_,_=>rfl
 |s :: l,e,p=>by
  simp only [xb,qnn]
  split
  ·exact zdt l _ _
  ·rfl
theorem qw6:{l:List qk.den} -> {e:Int} -> {p:List Int × List Int} -> {q:Int × (List Int × List Int)}->Good p e->1<=e->qnn l e p=some q->Good q.2 q.1/\1<=q.1
 |[],e,p,q,h,he,hq=>by
  simp only [qnn,Option.some.injEq] at hq
  subst hq
  exact ⟨h,he⟩
 |s :: l,e,p,q,h,he,hq=>by
  simp only [qnn] at hq
  split at hq
  ·rename_i hs
   obtain ⟨h1,h2,_⟩:=qz8.1 hs
   have ht:1<=s.1.2.1:=Int.le_trans (Int.le_trans he h1) (Int.le_of_lt h2)
   exact qw6 (h.addS he hs) ht hq
  ·cases hq
theorem ypl:Good ([],[]) 1:=⟨rfl,rfl,by show (0:Int)<=1; decide,by simp⟩
theorem zv3 {l:List qk.den} (h:(qa6 l).isNone=false):Pos (ya l):=by
 unfold ya
 unfold qa6 at *
 split at h
 ·rename_i hl
  rw [if_pos hl]
  rw [zdt] at h ⊢
  cases hq:qnn l 1 ([],[]) with
  |none=>rw [hq] at h; cases h
  |some q=>
   have hg:=(qw6 ypl (by decide) hq).1
   show Pos (q.2.1,q.2.2,())
   refine ⟨?_,hg.pos⟩
   simp only [qdl,hg.up,Bool.and_true,decide_eq_true_eq]
   exact hg.len
 ·cases h
end Go.Proofs.YtgieagiaagoogaaGreat
namespace Go.Ab
open Go Go.RowKit
def Ty.flat:Ty->Bool
 |.sl _=>false
 |.fm _=>false
 |.ic _ _=>false
 |.fc _=>false
 |.pair a b=>a.flat&&b.flat
 |_=>true
section
variable {P:Program} {B:Nat} {w w':World} {E:Env} {F F':Nat->Prop} {γ γ':Nat->Value} {m:Mem}
theorem qs.flat:{t:Ty}->t.flat=true -> {x:t.den} -> {g:Nat->Value->Prop}->qs w F t x g->qs w' F' t x g
 |.int _,_,_,_,h=>h
 |.bool,_,_,_,h=>h
 |.str,_,_,_,h=>h
 |.unit,_,_,_,h=>h
 |.sl _,hf,_,_,_=>by simp [Ty.flat] at hf
 |.fm _,hf,_,_,_=>by simp [Ty.flat] at hf
 |.ic _ _,hf,_,_,_=>by simp [Ty.flat] at hf
 |.fc _,hf,_,_,_=>by simp [Ty.flat] at hf
 |.pair a b,hf,_,_,h=>by
  simp only [Ty.flat,Bool.and_eq_true] at hf
  exact ⟨qs.flat hf.1 h.1,qs.flat hf.2 h.2⟩
theorem zt.flat {t:Ty} (hf:t.flat=true) {x:t.den} {v:Value} (h:zt w F t x v):zt w' F' t x v:=⟨h.1,h.2.1,h.2.2.flat hf⟩
theorem xz.flat:{ts:List Ty}->ts.all Ty.flat=true -> {x:qi ts} -> {vs:List Value}->xz w F ts x vs->xz w' F' ts x vs
 |[],_,_,_,h=>h
 |t :: r,hf,_,_,⟨v,vs',h1,h2,h3⟩=>by
  simp only [List.all_cons,Bool.and_eq_true] at hf
  exact ⟨v,vs',h1,h2.flat hf.1,xz.flat hf.2 h3⟩
theorem qiz.flat:{ts:List Ty}->ts.all Ty.flat=true -> {x:qi ts} -> {v:Value}->qiz w F ts x v->qiz w' F' ts x v
 |[],hf,_,_,⟨vs,h1,h2⟩=>⟨vs,h1,xz.flat hf h2⟩
 |[t],hf,_,_,h=>by
  simp only [List.all_cons,Bool.and_eq_true] at hf
  exact zt.flat hf.1 h
 |t :: t' :: r,hf,_,_,⟨vs,h1,h2⟩=>⟨vs,h1,xz.flat hf h2⟩
theorem yp.flat {t:Ty} (hf:t.flat=true) {l:List t.den} {xs:List Value} (h:yp w F t l xs):yp w' F' t l xs:=fun i x hi=>(h i x hi).flat hf
structure Mt where
 e:TypeId
 T:Ty
 ps:List PT
 rs:List Ty
 f:List T.den->qm ps->List T.den × qi rs
 ok:List T.den->qm ps->List Prop
def zu7 (w:World) (mt:Mt) (v:Value) (y:List mt.T.den × qi mt.rs) (e:Ending) (w':World):Prop:=
 ∃ u rows,e = .returned u/\w.grownBy w' v.ownBlock/\w'.ownsRow 0 mt.e mt.T.size v y.1.length rows/\yp w' (fun _=>False) mt.T y.1 rows/\(∀ u ∈ rows,u.oneCell'=true)/\qiz w' (fun _=>False) mt.rs y.2 u
structure SoundMt (P:Program) (f:FuncId) (mt:Mt):Prop where
 flat:mt.T.flat=true
 flats:mt.rs.all Ty.flat=true
 enters:∀ args w,(callFunc f args).run P w = .ok (.enter f args) w
 calls:∀ (w:World) (F:Nat->Prop) (l:List mt.T.den) (xs:qm mt.ps) (v:Value) (vs rows:List Value),(∀ b,F b->b < w.heap.size)->w.ownsRow 0 mt.e mt.T.size v l.length rows->(∀ g,v.ownBlock=some g->¬ F g) ->
  yp w F mt.T l rows->(∀ u ∈ rows,u.oneCell'=true)->v.oneCell'=true->wn P w F mt.ps xs vs->qq (mt.ok l xs)->Calls P f (v :: vs).toArray w (zu7 w mt v (mt.f l xs))
def mtK (Γ:Gm) (f:FuncId) (mt:Mt) (_d:Nat) (g:FuncId) (args:List AV) (s:St):Option Tr:=
 if g=f then match args with
  |.c (.own id) :: rest=>match qcc s.mem rest with
   |some (xs,u)=>match qx s.mem u id with
    |some (.arr e t l)=>if h:t=mt.T then if e=mt.e then match qi6 Γ mt.ps xs with
      |some (x,n)=>some (needL (n++mt.ok (kr h l) x) (.leaf (.val (qpw mt.rs (mt.f (kr h l) x).2)) ⟨s.n,s.sl,upd (qx s.mem u) id (.arr mt.e mt.T (mt.f (kr h l) x).1),s.gs⟩))
      |none=>none
     else none else none
    |_=>none
   |none=>none
  |_=>none
 else none
theorem qnx {Γ:Gm} (hΓ:qg7 P Γ) {f:FuncId} {mt:Mt} (h:SoundMt P f mt):qhs P (mtK Γ f mt):=by
 intro d g args s t ht
 unfold mtK at ht
 split at ht<;>try (cases ht; done)
 rename_i hg
 subst hg
 split at ht<;>try (cases ht; done)
 rename_i id rest
 split at ht<;>try (cases ht; done)
 rename_i xs u hrs
 split at ht<;>try (cases ht; done)
 rename_i e ty l hm1
 split at ht<;>try (cases ht; done)
 rename_i hty
 split at ht<;>try (cases ht; done)
 rename_i hee
 split at ht<;>try (cases ht; done)
 rename_i x n hdec
 simp only [Option.some.injEq] at ht
 subst ht
 subst hty
 subst hee
 refine ⟨h.enters,fun E a w F γ vs Q hi hr hq=>?_⟩
 obtain ⟨hn,hqv⟩:=qav _ hq
 obtain ⟨hn1,hn2⟩:=xg.1 hn
 cases vs with
 |nil=>exact hr.elim
 |cons v vs=>
  obtain ⟨⟨hone,hv⟩,hr⟩:=hr
  obtain ⟨F1,s1,m1,_,r1⟩:=ws hi.mem (ke hi) (qa1.of fun _ _ h=>h) hrs hr
  have hps:=qf0 hΓ hdec hn1 r1
  have hv1:v=γ id:=by
   have h2:qn (qx s.mem u) γ id v:=s1.hR id v hv
   simpa [qn,hm1] using h2
  obtain ⟨rows,o1,o2,o3,o4⟩:=m1.ob id _ hm1
  rw [← hv1] at o1 o2
  have hblk:∀ g,v.ownBlock=some g->E.B<=g/\g < w.heap.size:=fun g hg=>o1.lt g hg
  have hc:=h.calls w F1 l x v vs rows s1.bd (qjn o1 (fun _ _=>Nat.zero_le _)) o2 o3 o4 hone hps hn2
  refine hc.mono fun en w2 hp=>?_
  obtain ⟨u2,rows2,rfl,hgr,p1,p2,p3,p4⟩:=hp
  have hkeep:∀ b,b < w.heap.size->v.ownBlock ≠ some b->w2.heap[b]? = w.heap[b]? := fun b hb hne=>hgr.block b hb (fun h=>hne h.symm)
  have hBs:=Step.size' hi
  have hR:∀ i v',qn (qx s.mem u) γ i v'->qn (upd (qx s.mem u) id (.arr mt.e mt.T (mt.f l x).1)) γ i v':=fun i v' hv'=>by
   unfold qn at hv' ⊢
   by_cases hii:i=id
   ·subst hii
    rw [hm1] at hv'
    simpa [upd] using hv'
   ·simpa [upd,hii] using hv'
  have s2:Step E.B w F1 γ (qx s.mem u) w2 F1 γ (upd (qx s.mem u) id (.arr mt.e mt.T (mt.f l x).1)):=
   ⟨fun _ h=>h,fun b hb=>hkeep b (s1.bd b hb) (fun h=>o2 b h hb),hR,fun b hb=>hkeep b (by omega) (fun h=>by have:=(hblk b h).1; omega),
    hgr.os,hgr.tape,hgr.output,hgr.size,fun b hb=>Nat.lt_of_lt_of_le (s1.bd b hb) hgr.size,fun b hb=>.inl hb⟩
  have hex:∀ i o,upd (qx s.mem u) id (.arr mt.e mt.T (mt.f l x).1) i=some o->∃ o0,qx s.mem u i=some o0/\exB o0 (γ i)=exB o (γ i):=fun i o ho=>by
   by_cases hii:i=id
   ·subst hii
    simp only [upd,if_true,Option.some.injEq] at ho
    subst ho
    exact ⟨_,hm1,rfl⟩
   ·simp only [upd,if_neg hii] at ho
    exact ⟨o,ho,rfl⟩
  have m2:MemOK P E.B w2 F1 γ (upd (qx s.mem u) id (.arr mt.e mt.T (mt.f l x).1)):=by
   refine ⟨fun i o ho=>?_,fun i j oi oj b hij hoi hoj hb hb'=>?_⟩
   ·by_cases hii:i=id
    ·subst hii
     simp only [upd,if_true,Option.some.injEq] at ho
     subst ho
     rw [← hv1]
     exact ⟨rows2,qjn p1 (fun g hg=>(hblk g hg).1),o2,p2.flat h.flat,p3⟩
    ·simp only [upd,if_neg hii] at ho
     refine (m1.ob i o ho).keep (fun _ h=>h) (fun b hb=>hkeep b (s1.bd b hb) (fun h=>o2 b h hb)) hR fun b hb=>?_
     obtain ⟨l1,l2,_⟩:=qf3 (m1.ob i o ho) hb
     refine ⟨hkeep b l1 (fun hvb=>?_),l2⟩
     exact m1.apart i id o _ b hii ho hm1 hb (by rw [← hv1]; exact hvb)
   ·obtain ⟨oi0,a1,a2⟩:=hex i oi hoi
    obtain ⟨oj0,b1,b2⟩:=hex j oj hoj
    exact m1.apart i j oi0 oj0 b hij a1 b1 (a2.trans hb) (b2.trans hb')
  have s3:=s1.trans s2
  have hinv:InvG P E ⟨s.n,s.sl,upd (qx s.mem u) id (.arr mt.e mt.T (mt.f l x).1),s.gs⟩ a w2 [] F1 γ:=by
   refine ⟨hi.n,hi.df,?_,m2,fun t=>(hi.sl t).mono s3.hF s3.hw s3.hR,hi.hg,fun t=>s3.repA (hi.gh t)⟩
   obtain ⟨γ0,h0⟩:=hi.step
   exact ⟨γ0,h0.trans s3⟩
  exact ⟨.val (qpw mt.rs (mt.f l x).2),_,F1,γ,hqv,hinv,u2,rfl,qr2 (p4.flat h.flats)⟩
def qwt (n:Nat) (e:TypeId) (T:Ty) (l:List T.den) (args:List AV):St:=
 ⟨n,fun i=>(AV.c (.own (oid 0)) :: args).getD i .dead,fun i=>if i=oid 0 then some (.arr e T l) else none,fun i=>if i=0 then .c (.own (oid 0)) else .dead⟩
def qx3 (P:Program) (rv:List ResultVar) (e:TypeId) (T:Ty) (rs:List Ty) (s:St):Option (Fr (List T.den × qi rs)):=
 match s.gs 0 with
 |.c (.own k)=>match s.mem k with
  |some (.arr e' t l)=>if h:t=T then if e'=e then match qds P s rv with
    |some (vs,n)=>match qcc s.mem vs with
     |some (xs,_)=>match qew rs xs with
      |some y=>some (Fr.needL n (.val (kr h l,y)))
      |none=>none
     |none=>none
    |none=>none
   else none else none
  |_=>none
 |_=>none
def frM (P:Program) (rv:List ResultVar) (e:TypeId) (T:Ty) (rs:List Ty):Tr->Option (Fr (List T.den × qi rs))
 |.leaf .ret s=>qx3 P rv e T rs s
 |.leaf .normal s=>qx3 P rv e T rs s
 |.leaf _ _=>none
 |.br b x y=>match frM P rv e T rs x,frM P rv e T rs y with
  |some x',some y'=>some (.br b x' y')
  |_,_=>none
 |.need p x=>match frM P rv e T rs x with
  |some x'=>some (.need p x')
  |none=>none
 |.two p x y=>match frM P rv e T rs x,frM P rv e T rs y with
  |some x',some y'=>some (.need (p->x'.ok/\x'.get=y'.get) y')
  |_,_=>none
theorem qm3 {rv:List ResultVar} {e:TypeId} {T:Ty} {rs:List Ty}:{t:Tr} -> {f:Fr (List T.den × qi rs)}->frM P rv e T rs t=some f->f.ok->t.sat fun x s=>(x = .ret ∨ x = .normal)/\∃ n,qx3 P rv e T rs s=some (Fr.needL n (.val f.get))/\qq n
 |.leaf x s,f,h,hok=>by
  have key:qx3 P rv e T rs s=some f->∃ n,qx3 P rv e T rs s=some (Fr.needL n (.val f.get))/\qq n:=fun h=>by
   have h0:=h
   unfold qx3 at h
   split at h<;>try (cases h; done)
   split at h<;>try (cases h; done)
   split at h<;>try (cases h; done)
   split at h<;>try (cases h; done)
   split at h<;>try (cases h; done)
   split at h<;>try (cases h; done)
   split at h<;>try (cases h; done)
   simp only [Option.some.injEq] at h
   subst h
   refine ⟨_,?_,(qny _ hok).1⟩
   rw [qln]
   exact h0
  cases x with
  |exit i=>simp [frM] at h
  |panic i=>simp [frM] at h
  |val i=>simp [frM] at h
  |jump i=>simp [frM] at h
  |normal=>exact ⟨.inr rfl,key h⟩
  |ret=>exact ⟨.inl rfl,key h⟩
 |.br b x y,f,h,hok=>by
  simp only [frM] at h
  split at h<;>try (cases h; done)
  rename_i x' y' hx hy
  simp only [Option.some.injEq] at h
  subst h
  refine ⟨fun hb=>?_,fun hb=>?_⟩
  ·have:=qm3 hx (hok.1 hb)
   simpa only [Fr.get,hb,if_true] using this
  ·have:=qm3 hy (hok.2 hb)
   simpa only [Fr.get,hb,Bool.false_eq_true,if_false] using this
 |.need p x,f,h,hok=>by
  simp only [frM] at h
  split at h<;>try (cases h; done)
  rename_i x' hx
  simp only [Option.some.injEq] at h
  subst h
  have:=qm3 hx hok.2
  exact ⟨hok.1,this⟩
 |.two p x y,f,h,hok=>by
  simp only [frM] at h
  split at h<;>try (cases h; done)
  rename_i x' y' hx hy
  simp only [Option.some.injEq] at h
  subst h
  have h2:=qm3 hy hok.2
  refine ⟨fun hp=>?_,h2⟩
  have:=qm3 hx (hok.1 hp).1
  rwa [(hok.1 hp).2] at this
def zg4 (P:Program) (C:Cx) (Λ:Nat->St->Option Tr) (fn:Func) (e:TypeId) (T:Ty) (ps:List PT) (rs:List Ty) (l:List T.den) (xs:qm ps):Option (Fr (List T.den × qi rs)):=
 match fn.body with
 |some c=>if (fn.name == "runtime.NumGoroutine")=false/\ps.length+1<=fn.ntmps then match yy P C 0 Λ c 0 (qwt fn.ntmps e T l (qgv ps xs)) with
   |some t=>frM P fn.results.toList e T rs t
   |none=>none
  else none
 |none=>none
theorem qkf {C:Cx} (hC:CxOK P C) {Λ:Nat->St->Option Tr} {f:FuncId} {fn:Func} {e:TypeId} {T:Ty} {ps:List PT} {rs:List Ty} {fr:List T.den->qm ps->Fr (List T.den × qi rs)} (x0:qm ps)
  (hf:P.funcs[f]? = some fn) (hT:T.flat=true) (hTs:rs.all Ty.flat=true) (hΛ:∀ c E,fn.body=some c->jt P E Λ c 0) (hrun:∀ l xs,zg4 P C Λ fn e T ps rs l xs=some (fr l xs)) :
  SoundMt P f ⟨e,T,ps,rs,fun l xs=>(fr l xs).get,fun l xs=>[(fr l xs).ok]⟩:=by
 have h0:=hrun [] x0
 unfold zg4 at h0
 split at h0<;>try (cases h0; done)
 rename_i c hb
 split at h0<;>try (cases h0; done)
 rename_i hc
 refine ⟨hT,hTs,enters hf hb hc.1,fun w F l xs v vs rows hbd hown hnF hrows hcell hone hr hok=>calls_of_wp hf hb ?_⟩
 have hr':=hrun l xs
 unfold zg4 at hr'
 simp only [hb,hc,and_self,if_true] at hr'
 split at hr'<;>try (cases hr'; done)
 rename_i t ht
 have hlen:vs.length=ps.length:=qio hr
 have hFb:∀ b,F b->(b < w.heap.size/\v.ownBlock ≠ some b):=fun b hb=>⟨hbd b hb,fun h=>hnF b h hb⟩
 have hps:wn P w (fun b=>b < w.heap.size/\v.ownBlock ≠ some b) ps xs vs:=wn.mono hFb (fun _ _=>rfl) hr
 have hargs:∀ R:Nat->Value->Prop,R (oid 0) v->zq P w (fun b=>b < w.heap.size/\v.ownBlock ≠ some b) R (AV.c (.own (oid 0)) :: qgv ps xs) (v :: vs):=fun R hR=>⟨⟨hone,hR⟩,qer hps⟩
 have hstart:I P ⟨w,fun b=>b < w.heap.size/\v.ownBlock ≠ some b,fun _=>v,[],0,Nat.zero_le _⟩ (qwt fn.ntmps e T l (qgv ps xs)) { tmps:=(v :: vs).toArray++Array.replicate (fn.ntmps - (v :: vs).length) undef,defers:=[] } w:=by
  refine ⟨_,fun _=>v,?_,rfl,⟨fun _=>undef,⟨fun _ h=>h,fun _ _=>rfl,fun _ _ h=>h.elim,fun b hb=>absurd hb (Nat.not_lt_zero b),rfl,rfl,rfl,Nat.le_refl _,fun b hb=>hb.1,fun b hb=>.inl hb⟩⟩,⟨fun id o ho=>?_,fun i j oi oj b hij hi hj=>?_⟩,fun t=>?_,fun t g want v ht=>?_,fun t=>?_⟩
  ·show _=fn.ntmps
   simp only [Array.size_append,List.size_toArray,Array.size_replicate,List.length_cons]
   omega
  ·have ho':(if id=oid 0 then some (Ob.arr e T l) else none)=some o:=ho
   split at ho'
   ·simp only [Option.some.injEq] at ho'
    subst ho'
    exact ⟨rows,hown,fun g hg h=>h.2 hg,hrows.flat hT,hcell⟩
   ·cases ho'
  ·have hi':(if i=oid 0 then some (Ob.arr e T l) else none)=some oi:=hi
   have hj':(if j=oid 0 then some (Ob.arr e T l) else none)=some oj:=hj
   split at hi'
   ·split at hj'
    ·rename_i h1 h2
     exact absurd (h1.trans h2.symm) hij
    ·cases hj'
   ·cases hi'
  ·have hg:((v :: vs).toArray++Array.replicate (fn.ntmps - (v :: vs).length) undef).getD t undef=(v :: vs).getD t undef:=by
    simp only [Array.getD_eq_getD_getElem?,List.getD_eq_getElem?_getD]
    rcases Nat.lt_or_ge t (v :: vs).length with hlt | hge
    ·rw [Array.getElem?_append_left (by simpa using hlt)]
     simp
    ·rw [Array.getElem?_append_right (by simpa using hge),List.getElem?_eq_none hge]
     simp only [Array.getElem?_replicate]
     split<;>rfl
   show vr P w _ _ _ ((AV.c (.own (oid 0)) :: qgv ps xs).getD t .dead) (((v :: vs).toArray++Array.replicate (fn.ntmps - (v :: vs).length) undef).getD t undef)
   rw [hg]
   exact qlt (qic (hargs _ (by simp [qn,qwt])) t)
  ·exfalso
   have:=qic (hargs (fun _ _=>True) trivial) t
   have ht':(AV.c (.own (oid 0)) :: qgv ps xs).getD t .dead = .maybe g want v:=ht
   rw [ht'] at this
   exact this
  ·show qy P w _ _ (if t=0 then .c (.own (oid 0)) else .dead) v
   split
   ·exact ⟨hone,by simp [zn,qn,qwt]⟩
   ·trivial
 have hwp:=yv hC c 0 (hΛ c _ hb) ht (qm3 hr' hok) hstart
 have hsz:((v :: vs).toArray).size=(v :: vs).length:=by simp
 rw [hsz]
 refine wp_mono hwp ?_
 rintro ex a' w' ⟨xe,s,rfl,⟨F',γ',hi⟩,hxe,n,hend,hnn⟩
 have hfin:a'.defers=[]/\∃ u,(results fn a'.tmps).run P w' = .ok u w'/\zu7 w ⟨e,T,ps,rs,fun l xs=>(fr l xs).get,fun l xs=>[(fr l xs).ok]⟩ v (fr l xs).get (.returned u) w':=by
  unfold qx3 at hend
  split at hend<;>try (cases hend; done)
  rename_i k hgs
  split at hend<;>try (cases hend; done)
  rename_i e' t' l' hmk
  split at hend<;>try (cases hend; done)
  rename_i hty
  split at hend<;>try (cases hend; done)
  rename_i hee
  split at hend<;>try (cases hend; done)
  rename_i avs n' hres
  split at hend<;>try (cases hend; done)
  rename_i axs u hrs
  split at hend<;>try (cases hend; done)
  rename_i y hdec
  simp only [Option.some.injEq] at hend
  obtain ⟨hn',hy⟩:=qlo hend hnn
  subst hty
  subst hee
  obtain ⟨us,hran,hreps⟩:=qip hi hres hn'
  obtain ⟨F'',hs,hm',_,hxs⟩:=ws hi.mem (ke hi) (qa1.of fun _ _ h=>h) hrs hreps
  obtain ⟨γ0,h1⟩:=hi.step
  have hgv:v=γ' k:=by
   have h2:=hi.gh 0
   rw [hgs] at h2
   have h3:qn s.mem γ' k v:=h2.2
   simpa [qn,hmk] using h3
  obtain ⟨rows2,q1,q2,q3,q4⟩:=hi.mem.ob k _ hmk
  rw [← hgv] at q1
  refine ⟨hi.df,_,qdy hran,_,rows2,rfl,⟨h1.os,h1.tape,h1.output,h1.size,fun b hb hne=>h1.hw b ⟨hb,fun h=>hne h.symm⟩⟩,?_,?_,q4,?_⟩
  ·rw [← hy]
   exact q1
  ·rw [← hy]
   exact q3.flat hT
  ·rw [← hy]
   exact (qrc (qdp hdec hxs)).flat hTs
 rcases hxe with rfl | rfl
 ·exact hfin
 ·exact hfin
theorem ydr {t:Ty} {l:List t.den} {xs:List Value} (h:yp w F t l xs):∀ x ∈ l,Wf t x:=fun x hx=>by
 obtain ⟨i,hi,rfl⟩:=List.mem_iff_getElem.1 hx
 exact qs.wf (h i _ (List.getElem?_eq_getElem hi))
theorem zn6 {e:TypeId} {size n:Nat} {v:Value} {xs:List Value} (h:w.ownsRow B e size v n xs):n<=maxLen:=by
 rcases h.2 with ⟨_,rfl⟩ | ⟨g,cap,cur,_,_,_,h1,h2,_⟩
 ·exact Nat.zero_le _
 ·exact Nat.le_trans h1 h2
theorem qqx {f:FuncId} {mt:Mt} (h:SoundMt P f mt) (g:List mt.T.den->qm mt.ps->List mt.T.den × qi mt.rs) (ok:List mt.T.den->qm mt.ps->List Prop)
  (hg:∀ w F l xs vs,wn P w F mt.ps xs vs->l.length<=maxLen->(∀ x ∈ l,Wf mt.T x)->qq (ok l xs)->qq (mt.ok l xs)/\mt.f l xs=g l xs):SoundMt P f ⟨mt.e,mt.T,mt.ps,mt.rs,g,ok⟩:=by
 refine ⟨h.flat,h.flats,h.enters,fun w F l xs v vs rows hb ho hn hr hc h1 hp hok=>?_⟩
 obtain ⟨h2,h3⟩:=hg w F l xs vs hp (zn6 ho) (ydr hr) hok
 have:=h.calls w F l xs v vs rows hb ho hn hr hc h1 hp h2
 rw [h3] at this
 exact this
end
end Go.Ab

namespace Go.Ab
open Go Go.RowKit
def goL {T σ ρ:Type} (step:T->σ->Fr (σ ⊕ ρ)):List T->σ->σ ⊕ ρ
 |[],s=>.inl s
 |x :: r,s=>match (step x s).get with
  |.inl s'=>goL step r s'
  |.inr y=>.inr y
def okL {T σ ρ:Type} (step:T->σ->Fr (σ ⊕ ρ)):List T->σ->Prop
 |[],_=>True
 |x :: r,s=>(step x s).ok/\match (step x s).get with
  |.inl s'=>okL step r s'
  |.inr _=>True
def goF {T σ:Type} (step:T->σ->Fr σ):List T->σ->σ
 |[],s=>s
 |x :: r,s=>goF step r (step x s).get
def okF {T σ:Type} (step:T->σ->Fr σ):List T->σ->Prop
 |[],_=>True
 |x :: r,s=>(step x s).ok/\okF step r (step x s).get
def isL {σ ρ:Type}:σ ⊕ ρ->Bool
 |.inl _=>true
 |.inr _=>false
def qak {σ ρ:Type} (d:σ):σ ⊕ ρ->σ
 |.inl s=>s
 |.inr _=>d
def jg {σ ρ:Type} (d:ρ):σ ⊕ ρ->ρ
 |.inl _=>d
 |.inr y=>y
def Rd.up {X Y Z:Type}:Rd Empty Y Z->Rd X Y Z
 |.next x=>nomatch x
 |.out y=>.out y
 |.back z=>.back z
 |.pan p=>.pan p
def dfL:(ts:List Ty)->qi ts
 |[]=>()
 |t :: r=>(t.dflt,dfL r)
def dfP:(ps:List PT)->qm ps
 |[]=>()
 |.d t :: r=>(t.dflt,dfP r)
 |.ptr t :: r=>(t.dflt,dfP r)
 |.fn _ rs :: r=>(fun _=>dfL rs,dfP r)
 |.pf _ rs :: r=>((fun _=>dfL rs,fun _=>False),dfP r)
 |.pfn _ rs :: r=>(fun _=>dfL rs,dfP r)
 |.pk _ :: r=>((),dfP r)
def dfY:(fs:List YF)->ql4 fs
 |[]=>()
 |(some _,_) :: r=>([],dfY r)
 |(none,t) :: r=>(t.dflt,dfY r)
def dfM:(ms:List MI)->jc ms
 |[]=>()
 |.o _ _ _ :: r=>([],dfM r)
 |.x _ _ ty :: r=>(ty.dflt,dfM r)
 |.r _ _ _ :: r=>dfM (r)
 |.y _ _ fs :: r=>(dfY fs,dfM r)
 |.g _ _ _ :: r=>dfM (r)
 |.al _ _ :: r=>dfM (r)
section
variable {P:Program} {c:Code} {L Eo R:LS} {n id:Nat} {T σ ρ:Type}
structure InL (good:Prop) (u:Int × List T × σ):Prop where
 good:good
 lo:0<=u.1
 hi:u.1<=u.2.1.length
 big:(u.2.1.length:Int)<=9223372036854775807
def FL (step:T->σ->Fr (σ ⊕ ρ)) (un:L.X->Int × List T × σ) (good:L.X->Prop) (qji:σ->Eo.X) (outR:ρ->Rd Empty Eo.X R.X) (d:σ) (d2:ρ) (x:L.X):Fr (Rd L.X Eo.X R.X):=
 Fr.need (InL (good x) (un x)) (Fr.need (okL step ((un x).2.1.drop (un x).1.toNat) (un x).2.2)
  (Fr.br (isL (goL step ((un x).2.1.drop (un x).1.toNat) (un x).2.2)) (Fr.val (Rd.out (qji (qak d (goL step ((un x).2.1.drop (un x).1.toNat) (un x).2.2)))))
   (Fr.val (Rd.up (outR (jg d2 (goL step ((un x).2.1.drop (un x).1.toNat) (un x).2.2)))))))
theorem qe.list {fr:L.X->Fr (Rd L.X Eo.X R.X)} (h:qe P c L ⟨n,id,L,Eo,R⟩ fr) (step:T->σ->Fr (σ ⊕ ρ)) (un:L.X->Int × List T × σ) (good:L.X->Prop) (qji:σ->Eo.X) (outR:ρ->Rd Empty Eo.X R.X) (d:σ) (d2:ρ)
  (hround:∀ x,good x->0<=(un x).1->(un x).1 < (un x).2.1.length->((un x).2.1.length:Int)<=9223372036854775807->∀ e,(un x).2.1[(un x).1.toNat]? = some e->∀ Q:Rd L.X Eo.X R.X->Prop,
   (step e (un x).2.2).satP (fun
    |.inl s'=>∀ x',un x'=((un x).1+1,(un x).2.1,s')->good x'->Q (.next x')
    |.inr y=>Q (Rd.up (outR y)))->(fr x).satP Q)
  (hend:∀ x,good x->¬ (un x).1 < (un x).2.1.length->∀ Q:Rd L.X Eo.X R.X->Prop,Q (.out (qji (un x).2.2))->(fr x).satP Q) :
  qe P (.loop c) L ⟨n,id,L,Eo,R⟩ (FL step un good qji outR d d2):=by
 refine qe.loop (n:=n) (id:=id) h (inv:=fun x=>InL (good x) (un x)) (μ:=fun x=>(((un x).2.1.length:Int) - (un x).1).toNat) ?_ (fun x Q hq=>hq.1)
 intro x hx Q hq
 obtain ⟨_,hok,hq1,hq2⟩:=hq
 by_cases hi:(un x).1 < (un x).2.1.length
 ·have hlo:=hx.lo
  have hbig:=hx.big
  have hl:(un x).1.toNat < (un x).2.1.length:=by omega
  have e1:(un x).2.1.drop (un x).1.toNat=(un x).2.1[(un x).1.toNat] :: (un x).2.1.drop ((un x).1.toNat+1):=List.drop_eq_getElem_cons hl
  have hn:((un x).1+1).toNat=(un x).1.toNat+1:=by omega
  rw [e1] at hok hq1 hq2
  generalize he:(un x).2.1[(un x).1.toNat]=e at hok hq1 hq2
  have he':(un x).2.1[(un x).1.toNat]? = some e:=by rw [List.getElem?_eq_getElem hl,he]
  refine hround x hx.good hlo hi hbig e he' _ (Fr.satP_of hok.1 ?_)
  have hok2:=hok.2
  simp only [goL] at hq1 hq2
  cases hg:(step e (un x).2.2).get with
  |inl s'=>
   simp only [hg] at hok2 hq1 hq2
   intro x' hun hgd
   have e2:(un x').1=(un x).1+1:=by rw [hun]
   have e3:(un x').2.1=(un x).2.1:=by rw [hun]
   have e4:(un x').2.2=s':=by rw [hun]
   have hin:InL (good x') (un x'):=⟨hgd,by rw [e2]; omega,by rw [e2,e3]; omega,by rw [e3]; exact hbig⟩
   refine ⟨hin,by rw [e2,e3]; omega,hin,?_,?_,?_⟩
   ·rw [e2,e3,e4,hn]; exact hok2
   ·rw [e2,e3,e4,hn]; exact hq1
   ·rw [e2,e3,e4,hn]; exact hq2
  |inr y=>
   simp only [hg] at hq1 hq2
   have:=hq2 rfl
   simp only [jg] at this
   cases ho:outR y with
   |next x=>exact nomatch x
   |out y2=>rw [ho] at this; simp only [ho,Rd.up]; exact this
   |back z=>rw [ho] at this; simp only [ho,Rd.up]; exact this
   |pan p=>rw [ho] at this; simp only [ho,Rd.up]; exact this
 ·have hl:(un x).2.1.drop (un x).1.toNat=[]:=List.drop_eq_nil_of_le (by have:=hx.lo; omega)
  rw [hl] at hq1
  exact hend x hx.good hi _ (hq1 rfl)
def FF (step:T->σ->Fr σ) (un:L.X->Int × List T × σ) (good:L.X->Prop) (qji:σ->Eo.X) (x:L.X):Fr (Rd L.X Eo.X R.X):=
 Fr.need (InL (good x) (un x)) (Fr.need (okF step ((un x).2.1.drop (un x).1.toNat) (un x).2.2)
  (Fr.val (Rd.out (qji (goF step ((un x).2.1.drop (un x).1.toNat) (un x).2.2)))))
theorem qe.fold {fr:L.X->Fr (Rd L.X Eo.X R.X)} (h:qe P c L ⟨n,id,L,Eo,R⟩ fr) (step:T->σ->Fr σ) (un:L.X->Int × List T × σ) (good:L.X->Prop) (qji:σ->Eo.X)
  (hround:∀ x,good x->0<=(un x).1->(un x).1 < (un x).2.1.length->((un x).2.1.length:Int)<=9223372036854775807->∀ e,(un x).2.1[(un x).1.toNat]? = some e->∀ Q:Rd L.X Eo.X R.X->Prop,
   (step e (un x).2.2).satP (fun s'=>∀ x',un x'=((un x).1+1,(un x).2.1,s')->good x'->Q (.next x'))->(fr x).satP Q)
  (hend:∀ x,good x->¬ (un x).1 < (un x).2.1.length->∀ Q:Rd L.X Eo.X R.X->Prop,Q (.out (qji (un x).2.2))->(fr x).satP Q) :
  qe P (.loop c) L ⟨n,id,L,Eo,R⟩ (FF step un good qji):=by
 refine qe.loop (n:=n) (id:=id) h (inv:=fun x=>InL (good x) (un x)) (μ:=fun x=>(((un x).2.1.length:Int) - (un x).1).toNat) ?_ (fun x Q hq=>hq.1)
 intro x hx Q hq
 obtain ⟨_,hok,hq1⟩:=hq
 by_cases hi:(un x).1 < (un x).2.1.length
 ·have hlo:=hx.lo
  have hbig:=hx.big
  have hl:(un x).1.toNat < (un x).2.1.length:=by omega
  have e1:(un x).2.1.drop (un x).1.toNat=(un x).2.1[(un x).1.toNat] :: (un x).2.1.drop ((un x).1.toNat+1):=List.drop_eq_getElem_cons hl
  have hn:((un x).1+1).toNat=(un x).1.toNat+1:=by omega
  rw [e1] at hok hq1
  generalize he:(un x).2.1[(un x).1.toNat]=e at hok hq1
  have he':(un x).2.1[(un x).1.toNat]? = some e:=by rw [List.getElem?_eq_getElem hl,he]
  refine hround x hx.good hlo hi hbig e he' _ (Fr.satP_of hok.1 ?_)
  intro x' hun hgd
  have e2:(un x').1=(un x).1+1:=by rw [hun]
  have e3:(un x').2.1=(un x).2.1:=by rw [hun]
  have e4:(un x').2.2=(step e (un x).2.2).get:=by rw [hun]
  have hin:InL (good x') (un x'):=⟨hgd,by rw [e2]; omega,by rw [e2,e3]; omega,by rw [e3]; exact hbig⟩
  refine ⟨hin,by rw [e2,e3]; omega,hin,?_,?_⟩
  ·rw [e2,e3,e4,hn]; exact hok.2
  ·rw [e2,e3,e4,hn]; exact hq1
 ·have hl:(un x).2.1.drop (un x).1.toNat=[]:=List.drop_eq_nil_of_le (by have:=hx.lo; omega)
  rw [hl] at hq1
  exact hend x hx.good hi _ hq1
theorem qe9 {step:T->σ->Fr (σ ⊕ ρ)} (h:∀ e s,(step e s).ok):(l:List T)->(s:σ)->okL step l s
 |[],_=>trivial
 |e :: r,s=>by
  refine ⟨h e s,?_⟩
  split
  ·exact qe9 h r _
  ·trivial
theorem zej {step:T->σ->Fr (σ ⊕ ρ)} {c d:ρ} (h:∀ e s y,(step e s).get = .inr y->y=c):(l:List T)->(s:σ)->isL (goL step l s)=false->jg d (goL step l s)=c
 |[],_,hh=>by cases hh
 |e :: r,s,hh=>by
  simp only [goL] at hh ⊢
  cases hg:(step e s).get with
  |inl s'=>
   simp only [hg] at hh ⊢
   exact zej h r s' hh
  |inr y=>exact h e s y hg
theorem qhq {A B:Type} {l:List A} {l2:List B} (hz:l.length=l2.length) {i:Int} (h:i < ((l.zip l2).length:Int)):i < (l.length:Int):=by
 simp only [List.length_zip] at h
 omega
theorem qfj {A B:Type} {l:List A} {l2:List B} (hz:l.length=l2.length) {i:Int} (h:¬ i < ((l.zip l2).length:Int)):¬ i < (l.length:Int):=by
 simp only [List.length_zip] at h
 omega
theorem qhp {A B:Type} {l:List A} {l2:List B} (hz:l.length=l2.length) {b:Int} (h:((l.zip l2).length:Int)<=b):(l.length:Int)<=b:=by
 simp only [List.length_zip] at h
 omega
theorem qfi {A B:Type} {l:List A} {l2:List B} {i:Nat} {e:A × B} (h:(l.zip l2)[i]? = some e):l[i]? = some e.1:=by
 rw [List.getElem?_zip_eq_some] at h
 exact h.1
theorem qfk {A B:Type} {l:List A} {l2:List B} {i:Nat} {e:A × B} (h:(l.zip l2)[i]? = some e):l2[i]? = some e.2:=by
 rw [List.getElem?_zip_eq_some] at h
 exact h.2
theorem zr {T:Type} {l:List T} {i:Nat} {e d:T} (h:l[i]? = some e):l.getD i d=e:=by
 rw [List.getD_eq_getElem?_getD,h]
 rfl
theorem zx {i:Int} {n:Nat} (h0:0<=i) (h1:i < n) (h2:(n:Int)<=9223372036854775807):IntKind.i64.wrap (i+1)=i+1:=IntWalk.i64_in _ (by omega)
theorem zew {i:Int} {n:Nat} (h0:0<=i) (h1:i < n) (h2:(n:Int)<=9223372036854775807):IntKind.i64.wrap (i - 1)=i - 1:=IntWalk.i64_in _ (by omega)
theorem zli {T:Type} {l:List T} {i:Int} {e d:T} (h:l.getD i.toNat d=e):l.getD (i+1 - 1).toNat d=e:=by
 rw [show i+1 - 1=i by omega]
 exact h
theorem zpw {i:Int} {n:Nat} {b:Bool} (h1:i < n) (hb:b=decide (i > 0)) (h:b=true):0<=i - 1/\i - 1 < n:=by
 rw [hb] at h
 have:=of_decide_eq_true h
 omega
end
end Go.Ab

namespace Go.Ab
open Go Go.RowKit
section
variable {P:Program} {c:Code} {L Eo R:LS} {n id:Nat} {T σ ρ:Type}
end
end Go.Ab
namespace Go.Proofs.YtgieagiaagoogaaGreat
open Go Go.Ab Go.RowKit Go.Proofs
noncomputable def CH0:Cx:=cx [(95,xr),(104,xr)] []
theorem qqg:CxOK Tryz.prog CH0:=zb qv ⟨zt6,qu8,trivial⟩ trivial
def qsd (x:qm [.d jj]):Fr (qi [.bool]):=
 Fr.val (bif bif bif bif bif bif decide (x.1.1 ≥ 0) then decide (x.1.1 < 4) else false then bif decide (x.1.2.1 ≥ 1) then decide (x.1.2.1<=1000000000000000) else false else false then decide (x.1.2.2.1 ≥ 0) else false then decide (x.1.2.2.1<=200) else false then decide (x.1.2.2.2.1 ≥ 0) else false then decide (x.1.2.2.2.1 < 100) else false,())
theorem znl:qa Tryz.prog 141 ⟨[.d jj],[.bool],fun xs=>(qsd xs).get,fun xs=>[(qsd xs).ok]⟩:=
 qg qqg (Λ:=qp) (fn:=Tryz.f141) (dfP [.d jj]) (by kernel_rfl) (fun c E _=>qd c 0) (fun x=>by kernel_rfl)
def qo0 (x:qm [.d jj]):Fr (qi [.bool]):=
 Fr.br (bif bif bif decide (x.1.1 < 0) then true else decide (x.1.1 > 3) then true else decide (x.1.2.1 < 1) then true else decide (x.1.2.1 > 1000000000000000)) (Fr.val (false,())) (Fr.val (bif bif bif decide (x.1.2.2.1 ≥ 0) then decide (x.1.2.2.1<=200) else false then decide (x.1.2.2.2.1 ≥ 0) else false then decide (x.1.2.2.2.1<=99) else false,()))
theorem zkc:qa Tryz.prog 165 ⟨[.d jj],[.bool],fun xs=>(qo0 xs).get,fun xs=>[(qo0 xs).ok]⟩:=
 qg qqg (Λ:=qp) (fn:=Tryz.f165) (dfP [.d jj]) (by kernel_rfl) (fun c E _=>qd c 0) (fun x=>by kernel_rfl)
def qmk (x:qm [.d qb]):Fr (qi [.bool]):=
 Fr.br (bif bif bif decide (x.1.1 < 0) then true else decide (x.1.1 > 7) then true else decide (x.1.2.2.2.2.1 < 1) then true else decide (x.1.2.2.2.2.1 > 10000)) (Fr.val (false,())) (Fr.val (bif bif bif decide (x.1.2.2.2.1 ≥ 0) then decide (x.1.2.2.2.1 < x.1.2.1) else false then decide (x.1.2.1<=x.1.2.2.1) else false then decide (x.1.2.2.1<=1000000000000000) else false,()))
theorem zfs:qa Tryz.prog 195 ⟨[.d qb],[.bool],fun xs=>(qmk xs).get,fun xs=>[(qmk xs).ok]⟩:=
 qg qqg (Λ:=qp) (fn:=Tryz.f195) (dfP [.d qb]) (by kernel_rfl) (fun c E _=>qd c 0) (fun x=>by kernel_rfl)
def qwh (x:qm [.d i64]):Fr (qi [.bool]):=
 Fr.val (bif decide (x.1 ≥ 1) then decide (x.1<=292194) else false,())
theorem zsl:qa Tryz.prog 145 ⟨[.d i64],[.bool],fun xs=>(qwh xs).get,fun xs=>[(qwh xs).ok]⟩:=
 qg qqg (Λ:=qp) (fn:=Tryz.f145) (dfP [.d i64]) (by kernel_rfl) (fun c E _=>qd c 0) (fun x=>by kernel_rfl)
def qz5 (x:qm [.d zw,.d i64]):Fr (qi [.bool]):=
 Fr.val (bif bif (xr.f ((x.1.1,x.1.2.1,()),())).1 then decide (x.1.1<=x.2.1) else false then decide (x.2.1 < x.1.2.1) else false,())
theorem zwy:qa Tryz.prog 168 ⟨[.d zw,.d i64],[.bool],fun xs=>(qz5 xs).get,fun xs=>[(qz5 xs).ok]⟩:=
 qg qqg (Λ:=qp) (fn:=Tryz.f168) (dfP [.d zw,.d i64]) (by kernel_rfl) (fun c E _=>qd c 0) (fun x=>by kernel_rfl)
def zcp (x:qm [.d zw]):Fr (qi [zw]):=
 Fr.br (bif !(xr.f ((x.1.1,x.1.2.1,()),())).1 then true else x.1.1==x.1.2.1) (Fr.val ((0,0,()),())) (Fr.val ((x.1.1,x.1.2.1,()),()))
theorem zsm:qa Tryz.prog 69 ⟨[.d zw],[zw],fun xs=>(zcp xs).get,fun xs=>[(zcp xs).ok]⟩:=
 qg qqg (Λ:=qp) (fn:=Tryz.f69) (dfP [.d zw]) (by kernel_rfl) (fun c E _=>qd c 0) (fun x=>by kernel_rfl)
theorem zxe (b v:Bool):(if b=true then ((false,()):Bool × Unit) else (v,()))=(!b&&v,()):=by cases b<;>rfl
def qhz (k v a z:Int):Bool:=decide (0<=k/\k < 4/\1<=v/\v<=1000000000000000/\0<=a/\a<=200/\0<=z/\z < 100)
def qht:Ct:=⟨[.d jj],[.bool],fun x=>(qhz x.1.1 x.1.2.1 x.1.2.2.1 x.1.2.2.2.1,()),fun _=>[]⟩
theorem zc8:qa Tryz.prog 141 qht:=
 conv znl _ _ (fun _ _ x _ _ _=>by
  obtain ⟨⟨k,v,a,z,_⟩,_⟩:=x
  refine ⟨by simp [qq,Fr.ok,qsd],?_⟩
  dsimp only [qsd,Fr.get,qhz,Ty.den,PT.den]
  simp only [Bool.cond_true_left,Bool.cond_false_right]
  congr 1
  rw [Bool.eq_iff_iff]
  simp only [Bool.and_eq_true,Bool.or_eq_true,decide_eq_true_eq]
  omega)
theorem ydn:qa Tryz.prog 165 qht:=
 conv zkc _ _ (fun _ _ x _ _ _=>by
  obtain ⟨⟨k,v,a,z,_⟩,_⟩:=x
  refine ⟨by simp [qq,Fr.ok,qo0],?_⟩
  dsimp only [qo0,Fr.get,qhz,Ty.den,PT.den]
  simp only [zxe,Bool.cond_true_left,Bool.cond_false_right]
  congr 1
  rw [Bool.eq_iff_iff]
  simp only [Bool.and_eq_true,Bool.not_eq_true',Bool.or_eq_false_iff,decide_eq_true_eq,decide_eq_false_iff_not]
  omega)
def qhf (p l g d s:Int):Bool:=decide (0<=p/\p < 8/\1<=s/\s<=10000/\0<=d/\d < l/\l<=g/\g<=1000000000000000)
def qfy:Ct:=⟨[.d qb],[.bool],fun x=>(qhf x.1.1 x.1.2.1 x.1.2.2.1 x.1.2.2.2.1 x.1.2.2.2.2.1,()),fun _=>[]⟩
theorem zv2:qa Tryz.prog 195 qfy:=
 conv zfs _ _ (fun _ _ x _ _ _=>by
  obtain ⟨⟨p,l,g,d,s,_⟩,_⟩:=x
  refine ⟨by simp [qq,Fr.ok,qmk],?_⟩
  dsimp only [qmk,Fr.get,qhf,Ty.den,PT.den]
  simp only [zxe,Bool.cond_true_left,Bool.cond_false_right]
  congr 1
  rw [Bool.eq_iff_iff]
  simp only [Bool.and_eq_true,Bool.not_eq_true',Bool.or_eq_false_iff,decide_eq_true_eq,decide_eq_false_iff_not]
  omega)
def qc1 (d:Int):Bool:=decide (1<=d/\d<=292194)
def qxu:Ct:=⟨[.d i64],[.bool],fun x=>(qc1 x.1,()),fun _=>[]⟩
theorem zv6:qa Tryz.prog 145 qxu:=
 conv zsl _ _ (fun _ _ x _ _ _=>by
  obtain ⟨d,_⟩:=x
  refine ⟨by simp [qq,Fr.ok,qwh],?_⟩
  dsimp only [qwh,Fr.get,qc1,Ty.den,PT.den]
  simp only [Bool.cond_false_right]
  congr 1
  rw [Bool.eq_iff_iff]
  simp only [Bool.and_eq_true,decide_eq_true_eq,ge_iff_le])
def inB (a b d:Int):Bool:=decide (1<=a/\b<=292195/\a<=d/\d < b)
def cIn:Ct:=⟨[.d zw,.d i64],[.bool],fun x=>(inB x.1.1 x.1.2.1 x.2.1,()),fun _=>[]⟩
theorem zw8:qa Tryz.prog 168 cIn:=
 conv zwy _ _ (fun _ _ x _ _ _=>by
  obtain ⟨⟨a,b,_⟩,d,_⟩:=x
  refine ⟨by simp [qq,Fr.ok,qz5],?_⟩
  dsimp only [qz5,Fr.get,inB,xr,qdt,Ty.den,PT.den]
  simp only [Bool.cond_true_left,Bool.cond_false_right]
  congr 1
  rw [Bool.eq_iff_iff]
  simp only [Bool.and_eq_true,decide_eq_true_eq]
  omega)
def qsj (s:zw.den):zw.den:=if wd s=true then s else (0,0,())
def qv4:Ct:=⟨[.d zw],[zw],fun x=>(qsj x.1,()),fun _=>[]⟩
theorem ym3 (a b:Int):((¬a ≥ 1 ∨ ¬a<=b ∨ ¬b<=292195) ∨ a=b)↔(¬a ≥ 1 ∨ ¬a < b ∨ ¬b<=292195):=by omega
theorem ym2 (a b:Int):(bif !(qdt (a,b,())) then true else a==b) = !(wd (a,b,())):=by
 dsimp only [qdt,wd,Ty.den,PT.den]
 simp only [Bool.cond_true_left]
 rw [Bool.eq_iff_iff]
 simp only [Bool.and_eq_true,Bool.or_eq_true,Bool.not_eq_true',Bool.and_eq_false_iff,decide_eq_true_eq,decide_eq_false_iff_not,beq_iff_eq]
 exact ym3 a b
theorem yij:qa Tryz.prog 69 qv4:=
 conv zsm _ _ (fun _ _ x _ _ _=>by
  obtain ⟨⟨a,b,_⟩,_⟩:=x
  refine ⟨by simp [qq,Fr.ok,zcp],?_⟩
  show (if (bif !(qdt (a,b,())) then true else a==b)=true then (((0,0,()),()):zw.den × Unit) else ((a,b,()),()))=(if wd (a,b,())=true then (a,b,()) else (0,0,()),())
  rw [ym2]
  cases wd (a,b,())<;>rfl)
noncomputable def CH1:Cx:=cx [(69,qv4)] []
theorem zu3:CxOK Tryz.prog CH1:=zb qv ⟨yij,trivial⟩ trivial
end Go.Proofs.YtgieagiaagoogaaGreat
namespace Go.Ab
variable {α:Type} {key:α->Int}
def yi (key:α->Int) (l:List α):Prop:=l.Pairwise fun x y=>key x<=key y
def zc (key:α->Int) (l s:List α):Prop:=∀ k,s.filter (fun x=>key x==k)=l.filter (fun x=>key x==k)
theorem zc.refl (l:List α):zc key l l:=fun _=>rfl
theorem zc.trans {a b c:List α} (h:zc key a b) (k:zc key b c):zc key a c:=fun n=>(k n).trans (h n)
theorem zc.symm {a b:List α} (h:zc key a b):zc key b a:=fun n=>(h n).symm
theorem zc.app {a b c d:List α} (h:zc key a b) (k:zc key c d):zc key (a++c) (b++d):=fun n=>by simp [h n,k n]
theorem zc.mem {l s:List α} (h:zc key l s) {x:α}:x ∈ s↔x ∈ l:=by
 have:=congrArg (x ∈ ·) (h (key x))
 simpa [List.mem_filter] using this
theorem zc.swap {a b:List α} (h:∀ x ∈ a,∀ y ∈ b,key x ≠ key y):zc key (a++b) (b++a):=fun n=>by
 simp only [List.filter_append]
 by_cases ha:∃ x ∈ a,key x=n
 ·obtain ⟨x,hx,hk⟩:=ha
  have hb:b.filter (fun x=>key x==n)=[]:=by
   rw [List.filter_eq_nil_iff]
   intro y hy
   have:=h x hx y hy
   simp
   omega
  rw [hb]
  simp
 ·have ha':a.filter (fun x=>key x==n)=[]:=by
   rw [List.filter_eq_nil_iff]
   intro y hy hk
   exact ha ⟨y,hy,by simpa using hk⟩
  rw [ha']
  simp
theorem zc.eq:{s t:List α}->yi key s->yi key t->zc key s t->s=t
 |[],t,_,_,h=>by
  cases t with
  |nil=>rfl
  |cons y t=>have:=(h.mem (x:=y)).1 (by simp); simp at this
 |x :: s,[],_,_,h=>by have:=(h.mem (x:=x)).2 (by simp); simp at this
 |x :: s,y :: t,hs,ht,h=>by
  have hs':=List.pairwise_cons.1 hs
  have ht':=List.pairwise_cons.1 ht
  have hxy:key x<=key y:=by
   rcases List.mem_cons.1 ((h.mem (x:=y)).1 (by simp)) with e | e
   ·exact Int.le_of_eq (by rw [e])
   ·exact hs'.1 y e
  have hyx:key y<=key x:=by
   rcases List.mem_cons.1 ((h.mem (x:=x)).2 (by simp)) with e | e
   ·exact Int.le_of_eq (by rw [e])
   ·exact ht'.1 x e
  have hk:key x=key y:=by omega
  have h0:=h (key x)
  simp only [List.filter_cons,hk,beq_self_eq_true,if_true,List.cons.injEq] at h0
  obtain ⟨rfl,h0⟩:=h0
  have:s=t:=zc.eq hs'.2 ht'.2 fun n=>by
   have:=h n
   simp only [List.filter_cons] at this
   split at this
   ·simpa using this
   ·exact this
  rw [this]
def qus (lt:α->α->Bool) (x:α):List α->List α
 |[]=>[x]
 |y :: r=>if lt y x then y :: qus lt x r else x :: y :: r
def jk (lt:α->α->Bool):List α->List α
 |[]=>[]
 |x :: r=>qus lt x (jk lt r)
theorem zem {lt:α->α->Bool} {x:α}:(l:List α)->(qus lt x l).Perm (x :: l)
 |[]=>List.Perm.refl _
 |y :: r=>by
  simp only [qus]
  split
  ·exact (List.Perm.cons y (zem r)).trans (List.Perm.swap x y r)
  ·exact List.Perm.refl _
theorem qs8 {lt:α->α->Bool}:(l:List α)->(jk lt l).Perm l
 |[]=>List.Perm.refl _
 |x :: r=>(zem _).trans (List.Perm.cons x (qs8 r))
theorem qam {lt:α->α->Bool} (l:List α):(jk lt l).length=l.length:=(qs8 l).length_eq
theorem qpi {lt:α->α->Bool} {l:List α} {x:α}:x ∈ jk lt l↔x ∈ l:=(qs8 l).mem_iff
def LtK (lt:α->α->Bool) (key:α->Int) (l:List α):Prop:=∀ x ∈ l,∀ y ∈ l,lt x y=decide (key x < key y)
theorem LtK.sub {lt:α->α->Bool} {l s:List α} (h:LtK lt key l) (hs:∀ x ∈ s,x ∈ l):LtK lt key s:=fun x hx y hy=>h x (hs x hx) y (hs y hy)
theorem zen {lt:α->α->Bool} {x:α}:{l:List α}->LtK lt key (x :: l)->yi key l->yi key (qus lt x l)/\zc key (x :: l) (qus lt x l)
 |[],_,_=>⟨List.pairwise_singleton _ _,zc.refl _⟩
 |y :: r,h,hs=>by
  have hs':=List.pairwise_cons.1 hs
  have hl:=h y (by simp) x (by simp)
  simp only [qus]
  split
  ·rename_i hyx
   rw [hyx] at hl
   have hlt:key y < key x:=by simpa using hl.symm
   obtain ⟨h1,h2⟩:=zen (x:=x) (h.sub (by intro z hz; simp at hz ⊢; rcases hz with rfl | hz<;>simp [*])) hs'.2
   refine ⟨List.pairwise_cons.2 ⟨fun z hz=>?_,h1⟩,?_⟩
   ·rcases List.mem_cons.1 ((h2.mem).1 hz) with rfl | hz
    ·omega
    ·exact hs'.1 z hz
   ·have h3:zc key ([x]++[y]) ([y]++[x]):=zc.swap fun a ha b hb=>by simp at ha hb; subst ha; subst hb; omega
    have h4:zc key (([x]++[y])++r) (([y]++[x])++r):=h3.app (zc.refl r)
    have h5:zc key ([y]++(x :: r)) ([y]++qus lt x r):=(zc.refl [y]).app h2
    exact h4.trans h5
  ·rename_i hyx
   have hf:lt y x=false:=by simpa using hyx
   rw [hf] at hl
   have hle:key x<=key y:=by simpa using hl.symm
   exact ⟨List.pairwise_cons.2 ⟨fun z hz=>by
    rcases List.mem_cons.1 hz with rfl | hz
    ·exact hle
    ·exact Int.le_trans hle (hs'.1 z hz),hs⟩,zc.refl _⟩
theorem qcl {lt:α->α->Bool}:{l:List α}->LtK lt key l->yi key (jk lt l)/\zc key l (jk lt l)
 |[],_=>⟨List.Pairwise.nil,zc.refl _⟩
 |x :: r,h=>by
  obtain ⟨h1,h2⟩:=qcl (l:=r) (h.sub (by intro z hz; simp [hz]))
  obtain ⟨h3,h4⟩:=zen (x:=x) (l:=jk lt r) (h.sub (by
   intro z hz
   rcases List.mem_cons.1 hz with rfl | hz
   ·simp
   ·simp [qpi.1 hz])) h1
  exact ⟨h3,zc.trans (zc.app (zc.refl [x]) h2) h4⟩
theorem qey {lt:α->α->Bool} {l s:List α} (h:LtK lt key l) (hs:yi key s) (hk:zc key l s):s=jk lt l:=by
 obtain ⟨h1,h2⟩:=qcl h
 exact zc.eq hs h1 (hk.symm.trans h2)
def zi (lt:α->α->Bool) (a b:Nat) (l:List α):List α:=l.take a++(jk lt ((l.take b).drop a)++l.drop b)
theorem qib {lt:α->α->Bool} {a b:Nat} {p s q:List α} (ha:p.length=a) (hb:(p++s).length=b):zi lt a b (p++(s++q))=p++(jk lt s++q):=by
 subst ha hb
 have h1:(p++(s++q)).take (p++s).length=p++s:=by rw [← List.append_assoc]; exact List.take_left' rfl
 have h2:(p++(s++q)).drop (p++s).length=q:=by rw [← List.append_assoc]; exact List.drop_left' rfl
 unfold zi
 rw [h1,h2,List.take_left' rfl,List.drop_left' rfl]
theorem zma {l:List α} {a b:Nat} (hab:a<=b) (hb:b<=l.length):∃ p s q,l=p++(s++q)/\p.length=a/\s.length=b - a/\q.length=l.length - b:=
 ⟨l.take a,(l.take b).drop a,l.drop b,by
  have h1:(l.take b).take a=l.take a:=by rw [List.take_take,Nat.min_eq_left hab]
  rw [← List.append_assoc,← h1,List.take_append_drop,List.take_append_drop],by simp; omega,by simp; omega,by simp⟩
def qb6 (l:List α) (d:α) (i j:Nat):List α:=(l.set i (l.getD j d)).set j (l.getD i d)
end Go.Ab

namespace Go.Ab
section
variable {α:Type} {key:α->Int} {d:α}
theorem qse {p s q:List α} {i:Nat} (h:i < s.length):(p++(s++q)).getD (p.length+i) d=s.getD i d:=by
 simp [List.getD_eq_getElem?_getD,List.getElem?_append_right,List.getElem?_append_left h]
theorem zfb {p r q:List α} {x y:α} {i j:Nat} (hi:i=p.length) (hj:j=p.length+1+r.length):qb6 (p++(x :: (r++(y :: q)))) d i j=p++(y :: (r++(x :: q))):=by
 subst hi hj
 unfold qb6
 have h1:(p++(x :: (r++(y :: q)))).getD (p.length+1+r.length) d=y:=by
  rw [show p++(x :: (r++(y :: q)))=(p++[x]++r)++(y :: q) by simp]
  simp only [List.getD_eq_getElem?_getD]
  rw [List.getElem?_append_right (by simp; omega)]
  simp [show p.length+1+r.length - (p.length+(r.length+1))=0 by omega]
 have h2:(p++(x :: (r++(y :: q)))).getD p.length d=x:=by simp [List.getD_eq_getElem?_getD]
 rw [h1,h2]
 have h3:(p++(x :: (r++(y :: q)))).set p.length y=p++(y :: (r++(y :: q))):=by simp
 rw [h3]
 rw [show p++(y :: (r++(y :: q)))=(p++[y]++r)++(y :: q) by simp,List.set_append_right _ _ (by simp; omega)]
 simp [show p.length+1+r.length - (p.length+(r.length+1))=0 by omega]
theorem zfc {p q:List α} {x y:α} {i:Nat} (hi:i=p.length):qb6 (p++(x :: (y :: q))) d i (i+1)=p++(y :: (x :: q)):=
 zfb (r:=[]) hi (by simp [hi])
theorem zur {l:List α} {i j:Nat} (h:i ≠ j):qb6 l d j i=qb6 l d i j:=by
 unfold qb6
 rw [List.set_comm _ _ (by omega)]
theorem zfd {p q:List α} {x y:α} {i:Nat} (hi:i=p.length):qb6 (p++(x :: (y :: q))) d (i+1) i=p++(y :: (x :: q)):=by
 rw [zur (by omega),zfc hi]
def wc (lt:α->α->Bool) (d:α) (a:Nat):Nat->List α->List α
 |0,l=>l
 |j+1,l=>if a < j+1 then bif lt (l.getD (j+1) d) (l.getD j d) then wc lt d a j (qb6 l d (j+1) j) else l else l
def qed (lt:α->α->Bool) (d:α) (a:Nat):Nat->Nat->List α->List α
 |0,_,l=>l
 |n+1,i,l=>qed lt d a n (i+1) (wc lt d a i l)
theorem zbb (s:List α):s=[] ∨ ∃ t y,s=t++[y]:=by
 cases h:s.reverse with
 |nil=>exact .inl (by simpa using h)
 |cons y t=>exact .inr ⟨t.reverse,y,by have:=congrArg List.reverse h; simpa using this⟩
theorem zac {lt:α->α->Bool} {p:List α} {x:α}:(n:Nat)->(s q:List α)->s.length=n->LtK lt key (s++[x])->yi key s ->
  ∃ t,wc lt d p.length (p.length+n) (p++(s++(x :: q)))=p++(t++q)/\yi key t/\zc key (s++[x]) t
 |0,s,q,hn,_,_=>by
  obtain rfl:=List.length_eq_zero_iff.1 hn
  refine ⟨[x],?_,List.pairwise_singleton _ _,zc.refl _⟩
  cases hp:p.length with
  |zero=>simp [wc]
  |succ j=>simp [wc]
 |n+1,s,q,hn,hl,hs=>by
  rcases zbb s with rfl | ⟨s',y,rfl⟩
  ·simp at hn
  ·have hn':s'.length=n:=by simpa using hn
   have hs':=List.pairwise_append.1 hs
   have e1:p++((s'++[y])++(x :: q))=(p++s')++(y :: (x :: q)):=by simp
   have hk:lt x y=decide (key x < key y):=hl x (by simp) y (by simp)
   have g1:(p++((s'++[y])++(x :: q))).getD (p.length+n+1) d=x:=by
    rw [e1]
    simp only [List.getD_eq_getElem?_getD]
    rw [List.getElem?_append_right (by simp; omega)]
    simp [hn',show p.length+n+1 - (p.length+n)=1 by omega]
   have g2:(p++((s'++[y])++(x :: q))).getD (p.length+n) d=y:=by
    rw [e1]
    simp only [List.getD_eq_getElem?_getD]
    rw [List.getElem?_append_right (by simp; omega)]
    simp [hn']
   rw [show p.length+(n+1)=(p.length+n)+1 by omega]
   simp only [wc,g1,g2]
   rw [if_pos (by omega),hk]
   by_cases hlt:key x < key y
   ·simp only [hlt,decide_true,cond_true]
    rw [e1,zfd (by simp [hn'])]
    obtain ⟨t,h1,h2,h3⟩:=zac (p:=p) (x:=x) n s' (y :: q) hn' (hl.sub (by intro z hz; simp at hz ⊢; rcases hz with h | h<;>simp [h])) hs'.1
    have e2:(p++s')++(x :: (y :: q))=p++(s'++(x :: (y :: q))):=by simp
    rw [e2,h1]
    refine ⟨t++[y],by simp,?_,?_⟩
    ·refine List.pairwise_append.2 ⟨h2,List.pairwise_singleton _ _,fun a ha b hb=>?_⟩
     simp at hb
     subst hb
     rcases List.mem_append.1 (h3.mem.1 ha) with h | h
     ·exact hs'.2.2 a h _ (by simp)
     ·simp at h
      subst h
      omega
    ·have h4:zc key ((s'++[y])++[x]) (s'++[x]++[y]):=by
      rw [List.append_assoc,List.append_assoc]
      exact (zc.refl s').app (zc.swap fun a ha b hb=>by simp at ha hb; subst ha hb; omega)
     exact h4.trans (h3.app (zc.refl [y]))
   ·simp only [hlt,decide_false,cond_false]
    refine ⟨s'++[y]++[x],by simp,?_,zc.refl _⟩
    refine List.pairwise_append.2 ⟨hs,List.pairwise_singleton _ _,fun a ha b hb=>?_⟩
    simp at hb
    subst hb
    rcases List.mem_append.1 ha with h | h
    ·have:=hs'.2.2 a h y (by simp)
     omega
    ·simp at h
     subst h
     omega
theorem zad {lt:α->α->Bool} {p q:List α}:(u s:List α)->LtK lt key (s++u)->yi key s->∃ t,qed lt d p.length u.length (p.length+s.length) (p++(s++(u++q)))=p++(t++q)/\yi key t/\zc key (s++u) t
 |[],s,_,hs=>⟨s,by simp [qed],hs,by simpa using zc.refl s⟩
 |x :: u,s,hl,hs=>by
  obtain ⟨t,h1,h2,h3⟩:=zac (d:=d) (p:=p) (x:=x) s.length s (u++q) rfl (hl.sub (by intro z hz; simp at hz ⊢; rcases hz with h | h<;>simp [h])) hs
  have hlen:t.length=s.length+1:=by
   have:=congrArg List.length h1
   have hd:∀ (n:Nat) (l:List α),(wc lt d p.length n l).length=l.length:=by
    intro n
    induction n with
    |zero=>intro l; rfl
    |succ n ih=>
     intro l
     simp only [wc]
     split
     ·cases lt (l.getD (n+1) d) (l.getD n d)
      ·rfl
      ·simp [ih,qb6]
     ·rfl
   rw [hd] at this
   simp at this
   omega
  obtain ⟨t',k1,k2,k3⟩:=zad (p:=p) (q:=q) u t (hl.sub (by
   intro z hz
   rcases List.mem_append.1 hz with h | h
   ·have:=h3.mem.1 h
    simp at this ⊢
    rcases this with h | h<;>simp [h]
   ·simp [h])) h2
  refine ⟨t',?_,k2,?_⟩
  ·simp only [List.length_cons,qed,List.cons_append]
   rw [h1,show p.length+s.length+1=p.length+t.length by omega]
   exact k1
  ·have:s++x :: u=(s++[x])++u:=by simp
   rw [this]
   exact (h3.app (zc.refl u)).trans k3
theorem zku {lt:α->α->Bool} {a b:Nat} {l:List α} (hab:a<=b) (hb:b<=l.length) (hl:LtK lt key l):qed lt d a (b - (a+1)) (a+1) l=zi lt a b l:=by
 obtain ⟨p,s,q,rfl,hp,hs,_⟩:=zma hab hb
 subst hp
 cases s with
 |nil=>
  have:b=p.length:=by simp at hs; omega
  subst this
  rw [qib rfl (by simp)]
  simp [qed,jk,show p.length - (p.length+1)=0 by omega]
 |cons x u=>
  simp at hs
  have hb':b=p.length+(1+u.length):=by omega
  subst hb'
  rw [qib rfl (by simp; omega)]
  have hl':LtK lt key (x :: u):=hl.sub fun z hz=>List.mem_append_right _ (List.mem_append_left _ hz)
  obtain ⟨t,h1,h2,h3⟩:=zad (d:=d) (p:=p) (q:=q) u [x] (by simpa using hl') (List.pairwise_singleton _ _)
  have e:t=jk lt (x :: u):=qey hl' h2 (by simpa using h3)
  subst e
  rw [← h1]
  simp [show p.length+(1+u.length) - (p.length+1)=u.length by omega]
def upS (d:α):Nat->Nat->List α->List α
 |0,_,l=>l
 |n+1,k,l=>upS d n (k+1) (qb6 l d k (k+1))
def qkt (d:α):Nat->Nat->List α->List α
 |0,_,l=>l
 |n+1,k,l=>qkt d n (k - 1) (qb6 l d k (k - 1))
theorem zzg {x:α}:(s p q:List α)->upS d s.length p.length (p++(x :: (s++q)))=p++(s++(x :: q))
 |[],p,q=>by simp [upS]
 |y :: s,p,q=>by
  simp only [List.length_cons,upS,List.cons_append]
  rw [zfc rfl]
  have:=zzg (x:=x) s (p++[y]) q
  simpa using this
theorem zix {x:α}:(n:Nat)->(s p q:List α)->s.length=n->qkt d n (p.length+n) (p++(s++(x :: q)))=p++(x :: (s++q))
 |0,s,p,q,h=>by
  obtain rfl:=List.length_eq_zero_iff.1 h
  simp [qkt]
 |n+1,s,p,q,h=>by
  rcases zbb s with rfl | ⟨s',y,rfl⟩
  ·simp at h
  ·have hn:s'.length=n:=by simpa using h
   rw [show p.length+(n+1)=(p.length+n)+1 by omega]
   simp only [qkt,Nat.add_sub_cancel]
   have e1:p++((s'++[y])++(x :: q))=(p++s')++(y :: (x :: q)):=by simp
   rw [e1,zfd (by simp [hn])]
   have:=zix (x:=x) n s' p (y :: q) hn
   simpa using this
def qar (d:α):Nat->Nat->Nat->List α->List α
 |0,_,_,l=>l
 |n+1,a,b,l=>qar d n (a+1) (b+1) (qb6 l d a b)
theorem qtb:(x z y p q:List α)->x.length=z.length->∀ {b:Nat},b=p.length+x.length+y.length->qar d x.length p.length b (p++(x++(y++(z++q))))=p++(z++(y++(x++q)))
 |[],z,y,p,q,h,b,hb=>by
  obtain rfl:=List.length_eq_zero_iff.1 h.symm
  simp [qar]
 |u :: x,[],y,p,q,h,b,hb=>by simp at h
 |u :: x,v :: z,y,p,q,h,b,hb=>by
  simp only [List.length_cons,qar,List.cons_append]
  have e1:p++(u :: (x++(y++(v :: (z++q)))))=p++(u :: ((x++y)++(v :: (z++q)))):=by simp
  rw [e1,zfb rfl (by simp at hb ⊢; omega)]
  have:=qtb x z (y++[u]) (p++[v]) q (by simpa using h) (b:=b+1) (by simp at hb ⊢; omega)
  simpa using this
def qbt (d:α) (m:Nat):Nat->Nat->Nat->List α->Nat × List α
 |0,i,_,l=>(i,l)
 |f+1,i,j,l=>if i=j then (i,l) else if i > j then qbt d m f (i - j) j (qar d j (m - i) m l) else qbt d m f i (j - i) (qar d i (m - i) (m+j - i) l)
def qu9 (d:α) (a m b:Nat) (l:List α):List α:=let r:=qbt d m (b - a) (m - a) (b - m) l; qar d r.1 (m - r.1) m r.2
theorem zc9 {m:Nat}:(f:Nat)->(x y p q:List α)->x.length+y.length<=f->0 < x.length->0 < y.length->m=p.length+x.length ->
  qar d (qbt d m f x.length y.length (p++(x++(y++q)))).1 (m - (qbt d m f x.length y.length (p++(x++(y++q)))).1) m (qbt d m f x.length y.length (p++(x++(y++q)))).2=p++(y++(x++q))
 |0,x,y,p,q,h,h1,_,_=>by omega
 |f+1,x,y,p,q,h,h1,h2,hm=>by
  simp only [qbt]
  split
  ·rename_i he
   subst hm
   have:=qtb (d:=d) x y [] p q he (b:=p.length+x.length) (by simp)
   simpa [show p.length+x.length - x.length=p.length by omega] using this
  ·split
   ·rename_i hne hgt
    obtain ⟨x1,x2,rfl,hx1⟩:∃ x1 x2,x=x1++x2/\x1.length=y.length:=⟨x.take y.length,x.drop y.length,by simp,by simp; omega⟩
    simp only [List.length_append] at hm h hgt h1 ⊢
    have e:=qtb (d:=d) x1 y x2 p q hx1 (b:=m) (by omega)
    have e0:m - (x1.length+x2.length)=p.length:=by omega
    rw [e0,← hx1]
    rw [show p++(x1++x2++(y++q))=p++(x1++(x2++(y++q))) by simp,e]
    have:=zc9 (m:=m) f x2 x1 (p++y) q (by omega) (by omega) (by omega) (by simp; omega)
    rw [show x1.length+x2.length - x1.length=x2.length by omega]
    simpa using this
   ·rename_i hne hgt
    obtain ⟨y1,y2,rfl,hy2⟩:∃ y1 y2,y=y1++y2/\y2.length=x.length:=⟨y.take (y.length - x.length),y.drop (y.length - x.length),by simp,by simp; omega⟩
    simp only [List.length_append] at hm h hgt h2 hne ⊢
    have e:=qtb (d:=d) x y2 y1 p q hy2.symm (b:=m+(y1.length+y2.length) - x.length) (by omega)
    have e0:m - x.length=p.length:=by omega
    rw [e0]
    rw [show p++(x++(y1++y2++q))=p++(x++(y1++(y2++q))) by simp,e]
    have:=zc9 (m:=m) f y2 y1 p (x++q) (by omega) (by omega) (by omega) (by omega)
    rw [show y1.length+y2.length - x.length=y1.length by omega,← hy2]
    simpa using this
theorem zp5 {a m b:Nat} {x y p q:List α} (h1:0 < x.length) (h2:0 < y.length) (ha:a=p.length) (hm:m=a+x.length) (hb:b=m+y.length):qu9 d a m b (p++(x++(y++q)))=p++(y++(x++q)):=by
 have:=zc9 (d:=d) (m:=m) (b - a) x y p q (by omega) h1 h2 (by omega)
 unfold qu9
 rw [show m - a=x.length by omega,show b - m=y.length by omega]
 exact this
def bsG (Q:Nat->Bool):Nat->Nat->Nat->Nat
 |0,i,_=>i
 |f+1,i,j=>if i < j then bif Q ((i+j) / 2) then bsG Q f ((i+j) / 2+1) j else bsG Q f i ((i+j) / 2) else i
theorem qnh {Q:Nat->Bool}:(f i j:Nat)->j - i<=f->i<=j->(∀ u v,i<=u->u<=v->v < j->Q v=true->Q u=true) ->
  i<=bsG Q f i j/\bsG Q f i j<=j/\(∀ k,i<=k->k < bsG Q f i j->Q k=true)/\(∀ k,bsG Q f i j<=k->k < j->Q k=false)
 |0,i,j,h,hij,_=>by
  simp only [bsG]
  exact ⟨Nat.le_refl _,hij,fun k h1 h2=>by omega,fun k h1 h2=>by omega⟩
 |f+1,i,j,h,hij,hmono=>by
  simp only [bsG]
  by_cases hlt:i < j
  ·rw [if_pos hlt]
   cases hq:Q ((i+j) / 2) with
   |true=>
    simp only [cond_true]
    obtain ⟨a1,a2,a3,a4⟩:=qnh (Q:=Q) f ((i+j) / 2+1) j (by omega) (by omega) (fun u v hu huv hv=>hmono u v (by omega) huv hv)
    refine ⟨by omega,a2,fun k h1 h2=>?_,a4⟩
    by_cases hk:k<=(i+j) / 2
    ·exact hmono k _ h1 hk (by omega) hq
    ·exact a3 k (by omega) h2
   |false=>
    simp only [cond_false]
    obtain ⟨a1,a2,a3,a4⟩:=qnh (Q:=Q) f i ((i+j) / 2) (by omega) (by omega) (fun u v hu huv hv=>hmono u v hu huv (by omega))
    refine ⟨a1,by omega,a3,fun k h1 h2=>?_⟩
    by_cases hk:k < (i+j) / 2
    ·exact a4 k h1 hk
    ·cases hqk:Q k with
     |false=>rfl
     |true=>rw [hmono _ k (by omega) (by omega) h2 hqk] at hq; cases hq
  ·rw [if_neg hlt]
   exact ⟨Nat.le_refl _,hij,fun k h1 h2=>by omega,fun k h1 h2=>by omega⟩
end
end Go.Ab

namespace Go.Ab
section
variable {α:Type} {key:α->Int} {d:α}
def seg (a b:Nat) (l:List α):List α:=(l.take b).drop a
theorem qn6 {p s q:List α} {a b:Nat} (ha:p.length=a) (hb:a+s.length=b):seg a b (p++(s++q))=s:=by
 subst ha hb
 unfold seg
 have h1:(p++(s++q)).take (p.length+s.length)=p++s:=by rw [← List.append_assoc]; exact List.take_left' (by simp)
 rw [h1,List.drop_left' rfl]
theorem ze7 {l:List α} {a m b:Nat} (h1:a<=m) (h2:m<=b) (h3:b<=l.length):∃ p q,l=p++(seg a m l++(seg m b l++q))/\p.length=a/\(seg a m l).length=m - a/\(seg m b l).length=b - m/\q.length=l.length - b:=by
 obtain ⟨p,s,q,rfl,hp,hs,hq⟩:=zma (Nat.le_trans h1 h2) h3
 obtain ⟨x,y,rfl,hx⟩:∃ x y,s=x++y/\x.length=m - a:=⟨s.take (m - a),s.drop (m - a),by simp,by simp; omega⟩
 have hy:y.length=b - m:=by simp at hs; omega
 have e1:seg a m (p++(x++y++q))=x:=by
  rw [List.append_assoc]
  exact qn6 hp (by omega)
 have e2:seg m b (p++(x++y++q))=y:=by
  rw [show p++(x++y++q)=(p++x)++(y++q) by simp]
  exact qn6 (by simp; omega) (by omega)
 rw [e1,e2]
 exact ⟨p,q,by simp,hp,hx,hy,by omega⟩
theorem qc4 {lt:α->α->Bool} {a b:Nat} {l:List α} (h1:a<=b) (h2:b<=l.length):(zi lt a b l).length=l.length:=by
 unfold zi
 simp [qam]
 omega
theorem zbc {lt:α->α->Bool} {l:List α} (h:LtK lt key l) (hs:yi key l):jk lt l=l:=(qey h hs (zc.refl l)).symm
theorem qsz {lt:α->α->Bool} {a b:Nat} {l:List α} (hab:a<=b) (hb:b<=l.length) (hl:LtK lt key l):zc key l (zi lt a b l):=by
 obtain ⟨p,s,q,rfl,hp,hs,_⟩:=zma hab hb
 rw [qib hp (by simp; omega)]
 have h:=(qcl (l:=s) (hl.sub fun z hz=>List.mem_append_right _ (List.mem_append_left _ hz))).2
 exact (zc.refl p).app (h.app (zc.refl q))
def qbi (lt:α->α->Bool) (d:α) (a m b:Nat) (l:List α):Nat:=
 bsG (fun c=>!lt (l.getD ((a+b) / 2+m - 1 - c) d) (l.getD c d)) ((if (a+b) / 2 < m then (a+b) / 2 else m) - (if (a+b) / 2 < m then (a+b) / 2+m - b else a)) (if (a+b) / 2 < m then (a+b) / 2+m - b else a) (if (a+b) / 2 < m then (a+b) / 2 else m)
def xj (d:α) (m st en:Nat) (l:List α):List α:=if st < m/\m < en then qu9 d st m en l else l
def qvo (lt:α->α->Bool) (d:α) (a m b:Nat) (l:List α):List α:=
 if m - a=1 then upS d (bsG (fun h=>lt (l.getD h d) (l.getD a d)) (b - m) m b - 1 - a) a l
 else if b - m=1 then qkt d (m - bsG (fun h=>!lt (l.getD m d) (l.getD h d)) (m - a) a m) m l
 else
  let st:=qbi lt d a m b l
  let mid:=(a+b) / 2
  let en:=mid+m - st
  let l1:=xj d m st en l
  let l2:=if a < st/\st < mid then zi lt a mid l1 else l1
  if mid < en/\en < b then zi lt mid b l2 else l2
theorem qll {l:List α} {i j:Nat} (hs:yi key l) (hij:i<=j) (hj:j < l.length):key (l.getD i d)<=key (l.getD j d):=by
 rcases Nat.lt_or_ge i j with h | h
 ·have:=List.pairwise_iff_getElem.1 hs i j (by omega) hj h
  simpa [List.getD_eq_getElem?_getD,List.getElem?_eq_getElem hj,List.getElem?_eq_getElem (show i < l.length by omega)] using this
 ·have:i=j:=by omega
  subst this
  exact Int.le_refl _
theorem vo {l:List α} {i:Nat} (h:i < l.length):l.getD i d ∈ l:=by
 simp [List.getD_eq_getElem?_getD,List.getElem?_eq_getElem h]
theorem qot {l:List α} {x:α} (h:x ∈ l):∃ i,i < l.length/\l.getD i d=x:=by
 obtain ⟨i,hi,rfl⟩:=List.getElem_of_mem h
 exact ⟨i,hi,by simp [List.getD_eq_getElem?_getD,List.getElem?_eq_getElem hi]⟩
theorem zfe {lt:α->α->Bool} {a m b:Nat} {p A B q:List α} (hp:p.length=a) (hA:A.length=m - a) (hB:B.length=b - m) (h1:a < m) (h2:m < b)
  (hl:LtK lt key (A++B)) (sA:yi key A) (sB:yi key B) :
  ∃ A1 A2 B1 B2,A=A1++A2/\B=B1++B2/\a+A1.length=qbi lt d a m b (p++(A++(B++q)))/\m+B1.length+qbi lt d a m b (p++(A++(B++q)))=(a+b) / 2+m /\
   (∀ x ∈ A1,∀ y ∈ B2,key x<=key y)/\(∀ y ∈ B1,∀ x ∈ A2,key y < key x):=by
 have gA:∀ i,i < A.length->(p++(A++(B++q))).getD (a+i) d=A.getD i d:=fun i hi=>by rw [← hp]; exact qse hi
 have gB:∀ i,i < B.length->(p++(A++(B++q))).getD (m+i) d=B.getD i d:=fun i hi=>by
  rw [show p++(A++(B++q))=(p++A)++(B++q) by simp,show m=(p++A).length by simp; omega]
  exact qse hi
 generalize hL:p++(A++(B++q))=L at gA gB ⊢
 have hQ:∀ c,a<=c->c < m->m<=(a+b) / 2+m - 1 - c->(a+b) / 2+m - 1 - c < b ->
   (!lt (L.getD ((a+b) / 2+m - 1 - c) d) (L.getD c d))=decide (key (A.getD (c - a) d)<=key (B.getD ((a+b) / 2+m - 1 - c - m) d)):=fun c c1 c2 c3 c4=>by
  have e1:=gA (c - a) (by omega)
  have e2:=gB ((a+b) / 2+m - 1 - c - m) (by omega)
  rw [show a+(c - a)=c by omega] at e1
  rw [show m+((a+b) / 2+m - 1 - c - m)=(a+b) / 2+m - 1 - c by omega] at e2
  rw [e1,e2,hl _ (List.mem_append_right _ (vo (by omega))) _ (List.mem_append_left _ (vo (by omega)))]
  rw [Bool.eq_iff_iff]
  simp
 generalize hs0:(if (a+b) / 2 < m then (a+b) / 2+m - b else a)=s0
 generalize hr0:(if (a+b) / 2 < m then (a+b) / 2 else m)=r0
 have b1:a<=s0/\s0<=r0/\r0<=m/\r0<=(a+b) / 2/\(a+b) / 2+m<=b+s0/\(s0=a ∨ s0+b=(a+b) / 2+m)/\(r0=m ∨ r0=(a+b) / 2):=by
  subst hs0 hr0
  split<;>omega
 obtain ⟨c1,c2,c3,c4,c5,c6,c7⟩:=b1
 obtain ⟨r1,r2,r3,r4⟩:=qnh (Q:=fun c=>!lt (L.getD ((a+b) / 2+m - 1 - c) d) (L.getD c d)) (r0 - s0) s0 r0 (Nat.le_refl _) c2 (fun u v hu huv hv h=>by
  rw [hQ v (by omega) (by omega) (by omega) (by omega)] at h
  rw [hQ u (by omega) (by omega) (by omega) (by omega)]
  simp only [decide_eq_true_eq] at h ⊢
  have k1:=qll (d:=d) sA (i:=u - a) (j:=v - a) (by omega) (by omega)
  have k2:=qll (d:=d) sB (i:=(a+b) / 2+m - 1 - v - m) (j:=(a+b) / 2+m - 1 - u - m) (by omega) (by omega)
  omega)
 have hS:qbi lt d a m b L=bsG (fun c=>!lt (L.getD ((a+b) / 2+m - 1 - c) d) (L.getD c d)) (r0 - s0) s0 r0:=by
  unfold qbi
  rw [hs0,hr0]
 rw [hS]
 generalize bsG (fun c=>!lt (L.getD ((a+b) / 2+m - 1 - c) d) (L.getD c d)) (r0 - s0) s0 r0=st at r1 r2 r3 r4 ⊢
 refine ⟨A.take (st - a),A.drop (st - a),B.take ((a+b) / 2 - st),B.drop ((a+b) / 2 - st),by simp,by simp,?_,?_,?_,?_⟩
 ·simp; omega
 ·simp; omega
 ·intro x hx y hy
  obtain ⟨i,hi,rfl⟩:=qot (d:=d) hx
  obtain ⟨j,hj,rfl⟩:=qot (d:=d) hy
  simp at hi hj
  have e1:(A.take (st - a)).getD i d=A.getD i d:=by simp [List.getD_eq_getElem?_getD,show i < st - a by omega]
  have e2:(B.drop ((a+b) / 2 - st)).getD j d=B.getD ((a+b) / 2 - st+j) d:=by simp [List.getD_eq_getElem?_getD]
  rw [e1,e2]
  have hq:=r3 (st - 1) (by omega) (by omega)
  rw [hQ (st - 1) (by omega) (by omega) (by omega) (by omega)] at hq
  simp only [decide_eq_true_eq] at hq
  have k1:=qll (d:=d) sA (i:=i) (j:=st - 1 - a) (by omega) (by omega)
  have k2:=qll (d:=d) sB (i:=(a+b) / 2+m - 1 - (st - 1) - m) (j:=(a+b) / 2 - st+j) (by omega) (by omega)
  omega
 ·intro y hy x hx
  obtain ⟨i,hi,rfl⟩:=qot (d:=d) hx
  obtain ⟨j,hj,rfl⟩:=qot (d:=d) hy
  simp at hi hj
  have e1:(A.drop (st - a)).getD i d=A.getD (st - a+i) d:=by simp [List.getD_eq_getElem?_getD]
  have e2:(B.take ((a+b) / 2 - st)).getD j d=B.getD j d:=by simp [List.getD_eq_getElem?_getD,show j < (a+b) / 2 - st by omega]
  rw [e1,e2]
  have hq:=r4 st (Nat.le_refl _) (by omega)
  rw [hQ st (by omega) (by omega) (by omega) (by omega)] at hq
  simp only [decide_eq_false_iff_not] at hq
  have k1:=qll (d:=d) sA (i:=st - a) (j:=st - a+i) (by omega) (by omega)
  have k2:=qll (d:=d) sB (i:=j) (j:=(a+b) / 2+m - 1 - st - m) (by omega) (by omega)
  omega
theorem yd5 {lt:α->α->Bool} {A1 A2 B1 B2:List α} (hl:LtK lt key ((A1++A2)++(B1++B2))) (sA:yi key (A1++A2)) (sB:yi key (B1++B2)) (h1:∀ x ∈ A1,∀ y ∈ B2,key x<=key y) (h2:∀ y ∈ B1,∀ x ∈ A2,key y < key x) :
  jk lt (A1++B1)++jk lt (A2++B2)=jk lt ((A1++A2)++(B1++B2)):=by
 have l1:LtK lt key (A1++B1):=hl.sub fun z hz=>by simp at hz ⊢; rcases hz with h | h<;>simp [h]
 have l2:LtK lt key (A2++B2):=hl.sub fun z hz=>by simp at hz ⊢; rcases hz with h | h<;>simp [h]
 obtain ⟨s1,k1⟩:=qcl l1
 obtain ⟨s2,k2⟩:=qcl l2
 have pA:=List.pairwise_append.1 sA
 have pB:=List.pairwise_append.1 sB
 refine qey hl (List.pairwise_append.2 ⟨s1,s2,fun x hx y hy=>?_⟩) ?_
 ·rw [qpi] at hx hy
  rcases List.mem_append.1 hx with hx | hx<;>rcases List.mem_append.1 hy with hy | hy
  ·exact pA.2.2 x hx y hy
  ·exact h1 x hx y hy
  ·exact Int.le_of_lt (h2 x hx y hy)
  ·exact pB.2.2 x hx y hy
 ·have e1:zc key (A1++(A2++B1)++B2) (A1++(B1++A2)++B2):=((zc.refl A1).app (zc.swap fun x hx y hy=>by have:=h2 y hy x hx; omega)).app (zc.refl B2)
  have e2:=k1.app k2
  have e1':zc key ((A1++A2)++(B1++B2)) ((A1++B1)++(A2++B2)):=by simpa using e1
  exact e1'.trans e2
theorem yj5 {lt:α->α->Bool} {a m b:Nat} {p A B q:List α} (hp:p.length=a) (hA:A.length=m - a) (hB:B.length=b - m) (h1:a < m) (h2:m < b)
  (hl:LtK lt key (A++B)) (sA:yi key A) (sB:yi key B):qvo lt d a m b (p++(A++(B++q)))=p++(jk lt (A++B)++q):=by
 unfold qvo
 split
 ·
  rename_i hm
  cases A with
  |nil=>simp at hA; omega
  |cons x A=>
   obtain rfl:A=[]:=by simp at hA; exact List.length_eq_zero_iff.1 (by omega)
   have gx:(p++([x]++(B++q))).getD a d=x:=by subst hp; simp [List.getD_eq_getElem?_getD]
   have gB:∀ i,i < B.length->(p++([x]++(B++q))).getD (m+i) d=B.getD i d:=fun i hi=>by
    rw [show p++([x]++(B++q))=(p++[x])++(B++q) by simp,show m=(p++[x]).length by simp; omega]
    exact qse hi
   have hQ:∀ k,m<=k->k < b->lt ((p++([x]++(B++q))).getD k d) ((p++([x]++(B++q))).getD a d)=decide (key (B.getD (k - m) d) < key x):=fun k k1 k2=>by
    have:=gB (k - m) (by omega)
    rw [show m+(k - m)=k by omega] at this
    rw [this,gx]
    exact hl _ (List.mem_append_right _ (vo (by omega))) _ (by simp)
   obtain ⟨r1,r2,r3,r4⟩:=qnh (Q:=fun h=>lt ((p++([x]++(B++q))).getD h d) ((p++([x]++(B++q))).getD a d)) (b - m) m b (Nat.le_refl _) (by omega) (fun u v hu huv hv h=>by
    rw [hQ v (by omega) hv] at h
    rw [hQ u hu (by omega)]
    simp only [decide_eq_true_eq] at h ⊢
    have:=qll (d:=d) sB (i:=u - m) (j:=v - m) (by omega) (by omega)
    omega)
   generalize bsG (fun h=>lt ((p++([x]++(B++q))).getD h d) ((p++([x]++(B++q))).getD a d)) (b - m) m b=r at r1 r2 r3 r4 ⊢
   obtain ⟨B1,B2,rfl,hB1⟩:∃ B1 B2,B=B1++B2/\B1.length=r - m:=⟨B.take (r - m),B.drop (r - m),by simp,by simp; omega⟩
   have hB':B1.length+B2.length=b - m:=by simpa using hB
   have f1:∀ y ∈ B1,key y < key x:=fun y hy=>by
    obtain ⟨j,hj,rfl⟩:=qot (d:=d) hy
    have:=r3 (m+j) (by omega) (by omega)
    rw [hQ (m+j) (by omega) (by omega)] at this
    simp only [decide_eq_true_eq,Nat.add_sub_cancel_left] at this
    rwa [show (B1++B2).getD j d=B1.getD j d by simp [List.getD_eq_getElem?_getD,List.getElem?_append_left hj]] at this
   have f2:∀ y ∈ B2,key x<=key y:=fun y hy=>by
    obtain ⟨j,hj,rfl⟩:=qot (d:=d) hy
    have:=r4 (r+j) (by omega) (by omega)
    rw [hQ (r+j) (by omega) (by omega)] at this
    simp only [decide_eq_false_iff_not] at this
    rw [show (B1++B2).getD (r+j - m) d=B2.getD j d by
     simp only [List.getD_eq_getElem?_getD]
     rw [List.getElem?_append_right (by omega),show r+j - m - B1.length=j by omega]] at this
    omega
   rw [show r - 1 - a=B1.length by omega]
   have hup:=zzg (d:=d) (x:=x) B1 p (B2++q)
   rw [hp] at hup
   have e0:p++([x]++(B1++B2++q))=p++(x :: (B1++(B2++q))):=by simp
   rw [e0,hup]
   have pB:=List.pairwise_append.1 sB
   have hS:B1++(x :: B2)=jk lt ([x]++(B1++B2)):=by
    refine qey hl (List.pairwise_append.2 ⟨pB.1,List.pairwise_cons.2 ⟨fun y hy=>f2 y hy,pB.2.1⟩,fun y hy z hz=>?_⟩) ?_
    ·rcases List.mem_cons.1 hz with rfl | hz
     ·exact Int.le_of_lt (f1 y hy)
     ·exact pB.2.2 y hy z hz
    ·have e1:zc key (([x]++B1)++B2) ((B1++[x])++B2):=(zc.swap fun u hu y hy=>by simp at hu; subst hu; have:=f1 y hy; omega).app (zc.refl B2)
     simpa using e1
   rw [← hS]
   simp
 ·split
  ·
   rename_i _ hm
   cases B with
   |nil=>simp at hB; omega
   |cons x B=>
    obtain rfl:B=[]:=by simp at hB; exact List.length_eq_zero_iff.1 (by omega)
    have gx:(p++(A++([x]++q))).getD m d=x:=by
     rw [show p++(A++([x]++q))=(p++A)++(x :: q) by simp,show m=(p++A).length by simp; omega]
     simp only [List.getD_eq_getElem?_getD]
     rw [List.getElem?_append_right (Nat.le_refl _)]
     simp
    have gA:∀ i,i < A.length->(p++(A++([x]++q))).getD (a+i) d=A.getD i d:=fun i hi=>by rw [← hp]; exact qse hi
    have hQ:∀ k,a<=k->k < m->(!lt ((p++(A++([x]++q))).getD m d) ((p++(A++([x]++q))).getD k d))=decide (key (A.getD (k - a) d)<=key x):=fun k k1 k2=>by
     have:=gA (k - a) (by omega)
     rw [show a+(k - a)=k by omega] at this
     rw [this,gx,hl _ (List.mem_append_right _ (by simp)) _ (List.mem_append_left _ (vo (by omega))),Bool.eq_iff_iff]
     simp
    obtain ⟨r1,r2,r3,r4⟩:=qnh (Q:=fun h=>!lt ((p++(A++([x]++q))).getD m d) ((p++(A++([x]++q))).getD h d)) (m - a) a m (Nat.le_refl _) (by omega) (fun u v hu huv hv h=>by
     rw [hQ v (by omega) hv] at h
     rw [hQ u hu (by omega)]
     simp only [decide_eq_true_eq] at h ⊢
     have:=qll (d:=d) sA (i:=u - a) (j:=v - a) (by omega) (by omega)
     omega)
    generalize bsG (fun h=>!lt ((p++(A++([x]++q))).getD m d) ((p++(A++([x]++q))).getD h d)) (m - a) a m=r at r1 r2 r3 r4 ⊢
    obtain ⟨A1,A2,rfl,hA1⟩:∃ A1 A2,A=A1++A2/\A1.length=r - a:=⟨A.take (r - a),A.drop (r - a),by simp,by simp; omega⟩
    have hA':A1.length+A2.length=m - a:=by simpa using hA
    have f1:∀ y ∈ A1,key y<=key x:=fun y hy=>by
     obtain ⟨j,hj,rfl⟩:=qot (d:=d) hy
     have:=r3 (a+j) (by omega) (by omega)
     rw [hQ (a+j) (by omega) (by omega)] at this
     simp only [decide_eq_true_eq,Nat.add_sub_cancel_left] at this
     rwa [show (A1++A2).getD j d=A1.getD j d by simp [List.getD_eq_getElem?_getD,List.getElem?_append_left hj]] at this
    have f2:∀ y ∈ A2,key x < key y:=fun y hy=>by
     obtain ⟨j,hj,rfl⟩:=qot (d:=d) hy
     have:=r4 (r+j) (by omega) (by omega)
     rw [hQ (r+j) (by omega) (by omega)] at this
     simp only [decide_eq_false_iff_not] at this
     rw [show (A1++A2).getD (r+j - a) d=A2.getD j d by
      simp only [List.getD_eq_getElem?_getD]
      rw [List.getElem?_append_right (by omega),show r+j - a - A1.length=j by omega]] at this
     omega
    have hdn:=zix (d:=d) (x:=x) A2.length A2 (p++A1) q rfl
    have e0:p++(A1++A2++([x]++q))=(p++A1)++(A2++(x :: q)):=by simp
    have e1:m=(p++A1).length+A2.length:=by simp; omega
    rw [e0,show m - r=A2.length by omega]
    rw [← e1] at hdn
    rw [hdn]
    have pA:=List.pairwise_append.1 sA
    have hS:A1++(x :: A2)=jk lt ((A1++A2)++[x]):=by
     refine qey hl (List.pairwise_append.2 ⟨pA.1,List.pairwise_cons.2 ⟨fun y hy=>Int.le_of_lt (f2 y hy),pA.2.1⟩,fun y hy z hz=>?_⟩) ?_
     ·rcases List.mem_cons.1 hz with rfl | hz
      ·exact f1 y hy
      ·exact pA.2.2 y hy z hz
     ·have e1:zc key (A1++(A2++[x])) (A1++([x]++A2)):=(zc.refl A1).app (zc.swap fun u hu y hy=>by simp at hy; subst hy; have:=f2 u hu; omega)
      simpa using e1
    rw [← hS]
    simp
  ·
   obtain ⟨A1,A2,B1,B2,rfl,rfl,e1,e2,f1,f2⟩:=zfe (d:=d) (q:=q) hp hA hB h1 h2 hl sA sB
   simp only
   generalize qbi lt d a m b (p++(A1++A2++(B1++B2++q)))=st at e1 e2 ⊢
   simp only [List.length_append] at hA hB
   have hen:(a+b) / 2+m - st=m+B1.length:=by omega
   rw [hen]
   have hR:xj d m st (m+B1.length) (p++(A1++A2++(B1++B2++q)))=p++(A1++B1++(A2++B2++q)):=by
    unfold xj
    split
    ·rename_i hc
     have:=zp5 (d:=d) (a:=st) (m:=m) (b:=m+B1.length) (x:=A2) (y:=B1) (p:=p++A1) (q:=B2++q) (by omega) (by omega) (by simp; omega) (by omega) rfl
     simpa using this
    ·rename_i hc
     by_cases hb1:B1=[]
     ·subst hb1; simp
     ·have:=List.length_pos_iff.2 hb1
      have:A2=[]:=List.length_eq_zero_iff.1 (by omega)
      subst this; simp
   rw [hR]
   have l1:LtK lt key (A1++B1):=hl.sub fun z hz=>by simp at hz ⊢; rcases hz with h | h<;>simp [h]
   have l2:LtK lt key (A2++B2):=hl.sub fun z hz=>by simp at hz ⊢; rcases hz with h | h<;>simp [h]
   have pA:=List.pairwise_append.1 sA
   have pB:=List.pairwise_append.1 sB
   have hmid:(a+b) / 2=a+(A1.length+B1.length):=by omega
   have hL:(if a < st/\st < (a+b) / 2 then zi lt a ((a+b) / 2) (p++(A1++B1++(A2++B2++q))) else p++(A1++B1++(A2++B2++q)))=p++(jk lt (A1++B1)++(A2++B2++q)):=by
    split
    ·exact qib hp (by simp; omega)
    ·rename_i hc
     have:jk lt (A1++B1)=A1++B1:=by
      refine zbc l1 ?_
      by_cases ha1:A1=[]
      ·subst ha1; simpa [yi] using pB.1
      ·have:=List.length_pos_iff.2 ha1
       have:B1=[]:=List.length_eq_zero_iff.1 (by omega)
       subst this
       simpa [yi] using pA.1
     rw [this]
   rw [hL]
   have hRt:(if (a+b) / 2 < m+B1.length/\m+B1.length < b then zi lt ((a+b) / 2) b (p++(jk lt (A1++B1)++(A2++B2++q))) else p++(jk lt (A1++B1)++(A2++B2++q)))=p++(jk lt (A1++B1)++(jk lt (A2++B2)++q)):=by
    split
    ·have:=qib (lt:=lt) (a:=(a+b) / 2) (b:=b) (p:=p++jk lt (A1++B1)) (s:=A2++B2) (q:=q) (by simp [qam]; omega) (by simp [qam]; omega)
     simpa using this
    ·rename_i hc
     have:jk lt (A2++B2)=A2++B2:=by
      refine zbc l2 ?_
      by_cases ha1:A2=[]
      ·subst ha1; simpa [yi] using pB.2.1
      ·have:=List.length_pos_iff.2 ha1
       have:B2=[]:=List.length_eq_zero_iff.1 (by omega)
       subst this
       simpa [yi] using pA.2.1
     rw [this]
   rw [hRt,← yd5 hl sA sB f1 f2]
   simp
end
end Go.Ab

namespace Go.Ab
section
variable {α:Type} {key:α->Int}
theorem za5 {lt:α->α->Bool} {a b a' b':Nat} {l:List α} (h1:b'<=a) (h2:a<=l.length):seg a' b' (zi lt a b l)=seg a' b' l:=by
 unfold seg zi
 rw [List.take_append_of_le_length (by simp; omega),List.take_take,Nat.min_eq_left h1]
theorem za6 {a b:Nat} {l:List α}:(seg a b l).length=min b l.length - a:=by simp [seg]
theorem zl1 {lt:α->α->Bool} {a b:Nat} {l:List α} (h1:a<=b) (h2:b<=l.length):seg a b (zi lt a b l)=jk lt (seg a b l):=by
 unfold zi
 exact qn6 (by simp; omega) (by rw [qam]; simp; omega)
theorem qzf {lt:α->α->Bool} {a b c:Nat} {l:List α} (h1:a<=b) (h2:b<=l.length) (h3:b<=c):(zi lt a b l).drop c=l.drop c:=by
 unfold zi
 rw [← List.append_assoc,List.drop_append,List.drop_eq_nil_of_le (by simp [qam]; omega)]
 simp [qam]
 congr 1
 omega
theorem qk6 {a b c:Nat} {l s:List α} (h:l.drop c=s.drop c) (hc:c<=a):seg a b l=seg a b s:=by
 unfold seg
 rw [List.drop_take,List.drop_take]
 have:∀ t:List α,t.drop a=(t.drop c).drop (a - c):=fun t=>by rw [List.drop_drop]; congr 1; omega
 rw [this l,this s,h]
def zha (key:α->Int) (w:Nat) (l:List α):Prop:=∀ k,yi key (seg (k * w) (k * w+w) l)
def qcx (lt:α->α->Bool) (w n:Nat):Nat->Nat->List α->Nat × List α
 |0,a,l=>(a,l)
 |f+1,a,l=>if a+w<=n then qcx lt w n f (a+w) (zi lt a (a+w) l) else (a,l)
structure BlkW (key:α->Int) (w n:Nat) (l:List α) (r:Nat × List α):Prop where
 mul:∃ c,r.1=c * w
 le:r.1<=n
 lt:n < r.1+w
 len:r.2.length=n
 same:zc key l r.2
 drop:r.2.drop r.1=l.drop r.1
 done:∀ k,k * w+w<=r.1->yi key (seg (k * w) (k * w+w) r.2)
theorem qla {lt:α->α->Bool} {w n:Nat} (hw:0 < w):(f a:Nat)->(l:List α)->n < f+a->a<=n->l.length=n->(∃ c,a=c * w)->LtK lt key l->(∀ k,k * w+w<=a->yi key (seg (k * w) (k * w+w) l)) ->
  BlkW key w n l (qcx lt w n f a l)
 |0,a,l,h,ha,_,_,_,_=>by omega
 |f+1,a,l,h,ha,hn,⟨c,hc⟩,hl,hd=>by
  simp only [qcx]
  split
  ·rename_i hle
   have hsame:=qsz (key:=key) (lt:=lt) (a:=a) (b:=a+w) (by omega) (by omega) hl
   have hseg:yi key (seg a (a+w) (zi lt a (a+w) l)):=by
    rw [zl1 (by omega) (by omega)]
    refine (qcl (hl.sub fun z hz=>?_)).1
    exact List.mem_of_mem_take (List.mem_of_mem_drop hz)
   have r:=qla hw f (a+w) (zi lt a (a+w) l) (by omega) hle (by rw [qc4 (by omega) (by omega)]; exact hn) ⟨c+1,by rw [hc,Nat.succ_mul]⟩ (hl.sub fun z hz=>hsame.mem.1 hz) (fun k hk=>by
    rcases Nat.lt_trichotomy k c with h | h | h
    ·have h1:(k+1) * w<=c * w:=Nat.mul_le_mul_right _ h
     rw [Nat.succ_mul] at h1
     rw [za5 (by omega) (by omega)]
     exact hd k (by omega)
    ·subst h
     rw [← hc]
     exact hseg
    ·have h1:(c+1) * w<=k * w:=Nat.mul_le_mul_right _ h
     rw [Nat.succ_mul] at h1
     omega)
   refine ⟨r.mul,r.le,r.lt,r.len,hsame.trans r.same,?_,r.done⟩
   rw [r.drop]
   obtain ⟨c',hc'⟩:=r.mul
   have:a+w<=(qcx lt w n f (a+w) (zi lt a (a+w) l)).1:=by
    clear r hc' c'
    have:∀ (f a:Nat) (l:List α),a<=(qcx lt w n f a l).1:=by
     intro f
     induction f with
     |zero=>intro a l; exact Nat.le_refl _
     |succ f ih=>
      intro a l
      simp only [qcx]
      split
      ·exact Nat.le_trans (by omega) (ih _ _)
      ·exact Nat.le_refl _
    exact this _ _ _
   exact qzf (by omega) (by omega) this
  ·exact ⟨⟨c,hc⟩,ha,by omega,hn,zc.refl _,rfl,fun k hk=>hd k hk⟩
theorem BlkW.last {lt:α->α->Bool} {w n:Nat} {l:List α} {r:Nat × List α} (h:BlkW key w n l r) (hl:LtK lt key l):zha key w (zi lt r.1 n r.2)/\zc key l (zi lt r.1 n r.2)/\(zi lt r.1 n r.2).length=n:=by
 have hlen:=h.len
 have hl2:LtK lt key r.2:=hl.sub fun z hz=>h.same.mem.1 hz
 refine ⟨fun k=>?_,h.same.trans (qsz h.le (by omega) hl2),by rw [qc4 h.le (by omega)]; exact hlen⟩
 obtain ⟨c,hc⟩:=h.mul
 have hle:=h.le
 have hlt:=h.lt
 rcases Nat.lt_trichotomy k c with hk | hk | hk
 ·have h1:(k+1) * w<=c * w:=Nat.mul_le_mul_right _ hk
  rw [Nat.succ_mul] at h1
  rw [za5 (by omega) (by omega)]
  exact h.done k (by omega)
 ·subst hk
  rw [← hc]
  have:seg r.1 (r.1+w) (zi lt r.1 n r.2)=seg r.1 n (zi lt r.1 n r.2):=by
   have e:=qc4 (lt:=lt) h.le (Nat.le_of_eq hlen.symm)
   unfold seg
   rw [List.take_of_length_le (by omega),List.take_of_length_le (by omega)]
  rw [this,zl1 h.le (by omega)]
  exact (qcl (hl2.sub fun z hz=>List.mem_of_mem_take (List.mem_of_mem_drop hz))).1
 ·have h1:(c+1) * w<=k * w:=Nat.mul_le_mul_right _ hk
  rw [Nat.succ_mul] at h1
  have:seg (k * w) (k * w+w) (zi lt r.1 n r.2)=[]:=by
   have e:=qc4 (lt:=lt) h.le (Nat.le_of_eq hlen.symm)
   apply List.eq_nil_of_length_eq_zero
   rw [za6]
   omega
  rw [this]
  exact List.Pairwise.nil
def qhy (lt:α->α->Bool) (w n:Nat) (l:List α):List α:=
 let r:=qcx lt (2 * w) n (n+1) 0 l
 if r.1+w < n then zi lt r.1 n r.2 else r.2
theorem zas {lt:α->α->Bool} {w n:Nat} {l:List α} (hw:0 < w) (hn:l.length=n) (hl:LtK lt key l) (hb:zha key w l) :
  zha key (2 * w) (qhy lt w n l)/\zc key l (qhy lt w n l)/\(qhy lt w n l).length=n:=by
 have r:=qla (key:=key) (lt:=lt) (w:=2 * w) (n:=n) (by omega) (n+1) 0 l (by omega) (by omega) hn ⟨0,by simp⟩ hl (fun k hk=>by omega)
 unfold qhy
 generalize qcx lt (2 * w) n (n+1) 0 l=r0 at r ⊢
 simp only
 split
 ·exact r.last hl
 ·rename_i hc
  refine ⟨fun k=>?_,r.same,r.len⟩
  obtain ⟨c,hcc⟩:=r.mul
  have hle:=r.le
  have hlt:=r.lt
  have hlen:=r.len
  rcases Nat.lt_trichotomy k c with hk | hk | hk
  ·have h1:(k+1) * (2 * w)<=c * (2 * w):=Nat.mul_le_mul_right _ hk
   rw [Nat.succ_mul] at h1
   exact r.done k (by omega)
  ·subst hk
   have h1:k * (2 * w)=(2 * k) * w:=by rw [Nat.mul_comm 2 k,Nat.mul_assoc]
   have h2:seg (k * (2 * w)) (k * (2 * w)+2 * w) r0.2=seg ((2 * k) * w) ((2 * k) * w+w) r0.2:=by
    rw [← h1]
    unfold seg
    rw [List.take_of_length_le (by omega),List.take_of_length_le (by omega)]
   rw [h2,qk6 (c:=r0.1) r.drop (by omega)]
   exact hb (2 * k)
  ·have h1:(c+1) * (2 * w)<=k * (2 * w):=Nat.mul_le_mul_right _ hk
   rw [Nat.succ_mul] at h1
   have:seg (k * (2 * w)) (k * (2 * w)+2 * w) r0.2=[]:=by
    apply List.eq_nil_of_length_eq_zero
    rw [za6]
    omega
   rw [this]
   exact List.Pairwise.nil
def xh (lt:α->α->Bool) (n:Nat):Nat->Nat->List α->List α
 |0,_,l=>l
 |f+1,w,l=>if w < n then xh lt n f (2 * w) (qhy lt w n l) else l
theorem qxg {lt:α->α->Bool} {n:Nat}:(f w:Nat)->(l:List α)->0 < w->n<=f+w->l.length=n->LtK lt key l->zha key w l->xh lt n f w l=jk lt l
 |0,w,l,hw,hf,hn,hl,hb=>by
  simp only [xh]
  refine qey hl ?_ (zc.refl l)
  have:=hb 0
  unfold seg at this
  simpa [List.take_of_length_le (show l.length<=w by omega)] using this
 |f+1,w,l,hw,hf,hn,hl,hb=>by
  simp only [xh]
  split
  ·obtain ⟨h1,h2,h3⟩:=zas hw hn hl hb
   rw [qxg f (2 * w) _ (by omega) (by omega) h3 (hl.sub fun z hz=>h2.mem.1 hz) h1]
   obtain ⟨k1,k2⟩:=qcl (l:=qhy lt w n l) (hl.sub fun z hz=>h2.mem.1 hz)
   exact qey hl k1 (h2.trans k2)
  ·refine qey hl ?_ (zc.refl l)
   have:=hb 0
   unfold seg at this
   simpa [List.take_of_length_le (show l.length<=w by omega)] using this
def zdg (lt:α->α->Bool) (l:List α):List α:=
 let r:=qcx lt 20 l.length (l.length+1) 0 l
 xh lt l.length l.length 20 (zi lt r.1 l.length r.2)
theorem zun {lt:α->α->Bool} {l:List α} (hl:LtK lt key l):zdg lt l=jk lt l:=by
 have r:=qla (key:=key) (lt:=lt) (w:=20) (n:=l.length) (by omega) (l.length+1) 0 l (by omega) (by omega) rfl ⟨0,by simp⟩ hl (fun k hk=>by omega)
 unfold zdg
 obtain ⟨h1,h2,h3⟩:=r.last hl
 simp only
 rw [qxg _ 20 _ (by omega) (by omega) h3 (hl.sub fun z hz=>h2.mem.1 hz) h1]
 obtain ⟨k1,k2⟩:=qcl (hl.sub fun z hz=>h2.mem.1 hz)
 exact qey hl k1 (h2.trans k2)
end
end Go.Ab

namespace Go.Ab
open Go Go.RowKit
def Tr.jn (l:Nat):Tr->Tr
 |.leaf (.jump i) s=>if i=l then .leaf .normal s else .need False (.leaf .ret s)
 |.leaf .normal s=>.need False (.leaf .ret s)
 |.leaf e s=>.leaf e s
 |.br b x y=>.br b (x.jn l) (y.jn l)
 |.need p x=>.need p (x.jn l)
 |.two p x y=>.two p (x.jn l) (y.jn l)
theorem Tr.sat_jn {l:Nat} {Q:XE->St->Prop}:{t:Tr}->(t.jn l).sat Q->t.sat fun e s=>match e with
  |.jump i=>i=l/\Q .normal s
  |.normal=>False
  |e=>Q e s
 |.leaf e s,hq=>by
  cases e with
  |normal=>exact hq.1
  |exit i=>exact hq
  |ret=>exact hq
  |panic p=>exact hq
  |val v=>exact hq
  |jump i=>
   simp only [Tr.jn] at hq
   split at hq
   ·rename_i h
    exact ⟨h,hq⟩
   ·exact hq.1.elim
 |.br b x y,hq=>⟨fun hb=>Tr.sat_jn (hq.1 hb),fun hb=>Tr.sat_jn (hq.2 hb)⟩
 |.need p x,hq=>⟨hq.1,Tr.sat_jn hq.2⟩
 |.two p x y,hq=>⟨fun hb=>Tr.sat_jn (hq.1 hb),Tr.sat_jn hq.2⟩
def ykk (P:Program) (E:Env) (l:Nat) (p:Pt) (Q:p.Out->Prop) (e:Exit) (a:Act) (w:World):Prop:=
 ∃ r,Q r/\match r with
  |.next m=>e = .goto l/\I P E (p.M.tpl p.n m) a w
  |.out y=>e = .exit p.id/\I P E (p.E.tpl p.n y) a w
  |.back z=>e = .ret/\I P E (p.R.tpl p.n z) a w
  |.pan v=>e = .panic [{ v:=v.val,recovered:=false }]/\∃ s,s.n=p.n/\I P E s a w
def qch (P:Program) (l:Nat) (c:Code) (L:LS) (p:Pt) (f:L.X->Fr p.Out):Prop:=
 ∀ (E:Env) (a:Act) (w:World) (x:L.X) (Q:p.Out->Prop),I P E (L.tpl p.n x) a w->(f x).satP Q->c.wp P (ykk P E l p Q) a w
def ze5 (P:Program) (C:Cx) (bs:Nat) (Λ:Nat->St->Option Tr) (l:Nat) (c:Code) (L:LS) (p:Pt) (x:L.X):Option (Fr p.Out):=
 match yy P C bs Λ c 0 (L.tpl p.n x) with
 |some t=>p.lp.rdOf C.Γ (t.jn l)
 |none=>none
def qkq (P:Program) (E:Env) (c:Code) (run:St->Option Tr):Prop:=
 ∀ s t,run s=some t->∀ Q:XE->St->Prop,t.sat Q->∀ (a:Act) (w:World),I P E s a w->c.wp P (qa3 P E Q) a w
def qtc (r1 r2:St->Option Tr) (s:St):Option Tr:=
 match r1 s with
 |some t=>t.bind r2
 |none=>none
def zud (P:Program) (run:St->Option Tr) (fn:Func) (ps:List PT) (rs:List Ty) (xs:qm ps):Option (Fr (qi rs)):=
 if (fn.name == "runtime.NumGoroutine")=false/\ps.length<=fn.ntmps then match run (qod fn.ntmps (qgv ps xs)) with
  |some t=>qh8 P fn.results.toList rs t
  |none=>none
 else none
section
variable {P:Program} {E:Env}
theorem qch.of_run {C:Cx} (hC:CxOK P C) {bs l:Nat} {Λ:Nat->St->Option Tr} {c:Code} {L:LS} {p:Pt} (hM:p.M.low=true) (hE:p.E.low=true) (hR:p.R.low=true) (hΛ:∀ E,jt P E Λ c 0) {f:L.X->Fr p.Out}
  (hr:∀ x,ze5 P C bs Λ l c L p x=some (f x)):qch P l c L p f:=by
 intro E a w x Q hi hq
 have hrx:=hr x
 unfold ze5 at hrx
 split at hrx<;>try (cases hrx; done)
 rename_i t ht
 have hsat:=Tr.sat_jn (p.lp.rd_sat hrx hq)
 refine wp_mono (yv hC c 0 (hΛ E) ht hsat hi) ?_
 rintro e a' w' ⟨xe,s',rfl,his,hqs⟩
 cases xe with
 |normal=>exact hqs.elim
 |exit i=>
  obtain ⟨rfl,hn',y,n',hy,hn,hqy⟩:=hqs
  have:=qau hC.ct hE his hy hn
  rw [hn'] at this
  exact ⟨.out y,hqy,rfl,this⟩
 |ret=>
  obtain ⟨hn',y,n',hy,hn,hqy⟩:=hqs
  have:=qau hC.ct hR his hy hn
  rw [hn'] at this
  exact ⟨.back y,hqy,rfl,this⟩
 |panic v=>exact ⟨.pan v,hqs.2,rfl,s',hqs.1,his⟩
 |val _=>exact hqs.elim
 |jump _=>
  obtain ⟨rfl,hn',y,n',hy,hn,hqy⟩:=hqs
  have:=qau hC.ct hM his hy hn
  rw [hn'] at this
  exact ⟨.next y,hqy,rfl,this⟩
theorem qch.scope {c rest:Code} {L N Eo R:LS} {n id l:Nat} {f:L.X->Fr (Rd L.X Eo.X R.X)} (hf:findLabel c l=some rest) (h1:qch P l c L ⟨n,id,L,Eo,R⟩ f) (h2:qch P l rest L ⟨n,id,L,Eo,R⟩ f)
  {F:L.X->Fr (Rd N.X Eo.X R.X)} {inv:L.X->Prop} {μ:L.X->Nat}
  (hlaw:∀ x,inv x->∀ Q:Rd N.X Eo.X R.X->Prop,(F x).satP Q->(f x).satP fun
   |.next x'=>inv x'/\μ x' < μ x/\(F x').satP Q
   |.out y=>Q (.out y)
   |.back z=>Q (.back z)
   |.pan p=>Q (.pan p)) (hinv:∀ x Q,(F x).satP Q->inv x):qe P (.scope c) L ⟨n,id,N,Eo,R⟩ F:=by
 intro E a w x Q hi hq
 have key:∀ x a w (c':Code) (J:Nat->Act->World->Prop),(∀ a w (x':L.X),inv x'->μ x' < μ x->I P E (L.tpl n x') a w->(F x').satP Q->∃ m,m < μ x/\J m a w)->qch P l c' L ⟨n,id,L,Eo,R⟩ f->inv x->I P E (L.tpl n x) a w->(F x).satP Q ->
   c'.wp P (Exit.jump l (fun a w=>∃ m,m < μ x/\J m a w) (qqf P E ⟨n,id,N,Eo,R⟩ Q)) a w:=by
  intro x a w c' J hJ h hx hix hFx
  refine wp_mono (h E a w x _ hix (hlaw x hx Q hFx)) ?_
  rintro e a' w' ⟨r,hr,hm⟩
  cases r with
  |next x'=>
   obtain ⟨rfl,hi'⟩:=hm
   exact ⟨rfl,hJ a' w' x' hr.1 hr.2.1 hi' hr.2.2⟩
  |out y=>
   obtain ⟨rfl,hi'⟩:=hm
   exact ⟨.out y,hr,rfl,hi'⟩
  |back z=>
   obtain ⟨rfl,hi'⟩:=hm
   exact ⟨.back z,hr,rfl,hi'⟩
  |pan v=>
   obtain ⟨rfl,hi'⟩:=hm
   exact ⟨.pan v,hr,rfl,hi'⟩
 have hmono:∀ {J J':Act->World->Prop} {c':Code} {a:Act} {w:World},(∀ a w,J a w->J' a w)->c'.wp P (Exit.jump l J (qqf P E ⟨n,id,N,Eo,R⟩ Q)) a w->c'.wp P (Exit.jump l J' (qqf P E ⟨n,id,N,Eo,R⟩ Q)) a w:=by
  intro J J' c' a w hJ h
  refine wp_mono h fun e a' w' he=>?_
  cases e with
  |goto l'=>exact ⟨he.1,hJ _ _ he.2⟩
  |_=>exact he
 refine wp_scope_jumps l (fun a w=>∃ m,∃ x,inv x/\μ x=m/\I P E (L.tpl n x) a w/\(F x).satP Q) (fun a w=>qm7 fun m=>∃ x,inv x/\μ x=m/\I P E (L.tpl n x) a w/\(F x).satP Q) hf ?_ ?_
 ·exact hmono (fun a w ⟨m,_,h⟩=>⟨m,h⟩) (key x a w c (fun m a w=>∃ x,inv x/\μ x=m/\I P E (L.tpl n x) a w/\(F x).satP Q) (fun a w x' q1 q2 q3 q4=>⟨μ x',q2,x',q1,rfl,q3,q4⟩) h1 (hinv x Q hq) hi hq)
 ·rintro a w ⟨m,hm⟩
  obtain ⟨⟨x',q1,q2,q3,q4⟩,_⟩:=qee (p:=fun m=>∃ x,inv x/\μ x=m/\I P E (L.tpl n x) a w/\(F x).satP Q) ⟨m,hm⟩
  refine hmono (fun a1 w1 ⟨m1,r1,r2⟩=>⟨⟨m1,r2⟩,?_⟩) (key x' a w rest (fun m a w=>∃ x,inv x/\μ x=m/\I P E (L.tpl n x) a w/\(F x).satP Q) (fun a w x' q1 q2 q3 q4=>⟨μ x',q2,x',q1,rfl,q3,q4⟩) h2 q1 q3 q4)
  rw [← q2]
  exact Nat.lt_of_le_of_lt ((qee (p:=fun m=>∃ x,inv x/\μ x=m/\I P E (L.tpl n x) a1 w1/\(F x).satP Q) ⟨m1,r2⟩).2 m1 r2) r1
theorem qe.run {C:Cx} (hC:CxOK P C) {c:Code} {L:LS} {p:Pt} {F:L.X->Fr p.Out} (hL:L.low=true) (h:qe P c L p F):qkq P E c (p.han C.Γ L F):=by
 intro s t hs Q hq a w hi
 unfold Pt.han at hs
 split at hs<;>try (cases hs; done)
 rename_i hsn
 split at hs<;>try (cases hs; done)
 rename_i x n hx
 simp only [Option.some.injEq] at hs
 subst hs
 obtain ⟨hq1,hq2⟩:=qav _ hq
 have hi':=qau hC.ct hL hi hx hq1
 rw [hsn] at hi'
 refine wp_mono (h E a w x _ hi' (p.toTr_sat hq2)) ?_
 rintro e a' w' ⟨r,hr,hm⟩
 cases r with
 |next m=>
  obtain ⟨rfl,hi'⟩:=hm
  exact ⟨.normal,_,rfl,hi',hr⟩
 |out y=>
  obtain ⟨rfl,hi'⟩:=hm
  exact ⟨.exit p.id,_,rfl,hi',hr⟩
 |back z=>
  obtain ⟨rfl,hi'⟩:=hm
  exact ⟨.ret,_,rfl,hi',hr⟩
 |pan v=>
  obtain ⟨rfl,s',hn',hi'⟩:=hm
  have hdead:I P E ⟨p.n,fun _=>.dead,fun _=>none,fun _=>.dead⟩ a' w':=by
   have:=qau hC.ct (L:=⟨[],[]⟩) rfl hi' (x:=((),())) (n:=[]) rfl trivial
   rw [hn'] at this
   obtain ⟨F',γ',h⟩:=this
   exact ⟨F',γ',h.n,h.df,h.step,h.mem,fun t=>trivial,fun t g want v ht=>(nomatch ht),fun t=>trivial⟩
  exact ⟨.panic v,_,rfl,hdead,hr⟩
theorem qif {C:Cx} (hC:CxOK P C) {bs:Nat} {Λ:Nat->St->Option Tr} {c:Code} (hΛ:jt P E Λ c 0):qkq P E c (yy P C bs Λ c 0):=
 fun _ _ h _ hq _ _ hi=>yv hC c 0 hΛ h hq hi
theorem qlz {x y:Code} {r1 r2:St->Option Tr} (h1:qkq P E x r1) (h2:qkq P E y r2):qkq P E (.seq x y) (qtc r1 r2):=by
 intro s t h Q hq a w hi
 unfold qtc at h
 split at h<;>try (cases h; done)
 rename_i t1 ht1
 refine wp_seq (wp_mono (h1 s t1 ht1 _ (Tr.sat_bind h hq) a w hi) ?_)
 rintro e a' w' ⟨xe,s',rfl,hi',hq'⟩
 cases xe with
 |normal=>
  obtain ⟨u,hu,hqu⟩:=hq'
  exact h2 _ u hu Q hqu a' w' hi'
 |exit i=>exact ⟨.exit i,s',rfl,hi',hq'⟩
 |ret=>exact ⟨.ret,s',rfl,hi',hq'⟩
 |panic p=>exact ⟨.panic p,s',rfl,hi',hq'⟩
 |val v=>exact ⟨.val v,s',rfl,hi',hq'⟩
 |jump l=>exact ⟨.jump l,s',rfl,hi',hq'⟩
theorem zki {f:FuncId} {fn:Func} {c:Code} {run:St->Option Tr} {ps:List PT} {rs:List Ty} {fr:qm ps->Fr (qi rs)} (x0:qm ps)
  (hf:P.funcs[f]? = some fn) (hb:fn.body=some c) (hrn:∀ E,qkq P E c run) (hrun:∀ xs,zud P run fn ps rs xs=some (fr xs)):qa P f ⟨ps,rs,fun xs=>(fr xs).get,fun xs=>[(fr xs).ok]⟩:=by
 have h0:=hrun x0
 unfold zud at h0
 split at h0<;>try (cases h0; done)
 rename_i hc
 obtain ⟨hname,hn⟩:=hc
 refine ⟨enters hf hb hname,fun w F xs vs hbd hr hok=>calls_of_wp hf hb ?_⟩
 have hr':=hrun xs
 unfold zud at hr'
 rw [if_pos ⟨hname,hn⟩] at hr'
 split at hr'<;>try (cases hr'; done)
 rename_i t ht
 have hlen:vs.length=ps.length:=by
  have:∀ {ps:List PT} {xs:qm ps} {vs:List Value},wn P w F ps xs vs->vs.length=ps.length:=by
   intro ps
   induction ps with
   |nil=>intro xs vs h; cases h; rfl
   |cons p r ih=>
    intro xs vs h
    obtain ⟨v,vs',rfl,_,h3⟩:=h
    simp [ih h3]
  exact this hr
 have hstart:=qiw (D:=[]) (n:=fn.ntmps) hbd (fun R=>qer (R:=R) hr) (by omega)
 have hwp:=hrn _ _ t ht _ (qnt hr' hok) _ _ hstart
 have hsz:(vs.toArray).size=vs.length:=by simp
 rw [hsz]
 refine wp_mono hwp ?_
 rintro e a' w' ⟨xe,s,rfl,⟨F',γ',hi⟩,hxe,n,hend,hnn⟩
 have hfin:a'.defers=[]/\∃ v,(results fn a'.tmps).run P w' = .ok v w'/\qdw w F rs (fr xs).get (.returned v) w':=by
  unfold qa2 at hend
  split at hend<;>try (cases hend; done)
  rename_i avs n' hres
  split at hend<;>try (cases hend; done)
  rename_i axs u hrs
  split at hend<;>try (cases hend; done)
  rename_i y hdec
  simp only [Option.some.injEq] at hend
  obtain ⟨hn',hy⟩:=qlo hend hnn
  subst hy
  obtain ⟨us,hran,hreps⟩:=qip hi hres hn'
  obtain ⟨F'',hs,hm',_,hxs⟩:=ws hi.mem (ke hi) (qa1.of fun _ _ h=>h) hrs hreps
  obtain ⟨γ0,h0⟩:=hi.step
  have hst:=h0.trans hs
  refine ⟨hi.df,_,qdy hran,_,F'',rfl,⟨hst.os,hst.tape,hst.output,hst.size,hst.old⟩,hst.hF,fun b hb=>⟨hst.new b hb,hst.bd b hb⟩,qrc (qdp hdec hxs)⟩
 rcases hxe with rfl | rfl
 ·exact hfin
 ·exact hfin
end
end Go.Ab
namespace Go.Proofs.YtgieagiaagoogaaGreat
open Go Go.Ab Go.RowKit Go.Proofs
abbrev zh:PT:=.pf [i64,i64] [i64]
def qz (g:zh.den) (x y:Int):Bool:=decide ((g.1 (x,y,())).1 < 0)
def qhr (g:zh.den) (l:List Int):Prop:=∀ x ∈ l,∀ y ∈ l,g.2 (x,y,())
theorem qhr.sub {g:zh.den} {l s:List Int} (h:qhr g l) (hs:∀ x ∈ s,x ∈ l):qhr g s:=fun x hx y hy=>h x (hs x hx) y (hs y hy)
theorem yb6 {i j:Nat} (h:i+j<=9223372036854775807):IntKind.i64.wrap ((IntKind.u64.wrap (IntKind.i64.wrap ((i:Int)+j))).fdiv (2 ^ min (Int.toNat 1) IntKind.u64.bits))=((i+j) / 2:Nat):=by
 have h1:IntKind.i64.wrap ((i:Int)+j)=(i:Int)+j:=IntWalk.i64_in _ (by omega)
 have h2:IntKind.u64.wrap ((i:Int)+j)=(i:Int)+j:=IntWalk.u64_in _ (by omega)
 have h3:(2:Int) ^ min (Int.toNat 1) IntKind.u64.bits=2:=by decide
 rw [h1,h2,h3,Int.fdiv_eq_ediv_of_nonneg _ (by decide),IntWalk.i64_in _ (by omega)]
 omega
theorem zbw {i j:Nat} (h:i+j<=9223372036854775807):IntKind.i64.wrap ((i:Int)+j)=(i+j:Nat):=by
 rw [IntWalk.i64_in _ (by omega)]
 omega
theorem qoe {i:Nat} (h:i+1<=9223372036854775807):IntKind.i64.wrap ((i:Int)+1)=(i+1:Nat):=by
 rw [IntWalk.i64_in _ (by omega)]
 omega
theorem qrg {i j:Nat} (h:j<=i) (h2:i<=9223372036854775807):IntKind.i64.wrap ((i:Int) - j)=(i - j:Nat):=by
 rw [IntWalk.i64_in _ (by omega)]
 omega
theorem zlh {i:Nat} (h:1<=i) (h2:i<=9223372036854775807):IntKind.i64.wrap ((i:Int) - 1)=(i - 1:Nat):=by
 rw [IntWalk.i64_in _ (by omega)]
 omega
theorem kx {l:List Int} {i j:Nat}:(qb6 l 0 i j).length=l.length:=by simp [qb6]
theorem zfa {l:List Int} {i j:Nat} (hi:i < l.length) (hj:j < l.length) {x:Int} (h:x ∈ qb6 l 0 i j):x ∈ l:=by
 unfold qb6 at h
 have h1:l.getD i 0 ∈ l:=vo hi
 have h2:l.getD j 0 ∈ l:=vo hj
 rcases List.mem_or_eq_of_mem_set h with h | rfl
 ·rcases List.mem_or_eq_of_mem_set h with h | rfl
  ·exact h
  ·exact h2
 ·exact h1
abbrev qei:Pt:=⟨53,2,⟨[(1,.d i64),(2,.d i64),(3,zh),(8,.d i64),(9,.d i64)],[.al 10000 0,.o 0 3 i64]⟩,⟨[(1,.d i64),(2,.d i64),(3,zh),(8,.d i64)],[.al 10000 0,.o 0 3 i64]⟩,⟨[],[]⟩⟩
noncomputable def zct:Code:=((Go.Ab.loopB (qo Tryz.f202 0) 0).getD .skip)
noncomputable def CI0:Cx:=cx [] []
theorem vq:CxOK Tryz.prog CI0:=zb qv trivial trivial
def zcn (x:qei.M.X):Fr qei.Out:=
 let a:=x.1.1; let j:=x.1.2.2.2.2.1; let g:=x.1.2.2.1; let l:=x.2.1
 Fr.need (decide (j > a)=true->0<=j/\j < l.length)
  (Fr.need (decide (j > a)=true->j.toNat < l.length)
   (Fr.need (decide (j > a)=true->0<=IntKind.i64.wrap (j - 1)/\IntKind.i64.wrap (j - 1) < l.length)
    (Fr.need (decide (j > a)=true->(IntKind.i64.wrap (j - 1)).toNat < l.length)
     (Fr.need (decide (j > a)=true->g.2 (l.getD j.toNat i64.dflt,l.getD (IntKind.i64.wrap (j - 1)).toNat i64.dflt,()))
      (Fr.br (bif decide (j > a) then decide ((g.1 (l.getD j.toNat i64.dflt,l.getD (IntKind.i64.wrap (j - 1)).toNat i64.dflt,())).1 < 0) else false)
       (Fr.need (0<=IntKind.i64.wrap (j - 1)/\IntKind.i64.wrap (j - 1) < l.length)
        (Fr.need ((IntKind.i64.wrap (j - 1)).toNat < l.length)
         (Fr.need (0<=j/\j < l.length)
          (Fr.need (j.toNat < l.length)
           (Fr.need (0<=j/\j < l.length)
            (Fr.need (j.toNat < l.length)
             (Fr.need (0<=IntKind.i64.wrap (j - 1)/\IntKind.i64.wrap (j - 1) < (l.set j.toNat (l.getD (IntKind.i64.wrap (j - 1)).toNat i64.dflt)).length)
              (Fr.need ((IntKind.i64.wrap (j - 1)).toNat < (l.set j.toNat (l.getD (IntKind.i64.wrap (j - 1)).toNat i64.dflt)).length)
               (Fr.val (Rd.next ((a,x.1.2.1,(g.1,g.2),x.1.2.2.2.1,IntKind.i64.wrap (j - 1),()),
                ((l.set j.toNat (l.getD (IntKind.i64.wrap (j - 1)).toNat i64.dflt)).set (IntKind.i64.wrap (j - 1)).toNat (l.getD j.toNat i64.dflt),()))))))))))))
       (Fr.val (Rd.out ((a,x.1.2.1,(g.1,g.2),x.1.2.2.2.1,()),(l,())))))))))
theorem yd2:qe Tryz.prog zct qei.M qei zcn:=
 qe.of_run vq (bs:=0) (Λ:=qp) rfl rfl rfl (fun E=>qd _ 0) (fun x=>by kernel_rfl)
structure InvInsI (a j:Int) (g:zh.den) (l:List Int):Prop where
 a0:0<=a
 aj:a<=j
 jl:j < l.length
 big:(l.length:Int)<=9223372036854775807
 dom:qhr g l
def zql (x:qei.M.X):Fr qei.Out:=
 Fr.need (InvInsI x.1.1 x.1.2.2.2.2.1 x.1.2.2.1 x.2.1) (Fr.val (Rd.out ((x.1.1,x.1.2.1,x.1.2.2.1,x.1.2.2.2.1,()),(wc (qz x.1.2.2.1) 0 x.1.1.toNat x.1.2.2.2.2.1.toNat x.2.1,()))))
theorem yip (a b i j:Int) (g:zh.den) (l:List Int) (hinv:InvInsI a j g l) (Q:qei.Out->Prop)
  (hq:Q (Rd.out ((a,b,g,i,()),(wc (qz g) 0 a.toNat j.toNat l,())))):(zcn ((a,b,g,i,j,()),(l,()))).satP fun
   |.next x'=>InvInsI x'.1.1 x'.1.2.2.2.2.1 x'.1.2.2.1 x'.2.1/\x'.1.2.2.2.2.1.toNat < j.toNat/\(zql x').satP Q
   |.out y=>Q (.out y)
   |.back z=>Q (.back z)
   |.pan p=>Q (.pan p):=by
 obtain ⟨h0,h1,h2,h3,h4⟩:=hinv
 obtain ⟨a',rfl⟩:∃ n:Nat,a=n:=⟨a.toNat,by omega⟩
 obtain ⟨j',rfl⟩:∃ n:Nat,j=n:=⟨j.toNat,by omega⟩
 dsimp only [zcn,Fr.satP,Ty.den,PT.den]
 by_cases hj:a' < j'
 ·obtain ⟨k,rfl⟩:∃ k,j'=k+1:=⟨j' - 1,by omega⟩
  have hkl:k+1 < l.length:=by omega
  have hw:IntKind.i64.wrap (((k+1:Nat):Int) - 1)=(k:Nat):=by rw [zlh (by omega) (by omega)]; rfl
  have hd:decide (((k+1:Nat):Int) > (a':Int))=true:=decide_eq_true (by omega)
  have t1:((k+1:Nat):Int).toNat=k+1:=rfl
  have t2:((k:Nat):Int).toNat=k:=rfl
  rw [hw,hd,t1,t2]
  simp only [List.length_set]
  refine ⟨fun _=>⟨by omega,by omega⟩,fun _=>by omega,fun _=>⟨by omega,by omega⟩,fun _=>by omega,fun _=>h4 _ (vo hkl) _ (vo (by omega)),fun hc=>?_,fun hc=>?_⟩
  ·refine ⟨⟨by omega,by omega⟩,by omega,⟨by omega,by omega⟩,by omega,⟨by omega,by omega⟩,by omega,⟨by omega,by omega⟩,by omega,?_⟩
   have hI:InvInsI a' k g (qb6 l 0 (k+1) k):=⟨by omega,by omega,by rw [kx]; omega,by rw [kx]; omega,h4.sub fun x hx=>zfa hkl (by omega) hx⟩
   refine ⟨hI,by omega,hI,?_⟩
   simp only [Int.toNat_natCast,wc] at hq ⊢
   rw [if_pos (by omega)] at hq
   have hc':qz g (l.getD (k+1) 0) (l.getD k 0)=true:=hc
   rw [hc'] at hq
   exact hq
  ·simp only [Int.toNat_natCast,wc] at hq
   rw [if_pos (by omega)] at hq
   have hc':qz g (l.getD (k+1) 0) (l.getD k 0)=false:=hc
   rw [hc'] at hq
   exact hq
 ·have hd:decide ((j':Int) > (a':Int))=false:=decide_eq_false (by omega)
  rw [hd]
  refine ⟨fun h=>(by cases h),fun h=>(by cases h),fun h=>(by cases h),fun h=>(by cases h),fun h=>(by cases h),fun hc=>(by cases hc),fun _=>?_⟩
  have hx:wc (qz g) 0 a' j' l=l:=by
   cases j' with
   |zero=>rfl
   |succ k=>simp only [wc]; rw [if_neg (by omega)]
  simp only [Int.toNat_natCast,hx] at hq
  exact hq
theorem ycs:qe Tryz.prog (.loop zct) qei.M qei zql:=by
 refine qe.loop (n:=53) (id:=2) yd2 (inv:=fun x=>InvInsI x.1.1 x.1.2.2.2.2.1 x.1.2.2.1 x.2.1) (μ:=fun x=>x.1.2.2.2.2.1.toNat) ?_ (fun x Q h=>h.1)
 rintro ⟨⟨a,b,g,i,j,_⟩,⟨l,_⟩⟩ hinv Q hq
 exact yip a b i j g l hinv Q hq.2
end Go.Proofs.YtgieagiaagoogaaGreat
