/-
  Parts of the proof, one behind the other: L1, L6, L7, N1, N2, N3, N4, K2, N5, N6, S19, S11, S12, S13, S20, S23, S24, S22, S25, S26, S27, S28, S29, S31, S32, S33, S34, S35, S36, S38, S39, S40, S63, S64, S41, S47, S45, B6, S55, S56, S57, S58, S59, S65, S66, S67, S68, S69, S70.
-/
import Derived.Test.YtgieagiaagoogaaGreatMf
import Derived.Maps.OwnIn
import Derived.RegionTactic
import Derived.Deep.MidRow
set_option linter.all false
namespace Go.Proofs.YtgieagiaagoogaaGreat
open Go Go.Ab Go.RowKit Go.Proofs Tryz
open Go.Ab.Fr renaming val->Jv,need->Jd,br->Jb
def fa:Code->Code
 |.seq _ c=>c
 |_=>.skip
def lN:Code->Code
 |.seq c _=>c
 |_=>.skip
def Eb:Code->Array Oper
 |.region _ ops _=>ops
 |_=>#[]
noncomputable def jM:Code:=(f73.body.map λc=>fa (fa c)).getD .skip
noncomputable def xX:Cx:=cx [(104,fz)] [(108,dE),(109,fe),(110,fL)]
def xY:CxOK prog xX:=aJ aG ⟨Lf,uT⟩ ⟨Pe,Ko,VX,uT⟩
noncomputable def U5:St->Option Tr:=
 ug (cU prog xX 0 dM (lN jM) 0) (ug (cU prog xX 0 dM (lN (fa jM)) 0)
  (ug (KS prog xX 0 (Eb (lN (fa (fa jM)))).toList) (cU prog xX 0 dM (fa (fa (fa jM))) 0)))
def ID (b1 b2:Bool) (p1 p2:PV) (v:Int):Fr (ae [i64,i64]):=
 Jb b1 (Jd (b1=false->b1=false) (Jd (b1=true->True/\p1=p1) (Jd (b2=false->b2=false) (Jd (b2=true->True/\p2=p1) (Jd (inR .i64 p1.n) (Jv (0,p1.n,())))))))
  (Jb b2 (Jd (b1=false->b1=false) (Jd (b1=true->True/\p1=p2) (Jd (b2=false->b2=false) (Jd (b2=true->True/\p2=p2) (Jd (inR .i64 p2.n) (Jv (0,p2.n,())))))))
   (Jd (b1=false) (Jd (b2=false) (Jv (v,0,())))))
def IC (f:bj.den) (a b:Int):Fr (ae [i64,i64]):=
 ID (fL.bad (f,b,())) (fL.bad (f,a,())) (fL.pv (f,b,())) (fL.pv (f,a,())) (I6.wrap ((fL.f (f,b,())).1-(fL.f (f,a,())).1))
def QB (x:aq [.d bY,.d bR]):Fr (ae [i64,i64]):=
 let c:=fe.pv (1,());let b:=dE.pv (x.1,());let a:=IC (dE.f (x.1,())).1 x.2.1.1 x.2.1.2.1;Jb (dE.bad (x.1,())) (Jd (inR .i64 b.n) (Jv (0,b.n,())))
  (Jb (!(fz.f (x.2.1,())).1)
   (Jb (fe.bad (1,())) (Jd (inR .i64 c.n) (Jv (0,c.n,()))) a)
   a)
def qzx (E:Env):mK prog E jM U5:=
 Bk (x:=lN jM) (y:=fa jM) (vD xY (bL _ 0)) (Bk (x:=lN (fa jM)) (y:=fa (fa jM)) (vD xY (bL _ 0))
  (Bk (x:=lN (fa (fa jM))) (y:=fa (fa (fa jM))) (qyt (id:=5) (ops:=Eb (lN (fa (fa jM)))) xY) (vD xY (bL _ 0))))
def WH:aa prog 73 (aL [.d bY,.d bR] [i64,i64] QB):=
 qgt xY (run:=U5) (fn:=f73) (A:=lN (f73.body.getD .skip)) (c:=jM) (rid:=1) (ops:=Eb (lN (fa (f73.body.getD .skip)))) (tp:=5) (fr:=QB) (ps:=[.d bY,.d bR]) (rs:=[i64,i64]) ([],(0,0,()),()) (by kernel_rfl) (by kernel_rfl) (by kernel_rfl) VK qzx (λx=>by kernel_rfl)
def qxl {u1 u2:Int×Int} {b1 b2:Bool} {v:Int} (h1:b1 = !(u1.2==0)) (h2:b2 = !(u2.2==0)) :
  (if b1=true then ((0:Int),u1.2,()) else if b2=true then ((0:Int),u2.2,()) else (v,(0:Int),())) =
   ((if u1.2≠0 then ((0:Int),u1.2) else if u2.2≠0 then ((0:Int),u2.2) else (v,(0:Int))).1,(if u1.2≠0 then ((0:Int),u1.2) else if u2.2≠0 then ((0:Int),u2.2) else (v,(0:Int))).2,()):=by
 subst h1;subst h2;by_cases q1:u1.2=0
 ·by_cases q2:u2.2=0
  ·simp[q1,q2]
  ·simp[q1,q2]
 ·simp[q1]
def NU {a b:Int} (h1:0<=a/\a<=4000000000000000000) (h2:0<=b/\b<=4000000000000000000) : -9223372036854775808<=a-b/\a-b<=9223372036854775807:=by omega
def qmb {b1 b2:Bool} {p1 p2:PV} {v:Int} (h:b1=true->b2=true->p2=p1) (h1:inR .i64 p1.n) (h2:inR .i64 p2.n) :
  (ID b1 b2 p1 p2 v).ok/\(ID b1 b2 p1 p2 v).get=if b1=true then (0,p1.n,()) else if b2=true then (0,p2.n,()) else (v,0,()):=by
 cases b1 with
 |true=>exact⟨⟨λ_=>⟨λh=>(by cases h),λ_=>⟨uT,rfl⟩,λh=>h,λhb=>⟨uT,h rfl hb⟩,h1,uT⟩,λh=>(by cases h)⟩,rfl⟩
 |false=>
  cases b2 with
  |true=>exact⟨⟨λh=>(by cases h),λ_=>⟨λ_=>⟨λh=>h,λh=>(by cases h),λh=>(by cases h),λ_=>⟨uT,rfl⟩,h2,uT⟩,λh=>(by cases h)⟩⟩,rfl⟩
  |false=>exact⟨⟨λh=>(by cases h),λ_=>⟨λh=>(by cases h),λ_=>⟨rfl,rfl,uT⟩⟩⟩,rfl⟩
def dC (l:List af.den) (s:bR.den):Int×Int:=
 if (eD l).isNone=true\/e9 s=false then (0,1)
 else if (bZ (bV l) s.2.1).2≠0 then (0,(bZ (bV l) s.2.1).2)
 else if (bZ (bV l) s.1).2≠0 then (0,(bZ (bV l) s.1).2)
 else ((bZ (bV l) s.2.1).1-(bZ (bV l) s.1).1,0)
def oF:Ct:=⟨[.d bY,.d bR],[i64,i64],λx=>((dC x.1 x.2.1).1,(dC x.1 x.2.1).2,()),λ_=>[]⟩
def qbr:aa prog 73 oF:=
 conv WH _ _ λw F xs vs hr _=>by
  obtain⟨l,s,_⟩:=xs;by_cases hc:(eD l).isNone=true
  ·have hb:dE.bad (l,())=true:=hc;refine⟨⟨λ_=>⟨vQ Ie,uT⟩,λh=>(by have h':dE.bad (l,())=false:=h; rw[hb] at h'; cases h')⟩,?_⟩;show(if dE.bad (l,())=true then ((0:Int),(1:Int),()) else _)=((dC l s).1,(dC l s).2,());unfold dC;rw[hb,if_pos rfl,if_pos (.inl hc)]
  ·have hc':(eD l).isNone=false:=ucx.2 hc;have hb:dE.bad (l,())=false:=hc';have hp:=H6 hc';by_cases hs:e9 s=true
   ·have hn:(!(fz.f (s,())).1)=false:=by show(!(e9 s))=false; rw[hs]; rfl
    have hpv:fL.bad (bV l,s.2.1,())=true->fL.bad (bV l,s.1,())=true->fL.pv (bV l,s.1,())=fL.pv (bV l,s.2.1,()):=by
     intro h1 h2;have key:∀ d,fL.bad (bV l,d,())=true->(bZ (bV l) d).2=5:=λd hd=>by
      have hd':(!((bZ (bV l) d).2==0))=true:=hd;rw[Mb hp] at hd' |-;split
      ·rename_i hle;rw[if_pos hle] at hd';cases hd'
      ·rfl
     show(⟨_,_,(bZ (bV l) s.1).2⟩:PV)=⟨_,_,(bZ (bV l) s.2.1).2⟩;rw[key _ h1,key _ h2]
    obtain⟨k1,k2⟩:=qmb (v:=I6.wrap ((fL.f (bV l,s.2.1,())).1-(fL.f (bV l,s.1,())).1)) hpv (vQ (Mc (bV l) s.2.1)) (vQ (Mc (bV l) s.1));refine⟨⟨λh=>(by have h':dE.bad (l,())=true:=h; rw[hb] at h'; cases h'),λ_=>⟨λh=>(by have h':(!(fz.f (s,())).1)=true:=h; rw[hn] at h'; cases h'),λ_=>k1⟩⟩,?_⟩;show(if dE.bad (l,())=true then _ else if (!(fz.f (s,())).1)=true then _ else (IC (bV l) s.1 s.2.1).get)=((dC l s).1,(dC l s).2,());rw[hb,if_neg (by decide),hn,if_neg (by decide)];refine k2.trans ?_;have hw:=cD (NU (Bq (bV l) s.2.1) (Bq (bV l) s.1));have hG:dC l s=if (bZ (bV l) s.2.1).2≠0 then (0,(bZ (bV l) s.2.1).2) else if (bZ (bV l) s.1).2≠0 then (0,(bZ (bV l) s.1).2) else ((bZ (bV l) s.2.1).1-(bZ (bV l) s.1).1,0):=if_neg (λh=>h.elim hc (λh=>by rw[hs] at h; cases h))
    rw[hG,<- hw];exact qxl rfl rfl
   ·have hn:(!(fz.f (s,())).1)=true:=by show(!(e9 s))=true; simpa using hs
    refine⟨⟨λh=>(by have h':dE.bad (l,())=true:=h; rw[hb] at h'; cases h'),λ_=>⟨λ_=>⟨λ_=>⟨vQ Ie,uT⟩,λh=>(by cases h)⟩,λh=>(by have h':(!(fz.f (s,())).1)=false:=h; rw[hn] at h'; cases h')⟩⟩,?_⟩;show(if dE.bad (l,())=true then _ else if (!(fz.f (s,())).1)=true then ((0:Int),(1:Int),()) else _)=((dC l s).1,(dC l s).2,());have hB:dC l s=(0,1):=if_pos (.inr (by simpa using hs));rw[hb,if_neg (by decide),hn,if_pos rfl,hB]
open Go.Ab.Fr renaming val->Jv,need->Jd,br->Jb
noncomputable def X1:Cx:=cx [(46,ew),(71,sr),(72,Ci),(73,oF),(74,gj)] []
def X2:CxOK prog X1:=aJ aG ⟨Kx,zed,qdl,qbr,Oa,uT⟩ trivial
def tj (h:ap.den) (a:Int):List (List ar.den):=
 [List.take (a-0).toNat (List.drop (0:Int).toNat (aw h)),List.take (((aw h).length:Int)-I6.wrap (a+1)).toNat (List.drop (I6.wrap (a+1)).toNat (aw h))]
def qS (h:ap.den) (l:List ar.den):ap.den:=(h.1,h.2.1,h.2.2.1,l,())
def IS (h x:ap.den) (t:aP.den) (day:Int):Fr (ae [i64,i64]):=
 let c:=ew.f (x,t,());let a:=oF.f (c.1,(day,h.2.2.1.1.2.1,()),());let b:=gj.f (a.1,1000,());Jd (bD x) (Jd (bT t)
  (Jb (c.2.1 != 0) (Jv (0,c.2.1,()))
   (Jb (a.2.1 != 0) (Jv (0,a.2.1,()))
    (Jv (b.1,b.2.1,())))))
def Dm (x:aq [.d ap,.d aP]):Fr (ae [i64,i64]):=
 let h:ap.den:=x.1; let t:aP.den:=x.2.1
 let a:Int:=(sr.f (h,())).1; let is:Bool:=(sr.f (h,())).2.1
 Jd (bD h) (Jd (bT t) (Jb ((ew.f (h,t,())).2.1 != 0) (Jv (0,(ew.f (h,t,())).2.1,()))
  (Jd (((aw h).length:Int)<=1000000)
   (Jd ((!is)=false->0<=a/\a<((aw h).length:Int))
    (Jd ((bif !is then true else ((aw h).getD a.toNat ar.dflt).2.2.1 != 3)=false->0<=a/\a<((aw h).length:Int))
     (Jb (bif bif !is then true else ((aw h).getD a.toNat ar.dflt).2.2.1 != 3 then true else ((aw h).getD a.toNat ar.dflt).2.2.2.2.2.1 != 1) (Jv (0,0,()))
      (Jd (0<=a/\a<((aw h).length:Int))
       (Jd (0<=(none:Option Int).getD 0/\(none:Option Int).getD 0<=a/\a<=((aw h).length:Int))
        (Jd (0<=I6.wrap (a+1)/\I6.wrap (a+1)<=((aw h).length:Int)/\((aw h).length:Int)<=((aw h).length:Int))
         (Jd ((tj h a).flatten.length<=1000000)
          (IS h (qS h (Ci.f (tj h a,())).1) t ((aw h).getD a.toNat ar.dflt).2.1)))))))))))
def qpo:aa prog 45 (aL [.d ap,.d aP] [i64,i64] Dm):=
 aH X2 f45
def mG (h:ap.den) (a:Nat):ap.den:=qS h ((aw h).take a++(aw h).drop (a+1))
def nj (h:ap.den) (t:aP.den) (a:Int):Int×Int:=
 if (aQ h a).2.2.1=3/\(aQ h a).2.2.2.2.2.1=1 then
  (if (bJ (mG h a.toNat) t).2=0 then
   (if (dC (bJ (mG h a.toNat) t).1 ((aQ h a).2.1,h.2.2.1.1.2.1,())).2=0 then dP (dC (bJ (mG h a.toNat) t).1 ((aQ h a).2.1,h.2.2.1.1.2.1,())).1 1000
    else (0,(dC (bJ (mG h a.toNat) t).1 ((aQ h a).2.1,h.2.2.1.1.2.1,())).2))
   else (0,(bJ (mG h a.toNat) t).2))
 else (0,0)
def fj (h:ap.den) (t:aP.den):Int×Int:=
 if (bJ h t).2=0 then (match iX h with|none=>(0,0)|some a=>nj h t a) else (0,(bJ h t).2)
def sj:Ct:=⟨[.d ap,.d aP],[i64,i64],λx=>((fj x.1 x.2.1).1,(fj x.1 x.2.1).2,()),λx=>[bD x.1,bT x.2.1]⟩
def VO (h:ap.den) (l:List Int):(k:Nat)->k<=l.length->∀ v,gw h l k=some v->v∈l/\lP (aQ h v)=true
 |0,_,_,hv=>by cases hv
 |k+1,hk,v,hv=>by
  unfold gw at hv;split at hv
  ·rename_i ht;cases hv;refine⟨?_,ht⟩;have:l.getD k 0=l[k]:=by rw[uah,uap (by omega)]; rfl
   rw[this];exact udg _
  ·exact VO h l k (by omega) v hv
def VP {h:ap.den} {a:Int} (ha:iX h=some a):(0<=a/\a<((aw h).length:Int))/\lP (aQ h a)=true:=by
 obtain⟨h1,h2⟩:=VO h (bQ h) _ (ufa _) a ha;exact⟨tc h1,h2⟩
def qxi {h:ap.den} {a:Nat} (ha:a<(aw h).length) (hf:(aw h).length<=1000000):I6.wrap ((a:Int)+1)=((a+1:Nat):Int)/\(tj h a).flatten=(aw h).take a++(aw h).drop (a+1):=by
 have w:I6.wrap ((a:Int)+1)=((a+1:Nat):Int):=by rw[cD (by omega)]; omega
 refine⟨w,?_⟩;unfold tj;rw[w,ueq,ucy,ucy,show(((aw h).length:Int)-((a+1:Nat):Int)).toNat=(aw h).length-(a+1) by omega];have e:List.take ((aw h).length-(a+1)) (List.drop (a+1) (aw h))=List.drop (a+1) (aw h):=ua1 (by rw[uc4]; exact ufa _);rw[e];simp
def Wp {h:ap.den} (hf:bD h) (a:Nat):bD (mG h a):=by
 have hsub:List.Sublist ((aw h).take a++(aw h).drop (a+1)) (aw h):=by
  conv=>rhs; rw[<- ua8 a (aw h)]
  refine List.Sublist.append (List.Sublist.refl _) ?_;rw[<- List.drop_drop];exact List.drop_sublist 1 _
 refine⟨uen (List.Sublist.length_le hsub) hf.1,hf.2.1,λc hc=>hf.2.2 c (hsub.subset hc)⟩
def BU {b:Bool} {x y:Int}:(bif bif !b then true else x != 3 then true else y != 1)=false↔b=true/\x=3/\y=1:=by
 cases b with
 |false=>simp
 |true=>
  by_cases h1:x=3
  ·by_cases h2:y=1
   ·simp[h1]
   ·simp[h1]
  ·simp
def qpt {h x:ap.den} {t:aP.den} {day:Int} (hx:bD x) (ht:bT t):(IS h x t day).ok/\(IS h x t day).get =
  (let r:Int×Int:=if (bJ x t).2=0 then (if (dC (bJ x t).1 (day,h.2.2.1.1.2.1,())).2=0 then dP (dC (bJ x t).1 (day,h.2.2.1.1.2.1,())).1 1000 else (0,(dC (bJ x t).1 (day,h.2.2.1.1.2.1,())).2)) else (0,(bJ x t).2)
   (r.1,r.2,())):=by
 refine au hx (au ht ?_);by_cases h1:(bJ x t).2=0
 ·refine ax (by show((bJ x t).2 != 0)=false; simp[h1]) ?_;simp only[h1];by_cases h2:(dC (bJ x t).1 (day,h.2.2.1.1.2.1,())).2=0
  ·refine ax (by show((dC (bJ x t).1 (day,h.2.2.1.1.2.1,())).2 != 0)=false; simp[h2]) ⟨uT,?_⟩;simp only[h2];rfl
  ·refine ay (by show((dC (bJ x t).1 (day,h.2.2.1.1.2.1,())).2 != 0)=true; simp[h2]) ⟨uT,?_⟩;simp only[h2];rfl
 ·refine ay (by show((bJ x t).2 != 0)=true; simp[h1]) ⟨uT,?_⟩;simp only[h1];rfl
def qpl (h:ap.den) (t:aP.den) (hf:bD h) (ht:bT t):(Dm (h,t,())).ok/\(Dm (h,t,())).get=((fj h t).1,(fj h t).2,()):=by
 have hl:=hf.1;refine au hf (au ht ?_);unfold fj;by_cases h1:(bJ h t).2=0
 ·refine ax (by show((bJ h t).2 != 0)=false; simp[h1]) (au (show((aw h).length:Int)<=1000000 by omega) ?_);rw[if_pos h1];cases ho:iX h with
  |none=>
   have e2:(sr.f (h,())).2.1=false:=by show(iX h).isSome=false; rw[ho]; rfl
   rw[e2];exact au (λhh=>by cases hh) (au (λhh=>by cases hh) (ay rfl ⟨uT,rfl⟩))
  |some a=>
   obtain⟨⟨a0,a1⟩,hT⟩:=VP ho;have e1:(sr.f (h,())).1=a:=by show(iX h).getD 0=a; rw[ho]; rfl
   have e2:(sr.f (h,())).2.1=true:=by show(iX h).isSome=true; rw[ho]; rfl
   rw[e1,e2];refine au (λ_=>⟨a0,a1⟩) (au (λ_=>⟨a0,a1⟩) ?_);show _/\_=((nj h t a).1,(nj h t a).2,());cases hb:(bif bif !true then true else ((aw h).getD a.toNat ar.dflt).2.2.1 != 3 then true else ((aw h).getD a.toNat ar.dflt).2.2.2.2.2.1 != 1) with
   |true=>
    refine ay rfl ⟨uT,?_⟩;have hn:¬ ((aQ h a).2.2.1=3/\(aQ h a).2.2.2.2.2.1=1):=λhh=>by
     have hb':(bif bif !true then true else (aQ h a).2.2.1 != 3 then true else (aQ h a).2.2.2.2.2.1 != 1)=true:=hb;rw[BU.2 ⟨rfl,hh⟩] at hb';cases hb'
    unfold nj;rw[if_neg hn];rfl
   |false=>
    obtain⟨_,k1,k2⟩:=BU.1 hb;obtain⟨n,rfl⟩:∃ n:Nat,a=n:=⟨a.toNat,by omega⟩;obtain⟨w,hfl⟩:=qxi (h:=h) (a:=n) (by omega) (by omega);have hwf:=Wp hf n;have hlen:((tj h n).flatten).length<=1000000:=by
     rw[hfl];have:(aw (mG h n)).length<=500000:=hwf.1;exact uen this (by decide)
    have q1:0<=I6.wrap ((n:Int)+1)/\I6.wrap ((n:Int)+1)<=((aw h).length:Int):=by rw[w]; omega
    refine ax rfl (au ⟨a0,a1⟩ (au ⟨ufb _,a0,ues a1⟩ (au ⟨q1.1,q1.2,ufb _⟩ (au hlen ?_))));have hx:qS h (Ci.f (tj h n,())).1=mG h n:=by
     show qS h (List.flatten (tj h n))=qS h _;rw[hfl]
    rw[hx];have:=qpt (h:=h) (day:=(aQ h n).2.1) hwf ht;refine⟨this.1,this.2.trans ?_⟩;unfold nj;have hk:(aQ h n).2.2.1=3/\(aQ h n).2.2.2.2.2.1=1:=⟨k1,k2⟩;rw[if_pos hk,ucy]
 ·refine ay (by show((bJ h t).2 != 0)=true; simp[h1]) ⟨uT,?_⟩;rw[if_neg h1];rfl
def qpg:aa prog 45 sj:=
 cg qpo _ _ (λw F x vs hr hok=>by
  obtain⟨h,t,_⟩:=x;exact qpl h t hok.1 hok.2)
open Go.Ab.Fr renaming val->Jv,need->Jd,br->Jb
def Kb (h:ap.den) (t:aP.den):0<=(fj h t).1/\(fj h t).1<=4000000000000000000:=by
 have z:(0:Int)<=0/\(0:Int)<=4000000000000000000:=by decide
 unfold fj;split
 ·split
  ·exact z
  ·unfold nj;split
   ·split
    ·split
     ·exact Qg _ _ _ (by decide)
     ·exact z
    ·exact z
   ·exact z
 ·exact z
def Gv (l:List af.den) (d:Int):0<=(dg l d).1/\(dg l d).1<=4000000000000000000:=by
 unfold dg;split
 ·exact Fs
 ·exact Bq _ _
def qwy {a b:Int}:a>4000000000000000000-b↔4000000000000000000<a+b:=by omega
def PL (w k:Int):Int×Int:=if 4000000000000000000<w+k then (0,5) else (w+k,0)
def lE (h:ap.den) (t:aP.den):Int×Int:=
 if (fj h t).2=0 then (if (dg (bJ h t).1 292195).2=0 then PL (dg (bJ h t).1 292195).1 (fj h t).1 else (0,(dg (bJ h t).1 292195).2)) else (0,(fj h t).2)
def vd:Ct:=⟨[.d ap,.d aP],[i64,i64],λx=>((lE x.1 x.2.1).1,(lE x.1 x.2.1).2,()),λx=>[bD x.1,bT x.2.1]⟩
noncomputable def WS:Cx:=cx [(45,sj),(46,ew),(47,ss)] []
def WT:CxOK prog WS:=aJ aG ⟨qpg,Kx,ZY,uT⟩ trivial
def Dh (h:ap.den) (t:aP.den) (over:Bool):Fr (ae [i64,i64]):=
 let K:ae [i64,i64]:=sj.f (h,t,()); let W:ae [i64,i64]:=ss.f ((ew.f (h,t,())).1,())
 Jd (bD h) (Jd (bT t) (Jb (K.2.1 != 0) (Jv (0,K.2.1,()))
  (Jd (bD h) (Jd (bT t) (Jb (W.2.1 != 0) (Jv (0,W.2.1,()))
   (Jb over (Jv (0,5,())) (Jv (I6.wrap (W.1+K.1),0,()))))))))
def QF (x:aq [.d ap,.d aP]):Fr (ae [i64,i64]):=
 let a:=(x.1,x.2.1,());Dh x.1 x.2.1 (decide ((ss.f ((ew.f a).1,())).1>I6.wrap (4000000000000000000-(sj.f a).1)))
def qgs:aa prog 20 (aL [.d ap,.d aP] [i64,i64] QF):=
 aH WT f20 (fr:=QF) (ps:=[.d ap,.d aP]) (rs:=[i64,i64])
def PK {h:ap.den} {t:aP.den} {over:Bool} (hf:bD h) (ht:bT t) (ho:over=decide (4000000000000000000<(dg (bJ h t).1 292195).1+(fj h t).1)) :
  (Dh h t over).ok/\(Dh h t over).get=((lE h t).1,(lE h t).2,()):=by
 have k:=Kb h t;have u:=Gv (bJ h t).1 292195;refine au hf (au ht ?_);unfold lE;by_cases h1:(fj h t).2=0
 ·rw[if_pos h1];refine ax (by show((fj h t).2 != 0)=false; simp[h1]) (au hf (au ht ?_));by_cases h2:(dg (bJ h t).1 292195).2=0
  ·rw[if_pos h2];refine ax (by show((dg (bJ h t).1 292195).2 != 0)=false; simp[h2]) ?_;unfold PL;by_cases h3:4000000000000000000<(dg (bJ h t).1 292195).1+(fj h t).1
   ·rw[if_pos h3];exact ay (ho.trans (ud8 h3)) ⟨uT,rfl⟩
   ·rw[if_neg h3];refine ax (ho.trans (udt h3)) ⟨uT,?_⟩;show(I6.wrap ((dg (bJ h t).1 292195).1+(fj h t).1),(0:Int),())=_;rw[cD (by omega)]
  ·rw[if_neg h2];exact ay (by show((dg (bJ h t).1 292195).2 != 0)=true; simp[h2]) ⟨uT,rfl⟩
 ·rw[if_neg h1];exact ay (by show((fj h t).2 != 0)=true; simp[h1]) ⟨uT,rfl⟩
def qgr:aa prog 20 vd:=
 cg qgs _ _ (λw F x vs hr hok=>by
  obtain⟨h,t,_⟩:=x;have k:=Kb h t;have u:=Gv (bJ h t).1 292195;refine PK hok.1 hok.2 ?_;show decide ((dg (bJ h t).1 292195).1>I6.wrap (4000000000000000000-(fj h t).1))=_;rw[cD (by omega)];exact udf.2 qwy)
def qal {h:ap.den} {c:ar.den} (hf:bD h) (hl:(aw h).length<2000) (hc:c.2.2.2.2.1.length<=1000000):bD (BM h c):=by
 have e:aw (BM h c)=([]++aw h)++[c]:=rfl;refine⟨?_,hf.2.1,λc' hc'=>?_⟩
 ·rw[e,udk,ub4];show _+1<=500000;omega
 ·rw[e,udk,udq] at hc';rcases hc' with hc'|hc'
  ·exact hf.2.2 c' hc'
  ·cases ucd.1 hc';exact hc
def KN {h:ap.den} {c:ar.den} (hf:bD h):bD (mu h c).1:=by
 have z:bD fh:=⟨by decide,by decide,λc hc=>by cases hc⟩;unfold mu;split
 ·rename_i h1;split
  ·exact z
  ·split
   ·exact z
   ·exact qal hf (by omega) (OC h1.1)
 ·exact z
end Go.Proofs.YtgieagiaagoogaaGreat
namespace Go.Proofs.YtgieagiaagoogaaGreat
open Go Go.Ab Go.RowKit Go.Proofs Go.Shelf Tryz
open Go.Ab.Fr renaming val->Jv,need->Jd,br->Jb
attribute [local go_sem] Oper.semAt_some
structure ChC where
 p:Nat->Int
 A:Option Addr
 l:Nat
 c:Nat
def ec (d:ChC):Array Value:=#[.int .i64 (d.p 0),.int .i64 (d.p 1),.int .i64 (d.p 2),.int .i64 (d.p 3),.int .i64 (d.p 4),.int .i64 (d.p 5),.int .i64 (d.p 6),.slice d.A d.l d.c,.int .i64 (d.p 7)]
def qf (d:ChC):Value:=.agg (ec d)
abbrev cX:Type:=Option Addr×Nat×Nat
def ChC.set (d:ChC) (s:cX):ChC:=⟨d.p,s.1,s.2.1,s.2.2⟩
def qcl {w:World} {F:Nat->Prop} {x:ar.den} {g:Nat->Value->Prop} (h:aD w F ar x g) :
  ∃ d:ChC,(∀ j u,(ec d)[j]? = some u->g j u)/\d.p 0=x.1/\aD w F (.sl ak) x.2.2.2.2.1 (λ_ u=>u = .slice d.A d.l d.c) /\
   ∀ (s:cX) (Y:World) (F2:Nat->Prop),aD Y F2 (.sl ak) x.2.2.2.2.1 (λ_ u=>u = .slice s.1 s.2.1 s.2.2)->bq Y F2 ar x (qf (d.set s)):=by
 obtain⟨h0,h1,h2,⟨b0,b1,b2,b3,_⟩,⟨A,c,h3,h3'⟩,h4,_⟩:=h;refine⟨⟨λj=>match j with|0=>x.1|1=>x.2.1|2=>x.2.2.1|3=>x.2.2.2.1.1|4=>x.2.2.2.1.2.1|5=>x.2.2.2.1.2.2.1|6=>x.2.2.2.1.2.2.2.1|_=>x.2.2.2.2.2.1,A,x.2.2.2.2.1.length,c⟩,λj u hj=>?_,rfl,⟨A,c,rfl,h3'⟩,λs Y F2 hs=>⟨rfl,⟨λ_=>⟨_,rfl⟩,λ_=>rfl⟩,⟨rfl,h0.2⟩,⟨rfl,h1.2⟩,⟨rfl,h2.2⟩,⟨⟨rfl,b0.2⟩,⟨rfl,b1.2⟩,⟨rfl,b2.2⟩,⟨rfl,b3.2⟩,uT⟩,?_,⟨rfl,h4.2⟩,uT⟩⟩
 rotate_left
 ·obtain⟨A2,c2,e,h⟩:=hs;refine⟨A2,c2,?_,h⟩;show some (Value.slice s.1 s.2.1 s.2.2)=_;rw[e]
 match j,hj with
 |0,hj=>cases hj; exact h0.1
 |1,hj=>cases hj; exact h1.1
 |2,hj=>cases hj; exact h2.1
 |3,hj=>cases hj; exact b0.1
 |4,hj=>cases hj; exact b1.1
 |5,hj=>cases hj; exact b2.1
 |6,hj=>cases hj; exact b3.1
 |7,hj=>cases hj; exact h3
 |8,hj=>cases hj; exact h4.1
 |j+9,hj=>simp[ec] at hj
def jR (c:Nat->ChC) (day:Int) (k:Nat):List Nat:=(List.range k).filter λi=>decide ((c i).p 0<=day)
def qdj {c:Nat->ChC} {day:Int} {k:Nat} (h:(c k).p 0<=day):jR c day (k+1)=jR c day k++[k]:=by simp[jR,udz,uch,h]
def qdi {c:Nat->ChC} {day:Int} {k:Nat} (h:¬ (c k).p 0<=day):jR c day (k+1)=jR c day k:=by simp[jR,udz,uch]; omega
def qdh (c:Nat->ChC) (day:Int) (k:Nat):(jR c day k).length<=k:=by
 have:=List.length_filter_le (λi=>decide ((c i).p 0<=day)) (List.range k);rw[List.length_range] at this;exact this
def mR (c:Nat->ChC) {len:Nat} (x:Fin len×cX):Value:=qf ((c x.1.1).set x.2)
set_option maxRecDepth 100000 in
set_option maxHeartbeats 4000000 in
def zeu (n:Nat) (hn:1<=n) (l Bh oh Bd od n₀ b off len cap:Nat) (day:Int) (c:Nat->ChC) (hreach:len<=1000000) (A:Option Addr) (hA:0<len->A=some ⟨b,off,none⟩/\b<n₀) (E:Fin len×cX->World->World->Prop) (J:List (Fin len×cX)->World->Prop)
  (hJ:∀ pre X Y,J pre X->Below X.heap.size X Y->J pre Y)
  (W:World) (hn₀:n₀<=W.heap.size)
  (hclone:∀ (k:Fin len) X,dh n₀ Bh Bd W X->Calls prog 70 #[.slice (c k.1).A (c k.1).l (c k.1).c] X λe w'=>∃ s:cX,e = .returned (.slice s.1 s.2.1 s.2.2)/\Below X.heap.size X w' /\
   ∀ (Bx:Nat) (X0 Y:World),n₀<=Bx->Bx<X.heap.size->X0.heap.size<=X.heap.size->(∀ q,q≠Bx->Y.heap[q]? = w'.heap[q]?)->E (k,s) X0 Y)
  (hY:∀ pre (x:Fin len×cX) X0 X,J pre X0->Below X0.heap.size X0 X->E x X0 X->pre.length<len->YieldAt Fence.wide (n-1) prog l #[mR c x] X λe W'=>e = .returned (.bool true)/\J (pre++[x]) W'/\dh n₀ Bh Bd X W')
  (hBh:W.cell? ⟨Bh,oh+9,none⟩=some (.slice A len cap)) (hBd:W.cell? ⟨Bd,od,none⟩=some (.int .i64 day))
  (hc:∀ k j u,k<len->(ec (c k))[j]? = some u->W.cell? ⟨b,off+(k*9+j),none⟩=some u) (h0:J [] W) :
  CallsIn Fence.wide n prog 177 #[.func (.yield l) #[] #[],.pointer (some ⟨Bh,oh,none⟩),.pointer (some ⟨Bd,od,none⟩)] W λe W'=>(∃ v,e = .returned v) /\
   ∃ xs:List (Fin len×cX),xs.map (λx=>x.1.1)=jR c day len/\J xs W':=by
 have hro:Fence.wide.round=none:=rfl;refine callsIn_of_wp func177 rfl trivial ?_ hro;simp only[ntmps177,uco,uc7,udj,Nat.reduceAdd,Nat.reduceSub,ubk,ubl,ucw,ubv,udk,uc2];have hl1:Bh<W.heap.size:=by
  obtain⟨_,_,_,h⟩:=Hu hBh;exact(uaf.1 h).1
 have hl2:Bd<W.heap.size:=by
  obtain⟨_,_,_,h⟩:=Hu hBd;exact(uaf.1 h).1
 gi_wp2
 gi_loopw [9] (λi wr=>∃ (k:Nat) (pre:List (Fin len×cX)),k<=len/\i = .int .i64 (k:Int)/\pre.map (λx=>x.1.1)=jR c day k/\J pre wr/\dh n₀ Bh Bd W wr)
  (λi _=>((len:Int)-intOf i).toNat)
 case atStart=>exact⟨0,[],ufg _,by simp,rfl,h0,dh.refl _ _ _ _⟩
 case round=>
  obtain⟨k,pre,hk,rfl,hpre,hJs,hnx⟩:=hrel;have e0:wr.cell? ⟨Bd,od,none⟩=some (.int .i64 day):=(ubb hnx.2.2).trans hBd;by_cases hlt:k<len
  ·obtain⟨rfl,hb⟩:=hA (by omega);have hlen:pre.length<len:=by
    have:=ufv List.length hpre;have h2:=qdh c day k;rw[ud0] at this;omega
   have hcx:∀ j u,(ec (c k))[j]? = some u->wr.cell? ⟨b,off+k*9+j,none⟩=some u:=λj u hj=>by
    rw[uef];exact(hnx.1.cell (p:=⟨b,off+(k*9+j),none⟩) hb).trans (hc _ j u hlt hj)
   have x0:=hcx 0 (.int .i64 ((c k).p 0)) rfl;have x1:=hcx 1 (.int .i64 ((c k).p 1)) rfl;have x2:=hcx 2 (.int .i64 ((c k).p 2)) rfl;have x3:=hcx 3 (.int .i64 ((c k).p 3)) rfl;have x4:=hcx 4 (.int .i64 ((c k).p 4)) rfl;have x5:=hcx 5 (.int .i64 ((c k).p 5)) rfl;have x6:=hcx 6 (.int .i64 ((c k).p 6)) rfl;have x7:=hcx 7 (.slice (c k).A (c k).l (c k).c) rfl;have x8:=hcx 8 (.int .i64 ((c k).p 7)) rfl;rw[uex] at x0;have hBdl:Bd<wr.heap.size:=ub9 hl2 hnx.1.size;have hBhl:Bh<wr.heap.size:=ub9 hl1 hnx.1.size;have hBb:Below wr.heap.size wr (wr.alloc (.cells (ec (c k)) 38)):=(ufi _ wr).alloc (ufa _) _;have e1:=(hBb.cell (p:=⟨Bd,od,none⟩) hBdl).trans e0;have hKb:dh n₀ Bh Bd W (wr.alloc (.cells (ec (c k)) 38)):=hnx.trans (dh.below hBb (uen hn₀ hnx.1.size) hBhl hBdl);unfold ec at e1;have HK:=Lib.hid hKb;have HB:=Lib.hid hBb;clear hcx hc hBh hBd hKb hBb
   gi_wp2
   ·have hno':day<(c k).p 0:=by assumption
    have hno:¬ (c k).p 0<=day:=by omega
    exact⟨⟨k+1,pre,by omega,by simp,by rw[qdi hno,hpre],hJ _ _ _ hJs HB.out,HK.out⟩,by simp[intOf]; omega⟩
   ·have hyes:(c k).p 0<=day:=by assumption
    refine⟨uT,?_⟩;refine(callsIn_wide.2 (hclone ⟨k,hlt⟩ _ HK.out)).mono ?_;rintro e w1 ⟨s,rfl,hb1,hE⟩;have hszb:wr.heap.size<(wr.alloc (.cells (ec (c k)) 38)).heap.size:=by simp
    have z4:=(hb1.block wr.heap.size hszb).trans (World.alloc_heap_new wr (.cells (ec (c k)) 38));unfold ec at z4;have u0:=aU z4 0;have u1:=aU z4 1;have u2:=aU z4 2;have u3:=aU z4 3;have u4:=aU z4 4;have u5:=aU z4 5;have u6:=aU z4 6;have u7:=aU z4 7;have u8:=aU z4 8;simp at u0 u1 u2 u3 u4 u5 u6 u7 u8;have ff:∀ j,w1.frozen? ⟨wr.heap.size,j,none⟩=false:=λj=>by simp[World.frozen?,z4]
    have f7:=ff 7;have hW3:Below wr.heap.size wr (w1.setCell ⟨wr.heap.size,7,none⟩ (.slice s.1 s.2.1 s.2.2)):=(HB.out.trans (hb1.mono (ue6 hszb))).setCell (p:=⟨wr.heap.size,7,none⟩) (ufa _) _;have hk3:dh n₀ Bh Bd wr (w1.setCell ⟨wr.heap.size,7,none⟩ (.slice s.1 s.2.1 s.2.2)):=dh.below hW3 (uen hn₀ hnx.1.size) hBhl hBdl;have hE3:=hE wr.heap.size wr (w1.setCell ⟨wr.heap.size,7,none⟩ (.slice s.1 s.2.1 s.2.2)) (uen hn₀ hnx.1.size) hszb (ue6 hszb) (λq hq=>uci _ _ q _ hq);obtain⟨fn,tmps,assign,body,hy,hR⟩:=hY pre (⟨k,hlt⟩,s) wr _ hJs hW3 hE3 hlen;dsimp only[mR,qf,ec,ChC.set] at hy;clear hY hclone hJ
    gi_wp2
    refine hR.mono ?_;rintro e W4 ⟨rfl,hJ4,hk4⟩
    gi_wp2
    go_roundw
    case rel=>exact⟨k+1,pre++[(⟨k,hlt⟩,s)],by omega,by simp,by rw[qdj hyes,udu,hpre]; rfl,hJ4,hnx.trans (hk3.trans hk4)⟩
    case measure=>simp[intOf]; omega
  ·obtain rfl:k=len:=by omega
   gi_wp2
   go_end0
   exact⟨⟨_,rfl⟩,_,hpre,hJs⟩
end Go.Proofs.YtgieagiaagoogaaGreat
namespace Go.Proofs.YtgieagiaagoogaaGreat
open Go Go.Ab Go.RowKit Go.Proofs Go.Shelf Go.Maps Tryz
open Go.Ab.Fr renaming val->Jv,need->Jd,br->Jb
attribute [local go_sem] Oper.semAt_some
def jP (c:Nat->ChC) {len:Nat}:List (Fin len×cX)->List Value
 |[]=>[]
 |x::l=>(ec ((c x.1.1).set x.2)).toList++jP c l
def Hx (c:Nat->ChC) {len:Nat}:(a b:List (Fin len×cX))->jP c (a++b)=jP c a++jP c b
 |[],_=>rfl
 |x::a,b=>by simp[jP,Hx c a b]
def OF (c:Nat->ChC) {len:Nat}:(a:List (Fin len×cX))->(jP c a).length=a.length*9
 |[]=>rfl
 |x::a=>by simp[jP,ec,OF c a]; omega
def uC (c:Nat->ChC) (F:Nat->Prop) (y:Nat->ar.den) {len:Nat} (x:Fin len×cX) (X Y:World):Prop:=
 ∃ F',bq Y F' ar (y x.1.1) (mR c x)/\∀ q,F' q->(F q\/X.heap.size<=q)/\∃ arr ty p,Y.heap[q]? = some (.cells arr ty p)
def FZ (w:World) (c:Nat->ChC) (F:Nat->Prop) (y:Nat->ar.den) {len:Nat} (els pre:List (Fin len×cX)) (W:World) (v:Value) (F':Nat->Prop):Prop:=
 W.heap[w.heap.size]? = some (.cells #[v] 52 (0,0))/\W.ownsRow w.heap.size 38 9 v pre.length (jP c pre)/\cJ W F' ar (els.map λx=>y x.1.1) (jP c els) /\
  ∀ q,F' q->(F q\/w.heap.size<=q)/\v.ownBlock≠some q/\q≠w.heap.size/\∃ arr ty p,W.heap[q]? = some (.cells arr ty p)
structure CoI (w:World) (c:Nat->ChC) (F:Nat->Prop) (y:Nat->ar.den) {len:Nat} (els pre:List (Fin len×cX)) (W:World):Prop where
 row:∃ v F',FZ w c F y els pre W v F'
 bel:Below w.heap.size w W
def wC {W:World} {base:Nat} {e:TypeId} {size:Nat} {v:Value} {k:Nat} {xs:List Value} (h:W.ownsRow base e size v k xs) {j:Nat} (hj:v.ownBlock=some j):base<=j/\∃ cur,W.heap[j]? = some (.cells cur e (0,0)):=by
 rcases h.2 with ⟨rfl,_⟩|⟨g,cap,cur,rfl,hb,hgb,_⟩
 ·simp[Value.ownBlock] at hj
 ·have:g=j:=by simpa[Value.ownBlock] using hj
  subst this;exact⟨hb,_,hgb⟩
def Tx {W:World} {base:Nat} {e:TypeId} {size:Nat} {v:Value} {k:Nat} {xs:List Value} (h:W.ownsRow base e size v k xs) {j:Nat} {o:Obj} (hj:W.heap[j]? = some o) (hno:∀ cur,o ≠ .cells cur e (0,0)):v.ownBlock=none\/v.ownBlock≠some j:=by
 by_cases he:v.ownBlock=some j
 ·obtain⟨_,cur,hc⟩:=wC h he;rw[hj] at hc;cases hc;exact absurd rfl (hno cur)
 ·exact .inr he
def qdd {w:World} {c:Nat->ChC} {F:Nat->Prop} {y:Nat->ar.den} {len:Nat} {els pre:List (Fin len×cX)} {W W':World} {v:Value} {F':Nat->Prop} {row:Option Nat} (h:FZ w c F y els pre W v F') (hg:W.grownBy W' row)
  (hr:∀ r,row=some r->∃ o:Obj,W.heap[r]? = some o/\o.isCells=false):FZ w c F y els pre W' v F':=by
 obtain⟨h1,h2,h3,h4⟩:=h;have hcells:∀ q arr ty p,W.heap[q]? = some (Obj.cells arr ty p)->W'.heap[q]? = W.heap[q]? := λq arr ty p hq=>hg.block q (uaf.1 hq).1 (λe=>by
  obtain⟨o,ho,hc⟩:=hr q e.symm;rw[hq] at ho;cases ho;cases hc)
 refine⟨(hcells _ _ _ _ h1).trans h1,h2.kept hg ?_,h3.mono (λ_ h=>h) (λq hq=>?_),λq hq=>?_⟩
 ·by_cases he:v.ownBlock=row
  ·cases hrow:row with
   |none=>exact .inl (he.trans hrow)
   |some r=>
    obtain⟨o,ho,hc⟩:=hr r hrow;obtain⟨_,cur,hcu⟩:=wC h2 (he.trans hrow);rw[ho] at hcu;cases hcu;cases hc
  ·exact .inr he
 ·obtain⟨_,_,_,arr,ty,p,hc⟩:=h4 q hq;exact hcells _ _ _ _ hc
 ·obtain⟨a1,a2,a3,arr,ty,p,hc⟩:=h4 q hq;exact⟨a1,a2,a3,arr,ty,p,(hcells _ _ _ _ hc).trans hc⟩
def H1 {w:World} {c:Nat->ChC} {F:Nat->Prop} {y:Nat->ar.den} {len:Nat} {B:Nat} (hB:w.heap.size<=B) (els pre:List (Fin len×cX)) {X Y:World} {row:Option Nat} (h:CoI w c F y els pre X) (hg:X.grownBy Y row) (hr:∀ r,row=some r->B<=r/\∃ o:Obj,X.heap[r]? = some o/\o.isCells=false):CoI w c F y els pre Y:=by
 obtain⟨v,F',hrow⟩:=h.row;exact⟨⟨v,F',qdd hrow hg λr e=>(hr r e).2⟩,h.bel.grown hg h.bel.size (λk e=>uen hB (hr k e).1)⟩
def qzt {W:World} {F:Nat->Prop} {x:ar.den} {d:ChC} (h:bq W F ar x (qf d)):cJ W F ar [x] (ec d).toList:=λi z hz=>by
 cases i with
 |zero=>
  simp at hz;subst hz;refine h.2.2.mono (λ_ h=>h) (λ_ _=>rfl) λj u _ hu=>?_;have:(ec d)[j]? = some u:=hu;simpa using this
 |succ i=>simp at hz
def qdc {w:World} {c:Nat->ChC} {F:Nat->Prop} {y:Nat->ar.den} {len:Nat} {pre:List (Fin len×cX)} {x:Fin len×cX} {X Y:World} (h:CoI w c F y pre pre X) (hb:Below X.heap.size X Y) (hF:∀ q,F q->q<w.heap.size) (hE:uC c F y x X Y):CoI w c F y (pre++[x]) pre Y:=by
 obtain⟨v,F',h1,h2,h3,h4⟩:=h.row;obtain⟨F2,hr,hF2⟩:=hE;have hs:=(uaf.1 h1).1;have hblk:∀ q o,X.heap[q]? = some o->Y.heap[q]? = some o:=λq o hq=>(hb.block q (uaf.1 hq).1).trans hq;refine⟨⟨v,λq=>F' q\/F2 q,hblk _ _ h1,h2.kept (row:=none) ⟨hb.os,hb.tape,hb.output,hb.size,λk hk _=>hb.block k hk⟩ ?_,?_,λq hq=>?_⟩,h.bel.trans (hb.mono (ue6 hs))⟩
 ·cases v.ownBlock with
  |none=>exact .inl rfl
  |some g=>exact .inr (by simp)
 ·rw[udu,Hx];refine cJ.append (h3.mono (λ_ h=>.inl h) λq hq=>?_) ?_ ?_
  ·obtain⟨_,_,_,arr,ty,p,hc⟩:=h4 q hq;exact(hblk _ _ hc).trans hc.symm
  ·rw[OF,ud0];rfl
  ·have:=qzt hr;exact this.mono (λ_ h=>.inr h) (λ_ _=>rfl)
 ·rcases hq with hq|hq
  ·obtain⟨a1,a2,a3,arr,ty,p,hc⟩:=h4 q hq;exact⟨a1,a2,a3,arr,ty,p,hblk _ _ hc⟩
  ·obtain⟨a1,arr,ty,p,hc⟩:=hF2 q hq;refine⟨a1.elim .inl (λh=>.inr (by omega)),λe=>?_,λe=>?_,arr,ty,p,hc⟩
   ·obtain⟨hge,cur,hcu⟩:=wC h2 e;have hlt:=(uaf.1 hcu).1;rcases a1 with a1|a1
    ·have:=hF q a1;omega
    ·omega
   ·rcases a1 with a1|a1
    ·have:=hF q a1;omega
    ·omega
def Nc (w:World) (c:Nat->ChC) (F:Nat->Prop) (y:Nat->ar.den) {len:Nat} (a:Fin len×cX->Nat->Act) (pre:List (Fin len×cX)) (x:Fin len×cX) (a':Act) (W:World):Prop:=
 CoI w c F y (pre++[x]) pre W/\∃ Bx,w.heap.size<Bx/\W.heap[Bx]? = some (.cells (ec ((c x.1.1).set x.2)) 38 (0,0))/\a'=a x Bx
def qdb {w:World} {c:Nat->ChC} {F:Nat->Prop} {y:Nat->ar.den} {len:Nat} {a:Fin len×cX->Nat->Act} {B:Nat} (hB:w.heap.size<=B) (pre:List (Fin len×cX)) (x:Fin len×cX) (a':Act):OwnFrom B (λ(_:Unit) W=>Nc w c F y a pre x a' W):=λ_ X Y row hs hg hr=>by
 obtain⟨h0,Bx,h1,h2,h3⟩:=hs;exact⟨H1 hB _ _ h0 hg hr,Bx,h1,uR h2 hg hr,h3⟩
set_option maxRecDepth 100000 in
def qck:(prog.info? 38).map (λi=>(i.zero,i.size,i.bytes))=some (some (.agg #[.int .i64 0,.int .i64 0,.int .i64 0,.int .i64 0,.int .i64 0,.int .i64 0,.int .i64 0,.slice none 0 0,.int .i64 0]),9,88):=by kernel_rfl
def Hv {W:World} {B:Nat} {v:Value} {t:TypeId} (h:W.heap[B]? = some (.cells #[v] t (0,0))):W.cell? ⟨B,0,none⟩=some v/\W.frozen? ⟨B,0,none⟩=false:=by
 constructor<;>simp[World.cell?,World.frozen?,h]
def que (W:World) (arr:Array Value) (t:TypeId) (j:Nat) (u:Value) (h:arr.toList[j]? = some u):(W.alloc (.cells arr t)).cell? ((⟨W.heap.size,0,none⟩:Addr).add j)=some u:=by
 have hb:=aU (World.alloc_heap_new W (.cells arr t)) j;have he:(⟨W.heap.size,0,none⟩:Addr).add j=⟨W.heap.size,j,none⟩:=by unfold Addr.add; split<;>simp_all
 rw[he,hb];simpa using h
def qnv {X Y:World} {row:Option Nat} (hg:X.grownBy Y row) (h:∀ r,row=some r->∃ arr t p,X.heap[r]? = some (Obj.cells arr t p)):KeepsOthers X Y:=
 ⟨hg.size,λk o hk ho=>(hg.block k (uaf.1 hk).1 (λe=>by
  obtain⟨arr,t,p,hc⟩:=h k e.symm;rw[hk] at hc;cases hc;cases ho)).trans hk⟩
def qV {W:World} {B:Nat} {v:Value} {t:TypeId} (v':Value) (h:W.heap[B]? = some (.cells #[v] t (0,0))):(W.setCell ⟨B,0,none⟩ v').heap[B]? = some (.cells #[v'] t (0,0)):=ucz W B 0 _ t v' h
def qw7 {W:World} {F:Nat->Prop} {base:Nat} {e:TypeId} {t:Ty} {v:Value} {l:List t.den} {xs:List Value} (h:W.ownsRow base e t.size v l.length xs) (hr:cJ W F t l xs):aD W (λq=>F q\/v.ownBlock=some q) (.sl t) l (λ_ u=>u=v):=by
 rcases h.2 with ⟨rfl,hn⟩|⟨g,cap,cur,rfl,hb,hgb,h1,h2,h3,h4⟩
 ·exact⟨none,0,by rw[hn],by omega,ufg _,λi x hx=>by have:=(uak.1 hx).1; omega⟩
 ·refine⟨some ⟨g,0,none⟩,cap,rfl,h1,h2,λi x hx=>⟨⟨g,0,none⟩,rfl,.inr rfl,(hr i x hx).mono (λ_ h=>.inl h) (λ_ _=>rfl) λj u _ hu=>?_⟩⟩;have he:(⟨g,0,none⟩:Addr).add (i*t.size+j)=⟨g,i*t.size+j,none⟩:=by unfold Addr.add; split<;>simp_all
  rw[he,aU hgb];have hu':=hu;rw[<- h4,ub0] at hu';split at hu'
  ·simpa using hu'
  ·cases hu'
set_option maxRecDepth 100000 in
set_option maxHeartbeats 4000000 in
def qaz (n : Nat) (hn : 2 <= n) (c : Nat -> ChC) (F : Nat -> Prop) (y : Nat -> ar.den) (len : Nat) (hlen : len <= 1000000) (gf : Nat) (lb : Array Value) (eg : ∀ args w, (callFunc gf args).run prog w = .ok (.enter gf args) w) (w : World) (hF : ∀ q, F q -> q < w.heap.size) (S : List (Fin len × cX) -> Prop)
    (hseq : ∀ w0, Below w.heap.size w w0 -> BH Fence.wide (n - 1) prog gf lb (λx : Fin len × cX => #[mR c x]) (uC c F y) (Below w.heap.size) S len w0) :
    CallsIn Fence.wide n prog 176 #[.slice none 0 0, .func (.func gf) #[] lb] w λe w' => ∃ v xs F', e = .returned v /\ S xs /\ Below w.heap.size w w' /\
      aD w' F' (.sl ar) (xs.map λx => y x.1.1) (λ_ u => u = v) /\ ∀ q, F' q -> (F q \/ w.heap.size <= q) /\ q < w'.heap.size := by
  refine callsIn_of_wp_marks func176 rfl trivial ?_ rfl
  simp only[ntmps176, uco, uc7, udj, Nat.reduceAdd, Nat.reduceSub, ubk, ubl, ucw, ubv, udk, uc2]
  gi_wp2
  have hbel : Below w.heap.size w (w.alloc (.cells #[.slice none 0 0] 52)) := (ufi _ w).alloc (ufa _) _
  have hbx := World.alloc_heap_new w (.cells #[.slice none 0 0] 52)
  have hsz : (w.alloc (.cells #[.slice none 0 0] 52)).heap.size = w.heap.size + 1 := by simp
  obtain⟨W0, hW0⟩ : ∃ W0, w.alloc (.cells #[.slice none 0 0] 52) = W0 := ⟨_, rfl⟩
  rw[hW0] at hbel hbx hsz |-
  have hI0 : CoI w c F y ([] : List (Fin len × cX)) [] W0 := ⟨⟨_, λ_ => False, hbx, ⟨rfl, .inl ⟨rfl, rfl⟩⟩, λi z hz => by simp at hz, λq hq => hq.elim⟩, hbel⟩
  refine zff rfl (by omega) rfl trivial eg (hseq W0 hbel)
    (λh k => h.trans k) (λW l o o' hl ho hoc => ⟨rfl, rfl, rfl, by simp, λk hk => World.putObj_heap_other (by omega)⟩) (λ_ => rfl)
    (λpre W => CoI w c F y pre pre W) (λpre X Y row h hg hr => H1 hbel.size _ _ h hg hr) hI0
    (λpre x a' W => Nc w c F y (λx Bx => { tmps := #[.slice none 0 0, .func (.func gf) #[] lb, .pointer (some ⟨w.heap.size, 0, none⟩), undef, .slice none 0 0, .pointer (some ⟨Bx, 0, none⟩), .func (.func gf) #[] lb, mR c x, undef, undef, undef, undef, undef], defers := [] }) pre x a' W)
    (λpre x a' => qdb hbel.size pre x a') ?assign ?body ?done
  case assign =>
    rintro l pre x X W K hi hb hE hK
    have hi2 := qdc hi hb hF hE
    unfold mR qf ec
    gi_wp2
    obtain⟨v, F', r1, _⟩ := hi2.row
    have hlt := (uaf.1 r1).1
    exact hK _ _ ((KeepsOthers.alloc _ _).from _) ((ufi _ W).alloc (ue6 hlt) _)
      ⟨H1 hbel.size _ _ hi2 (ubt W _ none) (λr e => nomatch e), W.heap.size, hlt, World.alloc_heap_new W _, rfl⟩
  case body =>
    rintro l pre x a' W ⟨hi, Bx, hBx, bX, rfl⟩ hlt
    obtain⟨v, F', r1, r2, r3, r4⟩ := hi.row
    obtain⟨i0, hi0, hz0, hz1, hz2⟩ := ufn qck
    have bX' := bX
    unfold ec at bX'
    have y0 := aU bX' 0
    have y1 := aU bX' 1
    have y2 := aU bX' 2
    have y3 := aU bX' 3
    have y4 := aU bX' 4
    have y5 := aU bX' 5
    have y6 := aU bX' 6
    have y7 := aU bX' 7
    have y8 := aU bX' 8
    obtain⟨hc1, hf1⟩ := Hv r1
    have hlt0 := (uaf.1 r1).1
    have hnew := que W (ec ((c x.1.1).set x.2)) 38
    have HR := Lib.hid r3
    have HF := Lib.hid r4
    have hbelI := hi.bel
    have hv3f : ∀ (arr : Array Value) (w3 : World), (W.alloc (.cells arr 38)).grownBy w3 v.ownBlock -> w3.heap[w.heap.size]? = some (.cells #[v] 52 (0, 0)) := λarr w3 hg =>
      (hg.block _ (by simp; omega) (λe => (Tx r2 r1 (λcur e => by cases e)).elim (λh => by rw[h] at e; cases e) (λh => h e.symm))).trans ((uc8 _ _ _ hlt0).trans r1)
    unfold ec at hnew
    gi_wp2_with (first
      | (gi_at_builtin; refine wpListIn_append_own_at _ rfl _ _ 52 rfl w.heap.size 38 i0 _ 9 88 underlying52 hi0 hz0 hz1 hz2 rfl (by decide) _ _ _ rfl (r2.alloc _) ⟨W.heap.size, 0, none⟩ 1 1 _ rfl rfl hnew (by simp[Value.oneCell']) (by simp only[maxLen]; omega) (by omega) (by simp; omega) ?_; intro v' w3 hown' hg3 hnil3 hat3
         have hv3 : w3.heap[w.heap.size]? = some (.cells #[v] 52 (0, 0)) := hv3f _ _ hg3
         obtain⟨hc3, hf3⟩ := Hv hv3
         obtain⟨g', cap', cur', rfl, hbase', hgb', hr1, hr2, hr3, hr4⟩ : ∃ g' cap' cur', v' = .slice (some ⟨g', 0, none⟩) (pre.length + 1) cap' /\ w.heap.size <= g' /\ w3.heap[g']? = some (.cells cur' 38 (0, 0)) /\ pre.length + 1 <= cap' /\ cap' <= maxLen /\ cur'.size = cap' * 9 /\ cur'.toList.take ((pre.length + 1) * 9) = jP c pre ++ _ := by
           rcases hown'.2 with ⟨_, h0⟩ | h'
           · exact absurd h0 (by omega)
           · exact h'
         go_frame)
      | gi_in)
    have hownX := r2.alloc (.cells (ec ((c x.1.1).set x.2)) 38)
    have hgX : (W.alloc (.cells (ec ((c x.1.1).set x.2)) 38)).grownBy w3 v.ownBlock := hg3
    have hg4 := grownBy_setCell' w3 w.heap.size (.slice (some ⟨g', 0, none⟩) (pre.length + 1) cap')
    have hb3 := ((ufi _ W).alloc (ue6 hlt0) _).grown hgX (by simp; omega) (λk e => (wC hownX e).1)
    have hb4 := hb3.setCell (p := ⟨w.heap.size, 0, none⟩) (ufa _) (.slice (some ⟨g', 0, none⟩) (pre.length + 1) cap')
    have hsame : ∀ q, F' q -> (w3.setCell ⟨w.heap.size, 0, none⟩ (.slice (some ⟨g', 0, none⟩) (pre.length + 1) cap')).heap[q]? = W.heap[q]? := λq hq => by
      obtain⟨_, a2, a3, arr, ty, p, hc⟩ := HF.out q hq
      have hq2 := (uaf.1 hc).1
      exact(uci _ _ q _ a3).trans ((hgX.block q (by simp; omega) (λe => a2 e.symm)).trans (uc8 _ _ _ hq2))
    refine⟨rfl, (((KeepsOthers.alloc W _).trans (qnv hgX λr e => ?_)).trans (KeepsOthers.setCell w3 _ _)).from _, hb4, ⟨_, F', qV _ hv3, ?_, HR.out.mono (λ_ h => h) hsame, λq hq => ?_⟩, hbelI.trans hb4⟩
    · obtain⟨_, cur, hc⟩ := wC hownX e
      exact⟨_, _, _, hc⟩
    · have h5 := hown'.kept hg4 (Tx hown' hv3 (λcur e => by cases e))
      simpa[Hx, jP, ec] using h5
    · obtain⟨a1, a2, a3, arr, ty, p, hc⟩ := HF.out q hq
      refine⟨a1, λe => ?_, a3, arr, ty, p, (hsame q hq).trans hc⟩
      have hq2 := (uaf.1 hc).1
      rcases hat3 with h | h
      · exact a2 (h.symm.trans e)
      · rw[h] at e
        simp at e
        omega
  case done =>
    rintro D zs W hD hzs hi hK
    obtain⟨v, F', r1, r2, r3, r4⟩ := hi.row
    obtain⟨hc1, hf1⟩ := Hv r1
    have HR := Lib.hid r3
    have HF := Lib.hid r4
    gi_wp2
    refine⟨by simp, .inl ⟨_, _, rfl, run_takeDeferred hK, ?_⟩⟩
    have hs : ∀ q arr ty p, W.heap[q]? = some (Obj.cells arr ty p) -> (W.putObj D (.deferred none)).heap[q]? = W.heap[q]? := λq arr ty p hq => World.putObj_heap_other (λe => by subst e; rw[hK] at hq; cases hq)
    have r2' : W.ownsRow w.heap.size 38 ar.size v (zs.map λx => y x.1.1).length (jP c zs) := by rw[ud0]; exact r2
    have hd := qw7 r2' HR.out
    have hcl : ∀ q, (F' q \/ v.ownBlock = some q) -> (F q \/ w.heap.size <= q) /\ ∃ arr ty p, W.heap[q]? = some (Obj.cells arr ty p) := λq hq => by
      rcases hq with hq | hq
      · obtain⟨a1, _, _, a4⟩ := HF.out q hq
        exact⟨a1, a4⟩
      · obtain⟨b1, cur, b2⟩ := wC r2 hq
        exact⟨.inr b1, _, _, _, b2⟩
    refine⟨_, results_tmp rfl _ _ _, v, zs, _, rfl, hzs, ⟨hi.bel.os, hi.bel.tape, hi.bel.output, by simpa using hi.bel.size, λk hk => (World.putObj_heap_other (by have := hbel.size; omega)).trans (hi.bel.block k hk)⟩, aD.mono (λ_ h => h) (λq hq => ?_) (λ_ _ _ h => h) hd, λq hq => ?_⟩
    · obtain⟨_, arr, ty, p, hc⟩ := hcl q hq
      exact hs q arr ty p hc
    · obtain⟨a1, arr, ty, p, hc⟩ := hcl q hq
      have := (uaf.1 hc).1
      exact⟨a1, by simpa using this⟩
end Go.Proofs.YtgieagiaagoogaaGreat
namespace Go.Proofs.YtgieagiaagoogaaGreat
open Go Go.Ab Go.RowKit Go.Proofs Go.Shelf Go.Maps Tryz
open Go.Ab.Fr renaming val->Jv,need->Jd,br->Jb
attribute [local go_sem] Oper.semAt_some
def qc2 {w W:World} {F:Nat->Prop} {l:List ak.den} {v:Value} (hb:∀ b,F b->b<w.heap.size) (hW:Below w.heap.size w W) (hx:aD w F (.sl ak) l (λ_ u=>u=v)) (hf:l.length<=1000000) :
  Calls prog 70 #[v] W λe w'=>∃ s:cX,e = .returned (.slice s.1 s.2.1 s.2.2)/\Below W.heap.size W w' /\
   ∃ F',aD w' F' (.sl ak) l (λ_ u=>u = .slice s.1 s.2.1 s.2.2)/\∀ q,F' q->(F q\/W.heap.size<=q)/\∃ arr ty p,w'.heap[q]? = some (.cells arr ty p):=by
 obtain⟨A,c,rfl,h2,h3,h4⟩:=hx;have hv:bq w F (.sl ak) l (.slice A l.length c):=⟨rfl,⟨λh=>(by cases h),λ⟨cs,h⟩=>(by cases h)⟩,A,c,rfl,h2,h3,h4⟩;have hx':=hv.mono (λ_ h=>h) (λb h=>hW.block b (hb b h));refine(yU.2 W F (l,()) [.slice A l.length c] (λb h=>ub9 (hb b h) hW.size) ⟨_,[],rfl,hx',rfl⟩ hf).mono ?_;rintro e w' ⟨u,F',rfl,hbel,h1,h2,h3⟩;have h3':=h3;have h4':=h3'.only (G:=λb=>F' b/\∃ arr ty p,w'.heap[b]? = some (.cells arr ty p)) (λb h hc=>⟨h,hc⟩) rfl;have h5:aM prog w' (λb=>F' b/\∃ arr ty p,w'.heap[b]? = some (.cells arr ty p)) (λ_ _=>True) (gL (.sl ak) l) u:=jV h4';have h6:=h5.2;obtain⟨A2,c2,e2,h7⟩:=h6;subst e2;exact⟨(A2,l.length,c2),rfl,hbel,(λb=>F' b/\∃ arr ty p,w'.heap[b]? = some (.cells arr ty p)),⟨A2,c2,rfl,h7⟩,λq hq=>⟨(h2 q hq.1).1,hq.2⟩⟩
def qcm {w:World} {F:Nat->Prop} {l:List ar.den} {v:Value} (h:aD w F (.sl ar) l (λ_ u=>u=v)) :
  ∃ (A:Option Addr) (cap:Nat) (b off:Nat) (c:Nat->ChC),v = .slice A l.length cap/\(0<l.length->A=some ⟨b,off,none⟩/\F b) /\
   (∀ k j u,k<l.length->(ec (c k))[j]? = some u->w.cell? ⟨b,off+(k*9+j),none⟩=some u) /\
   ∀ k x,l[k]? = some x->(c k).p 0=x.1/\aD w F (.sl ak) x.2.2.2.2.1 (λ_ u=>u = .slice (c k).A (c k).l (c k).c) /\
    ∀ (s:cX) (Y:World) (F2:Nat->Prop),aD Y F2 (.sl ak) x.2.2.2.2.1 (λ_ u=>u = .slice s.1 s.2.1 s.2.2)->bq Y F2 ar x (qf ((c k).set s)):=by
 obtain⟨A,cap,h0,h1,h2,h3⟩:=h;by_cases hp:0<l.length
 ·obtain⟨ad,hA,hF,hc⟩:=h3 0 l[0] (uap hp);have hsp:ad.spot=none:=by
   have hc':w.cell? (ad.add (0*ar.size+0))=some (.int .i64 l[0].1):=hc.1.1;have he:ad.add (0*ar.size+0)=ad:=by simp[Addr.add]
   rw[he] at hc';unfold World.cell? at hc';split at hc'
   ·split at hc'
    ·cases hc'
    ·rename_i hsp;cases hsp2:ad.spot with
     |none=>rfl
     |some _=>rw[hsp2] at hsp; exact absurd rfl hsp
   ·cases hc'
  obtain⟨b,off,sp⟩:=ad;subst hsp;have hall:∀ k,∃ d:ChC,∀ x,l[k]? = some x->(∀ j u,(ec d)[j]? = some u->w.cell? ⟨b,off+(k*9+j),none⟩=some u)/\d.p 0=x.1/\aD w F (.sl ak) x.2.2.2.2.1 (λ_ u=>u = .slice d.A d.l d.c) /\
    ∀ (s:cX) (Y:World) (F2:Nat->Prop),aD Y F2 (.sl ak) x.2.2.2.2.1 (λ_ u=>u = .slice s.1 s.2.1 s.2.2)->bq Y F2 ar x (qf (d.set s)):=by
   intro k;cases hk:l[k]? with
   |none=>exact⟨⟨λ_=>0,none,0,0⟩,λx hx=>by cases hx⟩
   |some x=>
    obtain⟨ad',hA',_,hr⟩:=h3 k x hk;rw[hA] at hA';cases hA';obtain⟨d,hd,hd0⟩:=qcl hr;refine⟨d,λy hy=>?_⟩;cases hy;refine⟨λj u hj=>?_,hd0⟩;have:=hd j u hj;rw[show ar.size=9 from rfl] at this;have e:(⟨b,off,none⟩:Addr).add (k*9+j)=⟨b,off+(k*9+j),none⟩:=by unfold Addr.add; split<;>simp_all
    rw[e] at this;exact this
  obtain⟨c,hcc⟩:=Classical.axiomOfChoice hall;exact⟨A,cap,b,off,c,h0.symm,λ_=>⟨hA,hF⟩,λk j u hk hj=>(hcc k l[k] (uap hk)).1 j u hj,λk x hx=>(hcc k x hx).2⟩
 ·refine⟨A,cap,0,0,λ_=>⟨λ_=>0,none,0,0⟩,h0.symm,λh=>absurd h hp,λk j u hk=>absurd hk (by omega),λk x hx=>?_⟩;have:=(uak.1 hx).1;omega
def gy (day:Int) (l:List ar.den):List ar.den:=l.filter λx=>decide (x.1<=day)
def qdk {c:Nat->ChC} {day:Int} {l:List ar.den} (hc:∀ k x,l[k]? = some x->(c k).p 0=x.1):(jR c day l.length).map (λk=>l.getD k ar.dflt)=gy day l:=by
 have hl:l=(List.range l.length).map (λk=>l.getD k ar.dflt):=by
  apply List.ext_getElem
  ·simp
  ·intro i h1 h2;simp[uap h1]
 unfold gy
 conv=>rhs; rw[hl]
 rw[List.filter_map];congr 1;apply List.filter_congr;intro k hk;have hk':=ud7.1 hk;have h1:=hc k l[k] (uap hk');simp only[Function.comp_apply,uah,uap hk',uda];rw[h1]
set_option maxRecDepth 100000 in
set_option maxHeartbeats 1000000 in
def qdg (n:Nat) (hn:3<=n) (c:Nat->ChC) (F:Nat->Prop) (y:Nat->ar.den) (len:Nat) (hlen:len<=1000000) (gf:Nat) (lb:Array Value) (eg:∀ args w,(callFunc gf args).run prog w = .ok (.enter gf args) w) (w:World) (hF:∀ q,F q->q<w.heap.size) (S:List (Fin len×cX)->Prop)
  (hseq:∀ w0,Below w.heap.size w w0->BH Fence.wide (n-1-1) prog gf lb (λx:Fin len×cX=>#[mR c x]) (uC c F y) (Below w.heap.size) S len w0) :
  CallsIn Fence.wide n prog 135 #[.func (.func gf) #[] lb] w λe w'=>∃ v xs F',e = .returned v/\S xs/\Below w.heap.size w w' /\
   aD w' F' (.sl ar) (xs.map λx=>y x.1.1) (λ_ u=>u=v)/\∀ q,F' q->(F q\/w.heap.size<=q)/\q<w'.heap.size:=by
 refine callsIn_of_wp func135 rfl trivial ?_ rfl;simp only[ntmps135,uco,uc7,udj,Nat.reduceAdd,Nat.reduceSub,ubk,ubl,ucw,ubv,udk,uc2]
 gi_wp2
 refine⟨uT,λ_=>by omega,?_⟩;refine(qaz (n-1) (by omega) c F y len hlen gf lb eg w hF S hseq).mono ?_;rintro e w' ⟨v,xs,F',rfl,hS,hb,hr,hq⟩
 gi_wp2
 go_ret
 exact⟨v,xs,F',rfl,hS,hb,hr,hq⟩
def zev (n:Nat) (hn:1<=n) {w:World} {F:Nat->Prop} (hF:∀ q,F q->q<w.heap.size) {l:List ar.den} {v:Value} {day:Int} {Bh oh Bd od:Nat} (hBh:Bh<w.heap.size) (hBd:Bd<w.heap.size) (hv:w.cell? ⟨Bh,oh+9,none⟩=some v) (hday:w.cell? ⟨Bd,od,none⟩=some (.int .i64 day)) (hl:l.length<=1000000) (hfew:∀ x∈l,x.2.2.2.2.1.length<=1000000)
  {A:Option Addr} {cap b off:Nat} {c:Nat->ChC} (e0:v = .slice A l.length cap) (hA:0<l.length->A=some ⟨b,off,none⟩/\F b) (hc:∀ k j u,k<l.length->(ec (c k))[j]? = some u->w.cell? ⟨b,off+(k*9+j),none⟩=some u)
  (hx:∀ k x,l[k]? = some x->(c k).p 0=x.1/\aD w F (.sl ak) x.2.2.2.2.1 (λ_ u=>u = .slice (c k).A (c k).l (c k).c) /\
    ∀ (s:cX) (Y:World) (F2:Nat->Prop),aD Y F2 (.sl ak) x.2.2.2.2.1 (λ_ u=>u = .slice s.1 s.2.1 s.2.2)->bq Y F2 ar x (qf ((c k).set s)))
  (w0:World) (hw0:Below w.heap.size w w0) :
  BH Fence.wide n prog 177 #[.pointer (some ⟨Bh,oh,none⟩),.pointer (some ⟨Bd,od,none⟩)] (λx:Fin l.length×cX=>#[mR c x]) (uC c F λk=>l.getD k ar.dflt) (Below w.heap.size) (λxs=>xs.map (λx=>x.1.1)=jR c day l.length) l.length w0:=by
 intro lp J W hW hJ hY h0;have hwW:=hw0.trans (hW.mono hw0.size);refine zeu n hn lp Bh oh Bd od w.heap.size b off l.length cap day c hl A (λh=>⟨(hA h).1,hF b (hA h).2⟩) (uC c F λk=>l.getD k ar.dflt) J (λpre X Y hj hb=>BL hJ hj hb) W hwW.size ?_ ?_
  ((ubb (hwW.block Bh hBh)).trans (hv.trans (by rw[e0]))) ((ubb (hwW.block Bd hBd)).trans hday) (λk j u hk hj=>(ubb (hwW.block b (hF _ (hA (by omega)).2))).trans (hc k j u hk hj)) h0
 ·intro k X hX;have hk:=uap k.2;obtain⟨_,hr,hset⟩:=hx k.1 _ hk;refine(qc2 hF (hwW.trans hX.1) hr (hfew _ (udg k.2))).mono ?_;rintro e w' ⟨s,rfl,hb,F',hr2,hq⟩;refine⟨s,rfl,hb,λBx X0 Y h1 h2 h3 h4=>⟨F',?_,λq hq'=>?_⟩⟩
  ·have hg:(l.getD k.1 ar.dflt)=l[k.1]:=by rw[uah,hk]; rfl
   show bq Y F' ar (l.getD k.1 ar.dflt) (mR c (k,s));rw[hg];refine hset s Y F' (aD.mono (λ_ h=>h) (λq hq'=>h4 q λe=>?_) (λ_ _ _ h=>h) hr2);rcases(hq q hq').1 with h|h
   ·have:=hF q h;omega
   ·omega
  ·obtain⟨a1,arr,ty,p,hcc⟩:=hq q hq';refine⟨a1.elim .inl λh=>.inr (uen h3 h),arr,ty,p,(h4 q λe=>?_).trans hcc⟩;rcases a1 with h|h
   ·have:=hF q h;omega
   ·omega
 ·intro pre x X0 X hj hb hE hlt;obtain⟨fn,tmps,assign,body,hy,hR⟩:=hY pre x X0 X hj hb hE hlt;refine⟨fn,tmps,assign,body,hy,hR.mono ?_⟩;rintro e W' ⟨rfl,hj2,hb2⟩;exact⟨rfl,hj2,hb2,hb2.block _ hBh,hb2.block _ hBd⟩
def qdf {w:World} {F:Nat->Prop} (hF:∀ q,F q->q<w.heap.size) {l:List ar.den} {v:Value} {day:Int} {Bh Bd:Nat} (hBh:Bh<w.heap.size) (hBd:Bd<w.heap.size) (hv:w.cell? ⟨Bh,9,none⟩=some v) (hr:aD w F (.sl ar) l (λ_ u=>u=v)) (hday:w.cell? ⟨Bd,0,none⟩=some (.int .i64 day))
  (hl:l.length<=1000000) (hfew:∀ x∈l,x.2.2.2.2.1.length<=1000000) :
  Calls prog 135 #[.func (.func 177) #[] #[.pointer (some ⟨Bh,0,none⟩),.pointer (some ⟨Bd,0,none⟩)]] w λe w'=>∃ u F',e = .returned u/\Below w.heap.size w w' /\
   aD w' F' (.sl ar) (gy day l) (λ_ u'=>u'=u)/\∀ q,F' q->(F q\/w.heap.size<=q)/\q<w'.heap.size:=by
 obtain⟨A,cap,b,off,c,e0,hA,hc,hx⟩:=qcm hr;refine(callsIn_wide.1 (qdg 4 (by omega) c F (λk=>l.getD k ar.dflt) l.length hl 177 _ (enters_of func177 (by kernel_rfl) rfl) w hF (λxs=>xs.map (λx=>x.1.1)=jR c day l.length)
  (λw0 hw0=>zev 2 (by omega) hF hBh hBd (oh:=0) hv hday hl hfew e0 hA hc hx w0 hw0))).mono ?_
 rintro e w' ⟨u,xs,F',rfl,hS,hb,hr2,hq⟩;refine⟨u,F',rfl,hb,?_,hq⟩;have:(xs.map λx=>l.getD x.1.1 ar.dflt)=gy day l:=by
  rw[<- qdk (c:=c) λk x h=>(hx k x h).1,<- hS,List.map_map];rfl
 rw[<- this];exact hr2
end Go.Proofs.YtgieagiaagoogaaGreat
namespace Go.Proofs.YtgieagiaagoogaaGreat
open Go Go.Ab Go.RowKit Go.Proofs Tryz
open Go.Ab.Fr renaming val->Jv,need->Jd,br->Jb
def Qk (l:List ar.den):Prop:=l.length<=1000000/\∀ x∈l,x.2.2.2.2.1.length<=1000000
def H2 (_:Nat) (g:FuncId) (args:List AV) (s:St):Option Tr:=
 if g=135 then match args with
  |[.c (.fn f [.ptr i 0,.ptr k 0])]=>match s.mem i,s.mem k with
   |some (.box _ [_,_,_,_,_,_,_,_,_,.sl t l]),some (.box _ [.int .i64 day])=>
    if h:t=ar then if f=177 then some (needL [Qk (dw h l)] (.leaf (.val (.c (.sl ar (gy day (dw h l))))) s)) else none else none
   |_,_=>none
  |_=>none
 else none
def qde:kv prog H2:=by
 intro d g args s t ht;unfold H2 at ht;split at ht<;>try trivial
 rename_i hg;subst hg;split at ht<;>try trivial
 rename_i f i k;split at ht<;>try trivial
 rename_i ty1 c0 c1 c2 c3 c4 c5 c6 c7 c8 t l ty2 day hm1 hm2;split at ht<;>try trivial
 rename_i h;subst h;split at ht<;>try trivial
 rename_i hf;subst hf;cases ht;refine⟨enters_of func135 (by kernel_rfl) rfl,λE a w F γ vs Q hi hr hq=>?_⟩;obtain⟨⟨hf1,hf2⟩,hqv⟩:=hq
 match vs,hr with
 |[v1],⟨⟨_,hv1⟩,_⟩=>
  obtain⟨arr,rfl,hsz,hcaps⟩:=hv1;obtain⟨⟨u0,hu0,_,b1,hR1,rfl⟩,⟨u1,hu1,_,b2,hR2,rfl⟩,_⟩:=hcaps;have g1 : .pointer (some ⟨b1,0,none⟩)=γ i:=by
   have:=hR1;unfold aA at this;rw[hm1] at this;exact this
  have g2 : .pointer (some ⟨b2,0,none⟩)=γ k:=by
   have:=hR2;unfold aA at this;rw[hm2] at this;exact this
  have ha:arr = #[.pointer (some ⟨b1,0,none⟩),.pointer (some ⟨b2,0,none⟩)]:=by
   apply ufo
   ·exact hsz
   ·intro i h1 h2;have hu1':arr[1]? = some (.pointer (some ⟨b2,0,none⟩)):=hu1
    match i,h2 with
    |0,_=>
     rw[uam h1] at hu0;exact ud1 hu0
    |1,_=>
     rw[uam h1] at hu1';exact ud1 hu1'
  subst ha;obtain⟨d1,ar1,e1,hb1,_,_,hs1,hcl⟩:=hi.mem.ob i _ hm1;obtain⟨d2,ar2,e2,hb2,_,_,hs2,hcl2⟩:=hi.mem.ob k _ hm2;rw[<- g1] at e1;rw[<- g2] at e2;cases e1;cases e2;obtain⟨_,_,_,_,_,_,_,_,_,⟨x9,hx9,_,hr9⟩,_⟩:=hcl;obtain⟨⟨y0,hy0,_,hd0⟩,_⟩:=hcl2;have hday:y0 = .int .i64 day:=hd0.1;subst hday;refine(qdf (eo hi) (uaf.1 hb1).1 (uaf.1 hb2).1 ((aU hb1 9).trans hx9) hr9 ((aU hb2 0).trans hy0) hf1 hf2).mono λe w2 hp=>?_;obtain⟨u,F2,rfl,hb,hr2,hq2⟩:=hp;have hBs:=rL hi;obtain⟨s1,m1⟩:=Step.below hi.mem hBs (eo hi) (F':=λq=>F q\/F2 q) hb (λ_ h=>.inl h) (λb hb'=>hb'.elim (λh=>⟨.inl h,ub9 (eo hi b h) hb.size⟩) (λh=>hq2 b h));have hinv:InvG prog E s a w2 [] (λq=>F q\/F2 q) γ:=by
   refine⟨hi.n,hi.df,?_,m1,λt=>(hi.sl t).mono s1.hF s1.hw s1.hR,hi.hg,λt=>s1.repA (hi.gh t)⟩;obtain⟨γ0,h0⟩:=hi.step;exact⟨γ0,h0.trans s1⟩
  have hr3:aD w2 (λq=>F q\/F2 q) (.sl ar) (gy day (dw rfl l)) (λ_ u'=>u'=u):=aD.mono (t:=.sl ar) (λ_ h=>Or.inr h) (λ_ _=>rfl) (λ_ _ _ h=>h) hr2;refine⟨_,_,_,γ,hqv,hinv,u,rfl,?_,hr3⟩;obtain⟨A,c,e1,_⟩:=hr2;rw[<- e1];rfl
noncomputable def Gx:FuncId->Option (Func×(Nat->St->Option Tr)):=dH [(136,(f136,dM))]
def qaa:∀ f fn Λ,Gx f=some (fn,Λ)->prog.funcs[f]? = some fn/\∀ c E',fn.body=some c->cH prog E' Λ c 0:=λf fn Λ h=>by
 simp only[Gx,dH] at h;split at h
 ·rename_i hf;subst hf;cases h;exact⟨by kernel_rfl,λc E' _=>bL c 0⟩
 ·cases h
noncomputable def Xx:Cx:=ib [(70,kC ak)] [] (Ak (ne prog o5 Gx) H2)
def Xz:CxOK prog Xx:=iI (ps:=[]) aG ⟨yU,uT⟩ trivial (K4 (q9 eI qaa) qde)
def Kt:ap.den:=(0,0,((0,0,()),(0,0,0,0,()),[],()),[],())
def g8 (h:ap.den) (d:Int):ap.den×Int:=if d<h.2.1 then (Kt,7) else ((h.1,h.2.1,h.2.2.1,gy d h.2.2.2.1,()),0)
def oK:Ct:=⟨[.d ap,.d i64],[ap,i64],λx=>((g8 x.1 x.2.1).1,(g8 x.1 x.2.1).2,()),λx=>[bD x.1]⟩
def Dl (x:aq [.d ap,.d i64]):Fr (ae [ap,i64]):=
 let h:ap.den:=x.1; let d:Int:=x.2.1
 Jb (decide (h.2.1>d)) (Jv (Kt,7,()))
  (Jd (List.length (α:=ak.den) h.2.2.1.2.2.1<=1000000)
   (Jd (Qk h.2.2.2.1)
    (Jv ((h.1,h.2.1,((h.2.2.1.1.1,h.2.2.1.1.2.1,()),(h.2.2.1.2.1.1,h.2.2.1.2.1.2.1,h.2.2.1.2.1.2.2.1,h.2.2.1.2.1.2.2.2.1,()),((kC ak).f (h.2.2.1.2.2.1,())).1,()),gy d h.2.2.2.1,()),0,()))))
def qpa:aa prog 92 (aL [.d ap,.d i64] [ap,i64] Dl):=
 aH Xz f92 (fr:=Dl) (ps:=[.d ap,.d i64]) (rs:=[ap,i64])
def qo8 (h:ap.den) (d:Int) (hf:bD h):(Dl (h,d,())).ok/\(Dl (h,d,())).get=((g8 h d).1,(g8 h d).2,()):=by
 unfold g8;by_cases h1:d<h.2.1
 ·rw[if_pos h1];exact ay (by simpa using h1) ⟨uT,rfl⟩
 ·rw[if_neg h1];exact ax (by simpa using h1) (au hf.2.1 (au ⟨uen hf.1 (by decide),hf.2.2⟩ ⟨uT,rfl⟩))
def qo9:aa prog 92 oK:=
 cg qpa _ _ (λw F x vs hr hok=>by
  obtain⟨h,d,_⟩:=x;exact qo8 h d hok)
def qa4 {h:ap.den} (hf:bD h) (d:Int):bD (g8 h d).1:=by
 unfold g8;split
 ·exact⟨by decide,by decide,λc hc=>by cases hc⟩
 ·refine⟨uen (List.length_filter_le _ _) hf.1,hf.2.1,λc hc=>hf.2.2 c (List.mem_filter.1 hc).1⟩
def dL (h:ap.den) (t:aP.den) (d:Int):List af.den×Int:=if (g8 h d).2=0 then bJ (g8 h d).1 t else ([],(g8 h d).2)
def l7:Ct:=⟨[.d ap,.d aP,.d i64],[bY,i64],λx=>((dL x.1 x.2.1 x.2.2.1).1,(dL x.1 x.2.1 x.2.2.1).2,()),λx=>[bD x.1,bT x.2.1]⟩
noncomputable def X5:Cx:=cx [(92,oK),(46,ew)] []
def X6:CxOK prog X5:=aJ (ps:=[]) aG ⟨qo9,Kx,uT⟩ trivial
open Go.Ab.Fr renaming val->Jv,need->Jd,br->Jb
abbrev nz:Pt:=⟨21,0,⟨[(10,.d i64),(9,.d i64),(8,.d (.sl ak)),(1,.d i64)],[.x 4 86 ak,.r 4 4 0]⟩,⟨[],[.x 4 86 ak,.r 4 4 0]⟩,⟨[(5,.d .bool)],[.x 4 86 ak,.r 4 4 0]⟩⟩
def Ii (z:nz.M.X):Fr nz.Out:=
 let i:Int:=z.1.1; let n:Int:=z.1.2.1; let l:List ak.den:=z.1.2.2.1; let p:Int:=z.1.2.2.2.1; let o:ak.den:=z.2.1
 let e:ak.den:=l.getD i.toNat ak.dflt
 Jb (decide (i<n))
  (Jd (0<=i/\i<(l.length:Int)) (Jb (e.1==p) (Jv (Rd.back ((true,()),(e,())))) (Jv (Rd.next ((I6.wrap (i+1),n,l,p,()),(o,()))))))
  (Jv (Rd.out ((),(o,()))))
def zaw:ah prog (aC f58 0) nz.M nz Ii:=ah.of_run eI (bs:=0) rfl rfl rfl (λ_=>bL _ 0) (λx=>by kernel_rfl)
def iu:ak.den:=(0,0,0,0,0,())
def cI (p:Int):List ak.den->ak.den×Bool
 |[]=>(iu,false)
 |c::l=>if c.1=p then (c,true) else cI p l
def I7 {p:Int}:{l:List ak.den}->(cI p l).2=false->(cI p l).1=iu
 |[],_=>rfl
 |c::l,h=>by
  unfold cI at h |-;split at h
  ·cases h
  ·rename_i hn;rw[if_neg hn];exact I7 h
structure InFi (i n:Int) (l:List ak.den):Prop where
 i0:0<=i
 il:i<=n
 nl:n=l.length
 big:n<=9223372036854775807
def K8 (o:ak.den) (r:ak.den×Bool):Fr nz.Out:=Jb r.2 (Jv (Rd.back ((true,()),(r.1,())))) (Jv (Rd.out ((),(o,()))))
def Nk (z:nz.M.X):Fr nz.Out:=Jd (InFi z.1.1 z.1.2.1 z.1.2.2.1) (K8 z.2.1 (cI z.1.2.2.2.1 (z.1.2.2.1.drop z.1.1.toNat)))
def qqg (i n:Int) (l:List ak.den) (p:Int) (o:ak.den) (hinv:InFi i n l) (Q:nz.Out->Prop) (hq:(K8 o (cI p (l.drop i.toNat))).satP Q) :
  (Ii ((i,n,l,p,()),(o,()))).satP λ
   |.next x'=>InFi x'.1.1 x'.1.2.1 x'.1.2.2.1/\((x'.1.2.1:Int)-x'.1.1).toNat<(n-i).toNat/\(Nk x').satP Q
   |.out y=>Q (.out y)
   |.back z=>Q (.back z)
   |.pan p=>Q (.pan p):=by
 obtain⟨h1,h2,rfl,h4⟩:=hinv;refine⟨λhi=>?_,λhi=>?_⟩
 ·have hi':i<(l.length:Int):=ucv hi;obtain⟨k,rfl⟩:∃ n:Nat,i=n:=⟨i.toNat,by omega⟩;have hl:k<l.length:=by omega
  have hk:(k:Int).toNat=k:=by omega
  have hk1:((k:Int)+1).toNat=k+1:=by omega
  rw[hk] at hq;have hw:I6.wrap ((k:Int)+1)=k+1:=IntWalk.i64_in _ (by omega);have g1:l.getD (k:Int).toNat ak.dflt=l[k]:=by
   rw[hk,uah,uap hl]; rfl
  rw[ual hl] at hq;dsimp only[Ii,Fr.satP];rw[g1,hw];refine⟨⟨by omega,by omega⟩,λhb=>?_,λhb=>?_⟩
  ·have hb':l[k].1=p:=ufh.1 hb;have e:cI p (l[k]::l.drop (k+1))=(l[k],true):=if_pos hb';rw[e] at hq;exact hq.1 rfl
  ·have hb':¬ l[k].1=p:=ubu.1 hb;have e:cI p (l[k]::l.drop (k+1))=cI p (l.drop (k+1)):=if_neg hb';rw[e] at hq;have hI:InFi ((k:Int)+1) (l.length:Int) l:=⟨by omega,by omega,rfl,h4⟩;refine⟨hI,by show((l.length:Int)-((k:Int)+1)).toNat<((l.length:Int)-(k:Int)).toNat; omega,hI,?_⟩;show(K8 o (cI p (l.drop ((k:Int)+1).toNat))).satP Q;rw[hk1];exact hq
 ·have hi':¬ i<(l.length:Int):=ucf hi;have:l.drop i.toNat=[]:=ua0 (by omega);rw[this] at hq;exact hq.2 rfl
def qrx:ah prog (.loop (aC f58 0)) nz.M nz Nk:=by
 refine ah.loop (n:=21) (id:=0) zaw (inv:=λx=>InFi x.1.1 x.1.2.1 x.1.2.2.1) (μ:=λx=>((x.1.2.1:Int)-x.1.1).toNat) ?_ (λx Q h=>h.1);rintro⟨⟨i,n,l,p,_⟩,o,_⟩ hinv Q hq;exact qqg i n l p o hinv Q hq.2
def sg:Ct:=⟨[.d (.sl ak),.d i64],[ak,.bool],λx=>((cI x.2.1 x.1).1,(cI x.2.1 x.1).2,()),λ_=>[]⟩
def qmd (x:aq [.d (.sl ak),.d i64]):Fr (ae [ak,.bool]):=
 let l:List ak.den:=x.1; let p:Int:=x.2.1
 Jd (InFi 0 l.length l) (Jb (cI p (l.drop (0:Int).toNat)).2 (Jv ((cI p (l.drop (0:Int).toNat)).1,true,())) (Jv (iu,false,())))
def qly:aa prog 58 sg:=
 cg (bz eI qrx (fr:=qmd) (ps:=[.d (.sl ak),.d i64]) (rs:=[ak,.bool])) _ _
  (λw F x vs hr _=>by
   obtain⟨l,p,_⟩:=x;obtain⟨v1,vs1,rfl,h1,_⟩:=hr;have hlen:(l.length:Int)<=9223372036854775807:=fw h1;have hI:InFi 0 (l.length:Int) l:=⟨ufb _,ub2 _,rfl,hlen⟩;refine au hI ?_;show(Jb (cI p l).2 (Jv ((cI p l).1,true,())) (Jv (iu,false,())):Fr (ae [ak,.bool])).ok/\(Jb (cI p l).2 (Jv ((cI p l).1,true,())) (Jv (iu,false,())):Fr (ae [ak,.bool])).get=((cI p l).1,(cI p l).2,());cases hf:(cI p l).2 with
   |true=>exact ay rfl ⟨uT,rfl⟩
   |false=>
    rw[I7 hf];exact ax rfl ⟨uT,rfl⟩)
open Go.Ab.Fr renaming val->Jv,need->Jd,br->Jb
def yG:Pc:=⟨[.d .bool,.d i64],[],λ_=>(),λx=>!x.1,λx=>⟨117+1000000,.i64,x.2.1⟩,λ_=>[]⟩
set_option maxRecDepth 100000 in
def zem:kz prog 54 yG:=by
 refine⟨enters (fn:=f54) (by kernel_rfl) rfl rfl,λw F xs vs hb hr _=>?_⟩;obtain⟨v,vs',rfl,hv,v2,vs'',rfl,hv2,hn⟩:=hr;cases hn;obtain⟨s,n,_⟩:=xs;have hv':v = .bool s:=by
  have h:aM prog w F (λ_ _=>True) (gL .bool s) v:=jV hv;exact h.2
 have hv2':v2 = .int .i64 n:=by
  have h:aM prog w F (λ_ _=>True) (gL i64 n) v2:=jV hv2;exact h.2.1
 subst hv';subst hv2';cases s
 ·go_enter func54,ntmps54
  go_wp2
  refine⟨rfl,.inr ⟨rfl,?_,ufi _ _⟩⟩;show Ending.panicked _=Ending.panicked [{ v:=PV.val ⟨117+1000000,.i64,n⟩,recovered:=false }];rw[W5 (p:=⟨117+1000000,.i64,n⟩) (T:=117) rfl]
 ·go_enter func54,ntmps54
  go_wp2
  go_end0
  refine .inl ⟨rfl,.tuple #[],F,rfl,ufi _ _,λ_ h=>h,λb h=>⟨.inl h,hb b h⟩,#[],rfl,rfl⟩
def ql0 {w:World} {b1 b2:Nat} {t1 t2:TypeId} {a0 a1 a2 a3 a4 c v0 v1 v2 v3 v4 u:Value} (hne:b1≠b2) (h1:w.heap[b1]? = some (.cells #[a0,a1,a2,a3,a4] t1 (0,0))) (h2:w.heap[b2]? = some (.cells #[c] t2 (0,0))) :
  BG (((((((w.setCell ⟨b1,0,none⟩ v0).setCell ⟨b1,1,none⟩ v1).setCell ⟨b1,2,none⟩ v2).setCell ⟨b1,3,none⟩ v3).setCell ⟨b1,4,none⟩ v4).setCell ⟨b2,0,none⟩ u).drew) ((w.setRow b1 #[v0,v1,v2,v3,v4]).setRow b2 #[u]):=by
 have d1:∀ X:World,X.drew.os=X.os/\X.drew.tape=X.tape/\X.drew.output=X.output/\X.drew.heap=X.heap:=λ_=>⟨rfl,rfl,rfl,rfl⟩;have d2:∀ (X:World) (a:Addr) (v:Value),(X.setCell a v).os=X.os/\(X.setCell a v).tape=X.tape/\(X.setCell a v).output=X.output:=λ_ _ _=>⟨rfl,rfl,rfl⟩;have d3:∀ (X:World) (b:Nat) (v:Array Value),(X.setRow b v).os=X.os/\(X.setRow b v).tape=X.tape/\(X.setRow b v).output=X.output:=λ_ _ _=>⟨rfl,rfl,rfl⟩;unfold BG;simp only[(d1 _).1,(d1 _).2.1,(d1 _).2.2.1,(d1 _).2.2.2,(d2 _ _ _).1,(d2 _ _ _).2.1,(d2 _ _ _).2.2,(d3 _ _ _).1,(d3 _ _ _).2.1,(d3 _ _ _).2.2,ufs,uft];have g0:=ucz w b1 0 _ t1 v0 h1;rw[show(#[a0,a1,a2,a3,a4]:Array Value).setIfInBounds 0 v0 = #[v0,a1,a2,a3,a4] from rfl] at g0;have g1:=ucz _ b1 1 _ t1 v1 g0;rw[show(#[v0,a1,a2,a3,a4]:Array Value).setIfInBounds 1 v1 = #[v0,v1,a2,a3,a4] from rfl] at g1;have g2:=ucz _ b1 2 _ t1 v2 g1;rw[show(#[v0,v1,a2,a3,a4]:Array Value).setIfInBounds 2 v2 = #[v0,v1,v2,a3,a4] from rfl] at g2;have g3:=ucz _ b1 3 _ t1 v3 g2;rw[show(#[v0,v1,v2,a3,a4]:Array Value).setIfInBounds 3 v3 = #[v0,v1,v2,v3,a4] from rfl] at g3;have g4:=ucz _ b1 4 _ t1 v4 g3;rw[show(#[v0,v1,v2,v3,a4]:Array Value).setIfInBounds 4 v4 = #[v0,v1,v2,v3,v4] from rfl] at g4;have oo:∀ i,i≠b1->(((((w.setCell ⟨b1,0,none⟩ v0).setCell ⟨b1,1,none⟩ v1).setCell ⟨b1,2,none⟩ v2).setCell ⟨b1,3,none⟩ v3).setCell ⟨b1,4,none⟩ v4).heap[i]? = w.heap[i]? := λi hi=>
  (uci _ _ i _ hi).trans ((uci _ _ i _ hi).trans ((uci _ _ i _ hi).trans ((uci _ _ i _ hi).trans (uci _ _ i _ hi))))
 generalize ((((w.setCell ⟨b1,0,none⟩ v0).setCell ⟨b1,1,none⟩ v1).setCell ⟨b1,2,none⟩ v2).setCell ⟨b1,3,none⟩ v3).setCell ⟨b1,4,none⟩ v4=X at g4 oo;have k2:=ucz X b2 0 _ t2 u ((oo b2 (Ne.symm hne)).trans h2);have r1:=ufd w b1 _ #[v0,v1,v2,v3,v4] t1 (0,0) h1;have r2:=ufd (w.setRow b1 #[v0,v1,v2,v3,v4]) b2 _ #[u] t2 (0,0) ((uey w b1 b2 _ (Ne.symm hne)).trans h2);apply ucg;intro i;by_cases i1:i=b1
 ·subst i1;exact((uci _ _ i _ hne).trans g4).trans ((uey _ b2 i _ hne).trans r1).symm
 ·by_cases i2:i=b2
  ·subst i2;exact k2.trans r2.symm
  ·exact((uci _ _ i _ i2).trans (oo i i1)).trans ((uey _ b2 i _ i2).trans (uey _ b1 i _ i1)).symm
set_option maxRecDepth 100000 in
set_option maxHeartbeats 2000000 in
def zdx:ToldTwo prog 53 117 .i64 5:=by
 refine⟨enters (fn:=f53) (by kernel_rfl) rfl rfl,λp q w=>?_,λb1 b2 t1 t2 o1 o2 n w hne h1 hs1 h2 hs2=>?_⟩
 ·refine callsD_of_wpS func53 rfl λc₀ cs hu=>?_;simp only[ntmps53,uco,uc7,udj,Nat.reduceAdd,Nat.reduceSub,ubk,ubl,ucw,ubv,udk,uc2];apply wpS_seq;apply wpS_region;simp[wpOpsS,go_sem,recoverD,hu,Exit.thenS];refine wpS_of_wp ?_
  go_wp2
  cases c₀
  simp_all[bodyPostS,results,results53]
 ·have hta:∀ w,(Instr.typeAssert (.iface 117 (.agg #[.int .i64 n])) 20 117 false).run prog w = .ok (.agg #[.int .i64 n]) w:=λ_=>by kernel_rfl
  have hfd:∀ w,(Instr.field 117 (.agg #[.int .i64 n]) 0).run prog w = .ok (.int .i64 n) w:=λ_=>by kernel_rfl
  obtain⟨a0,a1,a2,a3,a4,rfl⟩:∃ a0 a1 a2 a3 a4,o1 = #[a0,a1,a2,a3,a4]:=⟨o1[0],o1[1],o1[2],o1[3],o1[4],by
   apply ufo
   ·exact hs1
   ·intro i h1 h2
    match i,h2 with
    |0,_|1,_|2,_|3,_|4,_=>rfl⟩
  obtain⟨c0,rfl⟩:=Kz hs2;have x0:=aU h1 0;have x1:=aU h1 1;have x2:=aU h1 2;have x3:=aU h1 3;have x4:=aU h1 4;have y0:=aU h2 0;simp at x0 x1 x2 x3 x4 y0;have f1:∀ j,w.frozen? ⟨b1,j,none⟩=false:=λj=>by simp[World.frozen?,h1]
  have f2:w.frozen? ⟨b2,0,none⟩=false:=by simp[World.frozen?,h2]
  refine callsD_of_wpS func53 rfl λc₀ cs hu=>?_;simp only[ntmps53,uco,uc7,udj,Nat.reduceAdd,Nat.reduceSub,ubk,ubl,ucw,ubv,udk,uc2];apply wpS_seq;apply wpS_region;simp[wpOpsS,go_sem,recoverD,hu,Exit.thenS];refine wpS_of_wp ?_
  go_wp2
  go_region
  go_wp2
  simp[bodyPostS,results,results53];exact ql0 hne h1 h2
open Go.Ab.Fr renaming val->Jv,need->Jd,br->Jb
def zx (x:aq [.d ap,.d aP,.d i64]):Fr (ae [bY,i64]):=
 let h:ap.den:=x.1; let t:aP.den:=x.2.1; let d:Int:=x.2.2.1
 Jd (bD h) (Jb ((oK.f (h,d,())).2.1 != 0) (Jv ([],(oK.f (h,d,())).2.1,()))
  (Jd (bD (oK.f (h,d,())).1) (Jd (bT t) (Jv ((ew.f ((oK.f (h,d,())).1,t,())).1,(ew.f ((oK.f (h,d,())).1,t,())).2.1,())))))
def qpd:aa prog 56 (aL [.d ap,.d aP,.d i64] [bY,i64] zx):=
 aH X6 f56
def Sk (h:ap.den) (t:aP.den) (d:Int) (hf:bD h) (ht:bT t):(zx (h,t,d,())).ok/\(zx (h,t,d,())).get=((dL h t d).1,(dL h t d).2,()):=by
 refine au hf ?_;unfold dL;by_cases h1:(g8 h d).2=0
 ·rw[if_pos h1];exact ax (by show((g8 h d).2 != 0)=false; simp[h1]) (au (qa4 hf d) (au ht ⟨uT,rfl⟩))
 ·rw[if_neg h1];exact ay (by show((g8 h d).2 != 0)=true; simp[h1]) ⟨uT,rfl⟩
def qpc:aa prog 56 l7:=
 cg qpd _ _ (λw F x vs hr hok=>by
  obtain⟨h,t,d,_⟩:=x;exact Sk h t d hok.1 hok.2)
def Er (e:Int):Prop:=0<=e/\e<=20
def jo:Er 0:=⟨by decide,by decide⟩
def lF:Er 1:=⟨by decide,by decide⟩
def lG:Er 5:=⟨by decide,by decide⟩
def lH:Er 6:=⟨by decide,by decide⟩
def kN:Er 7:=⟨by decide,by decide⟩
def qg4 (a b c:Int):Er (cV a b c).2:=by
 unfold cV;split
 ·first|exact jo|exact lF|exact lG|exact lH|exact kN
 ·split
  ·first|exact jo|exact lF|exact lG|exact lH|exact kN
  ·split<;>first|exact jo|exact lF|exact lG|exact lH|exact kN
def NY:(l:List Int)->(m:Int)->Er (cN l m).2
 |[],_=>jo
 |b::r,m=>by
  unfold cN;split
  ·exact NY r _
  ·exact qg4 _ _ _
def qvy (v:az.den) (r:cj.den) (c:ak.den):Er (cq v r c).2:=by
 unfold cq;split
 ·split
  ·first|exact jo|exact lF|exact lG|exact lH|exact kN
  ·split
   ·first|exact jo|exact lF|exact lG|exact lH|exact kN
   ·exact NY _ _
 ·first|exact jo|exact lF|exact lG|exact lH|exact kN
def zf5 (v:az.den) (r:cj.den):(l:List ak.den)->(q:Int)->(b:Bool)->Er (cM v r l q b).2.2
 |[],_,_=>jo
 |c::l,q,b=>by
  unfold cM;split
  ·split
   ·split
    ·exact zf5 v r l _ _
    ·exact zf5 v r l _ _
   ·exact zf5 v r l _ _
  ·exact qvy _ _ _
def zfj (v:az.den) (r:cj.den) (l:List ak.den):Er (kr v r l).2:=by
 unfold kr;split
 ·split<;>first|exact jo|exact lF|exact lG|exact lH|exact kN
 ·exact zf5 _ _ _ _ _
def If (v:az.den):(l:List af.den)->Er (co v l)
 |[]=>jo
 |s::l=>by
  unfold co;split
  ·split
   ·exact If v l
   ·exact zfj _ _ _
  ·exact If v l
def Wg (d:Int):(l:List az.den)->Er (bB d l).2
 |[]=>kN
 |v::r=>by
  unfold bB;split
  ·first|exact jo|exact lF|exact lG|exact lH|exact kN
  ·exact Wg d r
def qun (h:ap.den) (t:aP.den):Er (bJ h t).2:=by
 unfold bJ;split
 ·split
  ·split
   ·first|exact jo|exact lF|exact lG|exact lH|exact kN
   ·exact If _ _
  ·exact Wg _ _
 ·first|exact jo|exact lF|exact lG|exact lH|exact kN
def qps (h:ap.den) (t:aP.den) (d:Int):Er (dL h t d).2:=by
 unfold dL;split
 ·exact qun _ _
 ·unfold g8;split<;>first|exact jo|exact lF|exact lG|exact lH|exact kN
def Er.inR {e:Int} (h:Er e):inR .i64 e:=by
 obtain⟨h1,h2⟩:=h;have e1:IntKind.i64.min = -9223372036854775808:=by decide
 have e2:IntKind.i64.max=9223372036854775807:=by decide
 unfold Go.Ab.inR;rw[e1,e2];omega
def yT (c:cO.den):Bool:=vC c.1 c.2.1 c.2.2.1 c.2.2.2.1 c.2.2.2.2.1 c.2.2.2.2.2.1
def H5 (l:List af.den) (c:cO.den):ak.den×Int:=
 if ((cu l c.2.2.2.1).2&&(cu l c.2.2.2.1).1.2.1)=true then
  (if (cI c.2.2.1 (cu l c.2.2.2.1).1.2.2.2.1).2=true then ((cI c.2.2.1 (cu l c.2.2.2.1).1.2.2.2.1).1,0) else (iu,11))
 else (iu,11)
def lC (h:ap.den) (t:aP.den) (c:cO.den):ak.den×Int:=
 if yT c=true then
  (if c.2.2.2.1<=c.2.2.2.2.1 then
   (if c.2.1=h.1 then (if (dL h t c.2.2.2.2.1).2=0 then H5 (dL h t c.2.2.2.2.1).1 c else (iu,(dL h t c.2.2.2.2.1).2)) else (iu,7))
  else (iu,4))
 else (iu,1)
def uW:Ct:=⟨[.d ap,.d aP,.d cO],[ak,i64],λx=>((lC x.1 x.2.1 x.2.2.1).1,(lC x.1 x.2.1 x.2.2.1).2,()),λx=>[bD x.1,bT x.2.1]⟩
noncomputable def Mo:Cx:=cx [(55,uV),(56,l7),(57,oE),(58,sg)] [(54,yG)]
def Mp:CxOK prog Mo:=aJ aG ⟨quc,qpc,zb7,qly,uT⟩ ⟨zem,uT⟩
def ov (b:Bool) (e:Int) (k:Fr (ae [ak,i64])):Fr (ae [ak,i64]):=
 Jb (yG.bad (b,e,())) (Jd (inR .i64 (yG.pv (b,e,())).n) (Jv ((0,0,0,0,0,()),(yG.pv (b,e,())).n,()))) k
def Df (x:aq [.d ap,.d aP,.d cO]):Fr (ae [ak,i64]):=
 let h:ap.den:=x.1; let t:aP.den:=x.2.1; let c:cO.den:=x.2.2.1
 ov (uV.f (c,())).1 1 (ov (decide (c.2.2.2.2.1>=c.2.2.2.1)) 4 (ov (c.2.1==h.1) 7 (Jd (bD h) (Jd (bT t)
  (ov ((l7.f (h,t,c.2.2.2.2.1,())).2.1==0) (l7.f (h,t,c.2.2.2.2.1,())).2.1
   (ov (bif (oE.f ((l7.f (h,t,c.2.2.2.2.1,())).1,c.2.2.2.1,())).2.1 then (oE.f ((l7.f (h,t,c.2.2.2.2.1,())).1,c.2.2.2.1,())).1.2.1 else false) 11
    (ov (sg.f ((oE.f ((l7.f (h,t,c.2.2.2.2.1,())).1,c.2.2.2.1,())).1.2.2.2.1,c.2.2.1,())).2.1 11
     (Jv ((sg.f ((oE.f ((l7.f (h,t,c.2.2.2.2.1,())).1,c.2.2.2.1,())).1.2.2.2.1,c.2.2.1,())).1,0,())))))))))
noncomputable def OU:Code:=(f26.body.map λc=>fa (fa c)).getD .skip
def qdt:aa prog 26 (aL [.d ap,.d aP,.d cO] [ak,i64] Df):=
 qgo Mp (run:=λs=>cU prog Mo 0 dM OU 0 s) (T:=117) (k:=.i64) (m:=5) (fn:=f26) (A:=lN (f26.body.getD .skip)) (c:=OU) (rid:=1) (ops:=Eb (lN (fa (f26.body.getD .skip)))) (td:=12) (ta:=6) (tb:=7) (fr:=Df) (ps:=[.d ap,.d aP,.d cO]) (rs:=[ak,i64]) (ap.dflt,aP.dflt,cO.dflt,())
  (by kernel_rfl) (by kernel_rfl) (by kernel_rfl) zdx (λE=>vD Mp (bL _ 0)) (λx=>by kernel_rfl)
def xO {b:Bool} {e:Int} {k:Fr (ae [ak,i64])} {y:ae [ak,i64]} (hb:b=true) (hk:k.ok/\k.get=y):(ov b e k).ok/\(ov b e k).get=y:=ax (by show(!b)=false; rw[hb]; rfl) hk
def xN {b:Bool} {e:Int} {k:Fr (ae [ak,i64])} (hb:b=false) (he:inR .i64 e):(ov b e k).ok/\(ov b e k).get=(iu,e,()):=ay (by show(!b)=true; rw[hb]; rfl) (au he ⟨uT,rfl⟩)
def qdr (h:ap.den) (t:aP.den) (c:cO.den) (hf:bD h) (ht:bT t):(Df (h,t,c,())).ok/\(Df (h,t,c,())).get=((lC h t c).1,(lC h t c).2,()):=by
 unfold lC;by_cases h1:yT c=true
 ·rw[if_pos h1];refine xO h1 ?_;by_cases h2:c.2.2.2.1<=c.2.2.2.2.1
  ·rw[if_pos h2];refine xO (by simpa using h2) ?_;by_cases h3:c.2.1=h.1
   ·rw[if_pos h3];refine xO (by simpa using h3) (au hf (au ht ?_));by_cases h4:(dL h t c.2.2.2.2.1).2=0
    ·rw[if_pos h4];refine xO (by show((dL h t c.2.2.2.2.1).2==0)=true; simpa using h4) ?_;unfold H5;by_cases h5:((cu (dL h t c.2.2.2.2.1).1 c.2.2.2.1).2&&(cu (dL h t c.2.2.2.2.1).1 c.2.2.2.1).1.2.1)=true
     ·rw[if_pos h5];refine xO ((lw _ _).trans h5) ?_;by_cases h6:(cI c.2.2.1 (cu (dL h t c.2.2.2.2.1).1 c.2.2.2.1).1.2.2.2.1).2=true
      ·rw[if_pos h6];exact xO h6 ⟨uT,rfl⟩
      ·rw[if_neg h6];exact xN (ucx.2 h6) ⟨by decide,by decide⟩
     ·rw[if_neg h5];exact xN ((lw _ _).trans (ucx.2 h5)) ⟨by decide,by decide⟩
    ·rw[if_neg h4];exact xN (by show((dL h t c.2.2.2.2.1).2==0)=false; simpa using h4) (qps h t _).inR
   ·rw[if_neg h3];exact xN (by simpa using h3) ⟨by decide,by decide⟩
  ·rw[if_neg h2];exact xN (by simpa using h2) ⟨by decide,by decide⟩
 ·rw[if_neg h1];exact xN (ucx.2 h1) ⟨by decide,by decide⟩
def qds:aa prog 26 uW:=
 cg qdt _ _ (λw F x vs hr hok=>by
  obtain⟨h,t,c,_⟩:=x;exact qdr h t c hok.1 hok.2)
open Go.Ab.Fr renaming val->Jv,need->Jd,br->Jb
noncomputable def Yr:Cx:=cx [(145,uZ),(98,kE),(259,Cr)] []
def Ys:CxOK prog Yr:=aJ aG ⟨P5,LN,Tw,uT⟩ trivial
def qh7 (x:aq [.d i64,.d i64,.d cr]):Fr (ae [ap,i64]):=
 Jb (bif bif bif decide (x.1<1) then true else decide (x.1>1000000000) then true else !(uZ.f (x.2.1,())).1 then true else !(kE.f (x.2.2.1,())).1) (Jv ((0,0,((0,0,()),(0,0,0,0,()),[],()),[],()),1,())) (Jd (List.length x.2.2.1.2.2.1<=1000000) (Jv ((x.1,x.2.1,(Cr.f (x.2.2.1,())).1,[],()),0,())))
def qh8:aa prog 256 (aL [.d i64,.d i64,.d cr] [ap,i64] qh7):=
 aH Ys f256
def uP (id bk:Int) (t:cr.den):Bool:=bif bif bif decide (id<1) then true else decide (id>1000000000) then true else !(eO bk) then true else !(ft t)
def lx (id bk:Int) (t:cr.den):ap.den×Int:=bif uP id bk t then (fh,1) else ((id,bk,t,[],()),0)
def Oe:Ct:=⟨[.d i64,.d i64,.d cr],[ap,i64],λx=>((lx x.1 x.2.1 x.2.2.1).1,(lx x.1 x.2.1 x.2.2.1).2,()),λ_=>[]⟩
def VB {t:cr.den} (h:ft t=true):t.2.2.1.length<=1000000:=by
 unfold ft at h;rw[uc9,uc9,uc9] at h;have hc:ji t.2.2.1=true:=h.2.2.2;unfold ji at hc;rw[uc9] at hc;have:=ucv hc.1;exact uen this.2 (by decide)
def NP {id bk:Int} {t:cr.den} (h:uP id bk t=false):ft t=true:=by
 unfold uP at h;cases ht:ft t
 ·rw[ht] at h;cases h1:(bif bif decide (id<1) then true else decide (id>1000000000) then true else !(eO bk))<;>rw[h1] at h<;>cases h
 ·rfl
def qbw:aa prog 256 Oe:=conv qh8 _ _ (λ_ _ x _ _ _=>by
 obtain⟨id,bk,t,_⟩:=x;show _/\_=((lx id bk t).1,(lx id bk t).2,());unfold lx;cases h:uP id bk t
 ·exact ax h (au (VB (NP h)) ⟨uT,rfl⟩)
 ·exact ay h ⟨uT,rfl⟩)
def G7 (id bk:Int) (t:cr.den):bD (lx id bk t).1:=by
 unfold lx;cases h:uP id bk t
 ·exact⟨by show 0<=500000; omega,VB (NP h),λc hc=>by cases hc⟩
 ·have z:bD fh:=⟨by decide,by decide,λc hc=>by cases hc⟩;exact z
def GK:Ct:=⟨[.d aT],[i64],λx=>(fZ x.1,()),λ_=>[]⟩
def GY:Ct:=⟨[.d aB],[i64],λx=>(gO x.1,()),λ_=>[]⟩
def lv (f:factT.den) (g:aB.den):Bool:=bif g.1.2.1==cw f then decide (g.1.2.2.2.2.1>=bx f) else false
def GI:Ct:=⟨[.d aB,.ptr factT],[.bool],λx=>(lv x.2.1 x.1,()),λ_=>[]⟩
def qbp:aa prog 258 GK:=
 conv (aH eI f258 (fr:=λx=>Jv (fZ x.1,())) (ps:=GK.ps) (rs:=[i64])) _ _ (λ_ _ _ _ _ _=>⟨uT,rfl⟩)
def qt0:aa prog 276 GY:=
 conv (aH eI f276 (fr:=λx=>Jv (gO x.1,())) (ps:=GY.ps) (rs:=[i64])) _ _ (λ_ _ _ _ _ _=>⟨uT,rfl⟩)
def qap:aa prog 269 GI:=
 conv (aH eI f269 (fr:=λx=>Jv (lv x.2.1 x.1,())) (ps:=GI.ps) (rs:=[.bool])) _ _ (λ_ _ _ _ _ _=>⟨uT,rfl⟩)
open Go.Ab.Fr renaming val->Jv,need->Jd,br->Jb
noncomputable def Ye:Cx:=cx [(307,Hg),(43,eN)] []
def Yf:CxOK prog Ye:=aJ aG ⟨qxe,sL,uT⟩ trivial
abbrev qL:Pt:=⟨28,2,⟨[(14,.d i64),(13,.d i64),(12,.d (.sl av)),(6,.d i64),(1,.d i64),(5,.d i64),(9,.d i64),(0,.d (.sl av))],[]⟩,⟨[(6,.d i64),(1,.d i64),(9,.d i64),(0,.d (.sl av))],[]⟩,⟨[],[]⟩⟩
noncomputable def RV:Code:=((dZ (aC f303 0) 0).getD .skip)
abbrev ES:Type:=aq [.d i64,.d i64,.d i64,.d i64,.d (.sl av)]×bW []
def pC (e:av.den) (s:ES):Fr ES:=
 let a:=s.1.2;Jd (¬a.2.1<0) (Jv ((I6.wrap (s.1.1+(Hg.f (e,a.1,a.2.1,())).1),a.1,a.2.1,a.2.2.1,a.2.2.2.1,()),()))
def LU (x:qL.M.X):Int×List av.den×ES:=(x.1.1,x.1.2.2.1,x.1.2.2.2,x.2)
def JD (x:qL.M.X):Prop:=x.1.2.1=(x.1.2.2.1.length:Int)
def Ti (s:ES):qL.E.X:=((s.1.1,s.1.2.1,s.1.2.2.2.1,s.1.2.2.2.2.1,()),())
def qsr:ah prog (.loop RV) qL.M qL (FF pC LU JD Ti):=
 Bt Yf (λ_ _=>.n .o) av.dflt (λx=>x.1.2.1) (λx s=>((I6.wrap (x.1.1+1),x.1.2.1,x.1.2.2.1,s.1),s.2)) (λ_ h=>h)
def zf1 (Γ:Gm):St->Option Tr:=qL.han Γ qL.M (FF pC LU JD Ti)
abbrev wP:Pt:=⟨33,0,⟨[(15,.d i64),(14,.d i64),(13,.d (.sl av))],[.x 3 44 av,.r 3 3 0,.y 5 27 [(some 44,av)],.r 5 5 0]⟩,⟨[],[.x 3 44 av,.r 3 3 0,.y 5 27 [(some 44,av)],.r 5 5 0]⟩,⟨[],[]⟩⟩
abbrev AP:Type:=aq []×bW [.x 3 44 av,.r 3 3 0,.y 5 27 [(some 44,av)],.r 5 5 0]
def xB (e:av.den) (s:AP):Fr AP:=
 let b:=s.2.2.1.1;let a:=(e.1,e.2.1,e.2.2.1,e.2.2.2.1,e.2.2.2.2.1,e.2.2.2.2.2.1,e.2.2.2.2.2.2.1,I6.wrap ((BitVec.ofInt I6.bits e.2.2.2.2.2.2.2.1 &&& BitVec.ofInt I6.bits s.2.1.2.2.2.2.2.2.2.1).toNat:Int),());Jd (b.length + [a].length<=maxLen/\(b.length + [a].length)*72<=140737488355328) (Jv ((),s.2.1,(b++[a],()),()))
def VR (x:wP.M.X):Int×List av.den×AP:=(x.1.1,x.1.2.2.1,x.1.2.2.2,x.2)
def Rx (x:wP.M.X):Prop:=x.1.2.1=(x.1.2.2.1.length:Int)
def qwj (s:AP):wP.E.X:=((),s.2.1,(s.2.2.1.1,()),())
def qtb:ah prog (.loop (aC f299 0)) wP.M wP (FF xB VR Rx qwj):=
 Bt eI (λ_ _=>.n .o) av.dflt (λx=>x.1.2.1) (λx s=>((I6.wrap (x.1.1+1),x.1.2.1,x.1.2.2.1,s.1),s.2)) (λ_ h=>h)
abbrev tu:Pt:=⟨22,0,⟨[(9,.d i64),(8,.d i64),(7,.d (.sl factT)),(3,.d i64)],[]⟩,⟨[(3,.d i64)],[]⟩,⟨[],[]⟩⟩
abbrev AN:Type:=aq [.d i64]×bW []
def oc (e:factT.den) (s:AN):Fr AN:=
 Jb (e.2.1==7) (Jv ((if s.1.1<e.2.2.2.2.1 then e.2.2.2.2.1 else s.1.1,()),())) (Jv ((s.1.1,()),()))
def rm (x:tu.M.X):Int×List factT.den×AN:=(x.1.1,x.1.2.2.1,x.1.2.2.2,x.2)
def Ru (x:tu.M.X):Prop:=x.1.2.1=(x.1.2.2.1.length:Int)
def Th (s:AN):tu.E.X:=((s.1.1,()),())
def qsp:ah prog (.loop (aC f88 0)) tu.M tu (FF oc rm Ru Th):=
 Bt eI (λ_ _=>.n .o) factT.dflt (λx=>x.1.2.1) (λx s=>((I6.wrap (x.1.1+1),x.1.2.1,x.1.2.2.1,s.1),s.2)) (λ_ h=>h)
def qy4 (y:tu.M.X):AN:=fg oc ((rm y).2.1.drop (rm y).1.toNat) (rm y).2.2
def qu9 (y:tu.M.X):Prop:=kX oc ((rm y).2.1.drop (rm y).1.toNat) (rm y).2.2
open Go.Ab.Fr renaming val->Jv,need->Jd,br->Jb
abbrev nI:Pt:=⟨28,0,⟨[(9,.d i64),(0,.d (.sl av)),(1,.d i64)],[]⟩,⟨[],[]⟩,⟨[(4,.d .bool)],[]⟩⟩
def lk (day peril:Int) (l:List av.den) (s:Int):Int:=l.foldl (λs t=>I6.wrap (s+bM t day peril)) s
def OZ (day p i:Int) (l0:List av.den):(l:List av.den)->(s:Int)->fg pC l ((s,day,p,i,l0,()),())=((lk day p l s,day,p,i,l0,()),())
 |[],_=>rfl
 |t::l,s=>OZ day p i l0 l (I6.wrap (s+bM t day p))
def Pa (day p i:Int) (hp:¬ p<0) (l0:List av.den):(l:List av.den)->(s:Int)->kX pC l ((s,day,p,i,l0,()),())
 |[],_=>trivial
 |t::l,s=>⟨⟨hp,uT⟩,Pa day p i hp l0 l (I6.wrap (s+bM t day p))⟩
abbrev PX (i:Int) (l:List av.den) (day:Int):qL.M.X:=((0,((List.length l:Nat):Int),l,0,day,i,i,l,()),())
def QQ (x:nI.M.X):Fr nI.Out:=
 let b:=PX x.1.1 x.1.2.1 x.1.2.2.1;let a:=fg pC (List.drop 0 x.1.2.1) ((0,x.1.2.2.1,x.1.1,x.1.1,x.1.2.1,()),());Jb (decide (x.1.1<8)) (Jd (InL (JD b) (LU b))
  (Jd (kX pC (List.drop 0 x.1.2.1) ((0,x.1.2.2.1,x.1.1,x.1.1,x.1.2.1,()),()))
   (Jb (decide (a.1.1>10000)) (Jv (Rd.back ((true,()),())))
    (Jv (Rd.next ((I6.wrap (a.1.2.2.2.1+1),a.1.2.2.2.2.1,a.1.2.1,()),()))))))
  (Jv (Rd.out ((),())))
def zbf:ah prog (aC f303 0) nI.M nI QQ:=
 ah.of_run eI (bs:=0) (Λ:=λ_=>zf1 o5.Γ) rfl rfl rfl (λE=>oW _ 0 λi b hb=>by
  match i,hb with
  |0,hb=>
   have e:some RV=some b:=by rw[<- hb]; kernel_rfl
   cases e;exact ah.han eI rfl qsr
  |i+1,hb=>exact absurd (oC hb) (by
   have:cG (aC f303 0)=1:=by kernel_rfl
   omega)) (λx=>by kernel_rfl)
def qh (l:List av.den) (day:Int):Nat->Int->Bool
 |0,_=>false
 |n+1,p=>decide (lk day p l 0>10000) || qh l day n (p+1)
def kH (l:List av.den) (day:Int):Bool:=qh l day 8 0
def uF (i:Int) (l:List av.den):Prop:=0<=i/\i<=8/\((List.length l:Nat):Int)<=9223372036854775807
def N1 (x:nI.M.X):Fr nI.Out:=
 Jd (uF x.1.1 x.1.2.1) (Jb (qh x.1.2.1 x.1.2.2.1 (8-x.1.1).toNat x.1.1) (Jv (Rd.back ((true,()),()))) (Jv (Rd.out ((),()))))
def qq9 (i:Int) (l:List av.den) (day:Int) (hinv:uF i l) (Q:nI.Out->Prop) (hq:(Jb (qh l day (8-i).toNat i) (Jv (Rd.back ((true,()),()))) (Jv (Rd.out ((),()))):Fr nI.Out).satP Q) :
  (QQ ((i,l,day,()),())).satP λ
   |.next x'=>uF x'.1.1 x'.1.2.1/\(8-x'.1.1).toNat<(8-i).toNat/\(N1 x').satP Q
   |.out y=>Q (.out y)
   |.back z=>Q (.back z)
   |.pan p=>Q (.pan p):=by
 obtain⟨h1,h2,h3⟩:=hinv;by_cases hi:i<8
 ·refine⟨λ_=>⟨⟨rfl,ufb _,ub2 _,h3⟩,Pa day i i (by omega) l (List.drop 0 l) 0,?_⟩,λh=>absurd hi (ucf h)⟩;have hw:I6.wrap (i+1)=i+1:=IntWalk.i64_in _ (by omega);dsimp only;rw[OZ,ued];have hn:(8-i).toNat=(8-(i+1)).toNat+1:=by omega
  rw[hn] at hq;dsimp only[qh] at hq;refine⟨λhb=>?_,λhb=>?_⟩
  ·have hb':decide (lk day i l 0>10000)=true:=hb;rw[hb'] at hq;exact hq.1 rfl
  ·have hb':decide (lk day i l 0>10000)=false:=hb;rw[hb',Bool.false_or] at hq;dsimp only;rw[hw];have hI:uF (i+1) l:=⟨by omega,by omega,h3⟩;have hm:(8-(i+1)).toNat<(8-i).toNat:=by omega
   exact⟨hI,hm,hI,hq⟩
 ·refine⟨λh=>absurd (ucv h) hi,λ_=>?_⟩;have hn:(8-i).toNat=0:=by omega
  rw[hn] at hq;exact hq.2 rfl
def qsq:ah prog (.loop (aC f303 0)) nI.M nI N1:=by
 refine ah.loop (n:=28) (id:=0) zbf (inv:=λx=>uF x.1.1 x.1.2.1) (μ:=λx=>(8-x.1.1).toNat) ?_ (λx Q h=>h.1);rintro⟨⟨i,l,day,_⟩,_⟩ hinv Q hq;exact qq9 i l day hinv Q hq.2
def Oh:Ct:=⟨[.d (.sl av),.d i64],[.bool],λx=>(kH x.1 x.2.1,()),λ_=>[]⟩
def qd2:aa prog 303 Oh:=
 conv (bz eI qsq (ps:=[.d (.sl av),.d i64]) (rs:=[.bool]) (fr:=λx=>Jd (uF 0 x.1) (Jb (qh x.1 x.2.1 (8-(0:Int)).toNat 0) (Jv (true,())) (Jv (false,()))))) _ _ (λw F x vs hr _=>by
  obtain⟨l,day,_⟩:=x;obtain⟨v,vs',rfl,hv,_⟩:=hr;have hlen:((List.length (α:=av.den) l:Nat):Int)<=9223372036854775807:=fw hv;refine au ⟨by omega,by omega,hlen⟩ ?_;show _/\_=(kH l day,());cases hc:kH l day
  ·exact ax hc ⟨uT,rfl⟩
  ·exact ay hc ⟨uT,rfl⟩)
def lV (x t:av.den) (all:List av.den):Bool:=bif (eN.f (t.2.2.1,x.2.2.1.1,())).1 then kH all x.2.2.1.1 else false
def Hf:Ct:=⟨[.d av,.ptr av,.ptr (.sl av)],[.bool],λx=>(lV x.1 x.2.1 x.2.2.1,()),λ_=>[]⟩
noncomputable def Yg:Cx:=cx [(303,Oh),(43,eN)] []
def Yh:CxOK prog Yg:=aJ aG ⟨qd2,sL,uT⟩ trivial
def qww:aa prog 302 Hf:=
 conv (aH Yh f302 (fr:=λx=>Jv (lV x.1 x.2.1 x.2.2.1,())) (ps:=Hf.ps) (rs:=[.bool])) _ _ (λ_ _ _ _ _ _=>⟨uT,rfl⟩)
open Go.Ab.Fr renaming val->Jv,need->Jd,br->Jb
def dV (t x:av.den):av.den:=(x.1,x.2.1,x.2.2.1,x.2.2.2.1,x.2.2.2.2.1,x.2.2.2.2.2.1,x.2.2.2.2.2.2.1,I6.wrap ((BitVec.ofInt I6.bits x.2.2.2.2.2.2.2.1 &&& BitVec.ofInt I6.bits t.2.2.2.2.2.2.2.1).toNat:Int),())
def dD (l:List av.den) (t:av.den):List av.den:=[t]++l.map (dV t)
def gu (l:List av.den) (t:av.den):Bool:=bif t.2.1 != 1 then false else (dD l t).any λx=>lV x t (dD l t)
def To (t:av.den):(l a:List av.den)->fg xB l ((),t,(a,()),())=((),t,(a++l.map (dV t),()),())
 |[],a=>by rw[List.map_nil,udp]; rfl
 |x::l,a=>by
  have h:=To t l (a++[dV t x]);rw[ucp] at h;exact h
def Tp (t:av.den):(l a:List av.den)->a.length+l.length<=1000000->kX xB l ((),t,(a,()),())
 |[],_,_=>trivial
 |x::l,a,h=>by
  rw[uc7] at h;refine⟨⟨⟨?_,?_⟩,uT⟩,Tp t l (a++[dV t x]) (by rw[ub4,ua5]; omega)⟩
  ·show a.length+1<=maxLen;unfold maxLen; omega
  ·show(a.length+1)*72<=140737488355328;omega
abbrev PY (l:List av.den) (t:av.den):wP.M.X:=((0,((List.length l:Nat):Int),l,()),t,([t],()),())
abbrev sG (l:List av.den) (t:av.den):AP:=fg xB (List.drop 0 l) ((),t,([t],()),())
noncomputable def Yi:Cx:=cx [(297,yo av),(302,Hf)] []
def Yj:CxOK prog Yi:=aJ aG ⟨NJ,qww,uT⟩ trivial
abbrev N5:List PT:=[.d (.sl av),.d av]
def Oy:Ct:=⟨N5,[.bool],λx=>(gu x.1 x.2.1,()),λx=>[x.1.length<=100000]⟩
def qw0:aa prog 299 Oy:=
 conv (bz Yj qtb (ps:=N5) (rs:=[.bool]) (fr:=λx=>Jb (x.2.1.2.1 != 1) (Jv (false,())) (Jd (InL (Rx (PY x.1 x.2.1)) (VR (PY x.1 x.2.1))) (Jd (kX xB (List.drop 0 x.1) ((),x.2.1,([x.2.1],()),())) (Jd (∀ y:ae [av],kB [av] y->aE ([]:List Prop)) (Jv ((sG x.1 x.2.1).2.2.1.1.any (λn=>lV n (sG x.1 x.2.1).2.1 (sG x.1 x.2.1).2.2.1.1),()))))))) _ _ (λw F x vs hr h=>by
  obtain⟨l,t,_⟩:=x;have hl:List.length (α:=av.den) l<=100000:=h;show _/\_=(gu l t,());unfold gu;cases hc:t.2.1 != 1
  ·refine ax hc (au ⟨rfl,ufb _,ub2 _,?_⟩ (au (Tp t (List.drop 0 l) [t] (by rw[ued,ua5]; omega)) (au (λ_ _=>uT) ⟨uT,?_⟩)))
   ·show((List.length (α:=av.den) l:Nat):Int)<=_;omega
   ·show((sG l t).2.2.1.1.any (λn=>lV n (sG l t).2.1 (sG l t).2.2.1.1),())=_;have e:sG l t=((),t,(dD l t,()),()):=by
     show fg xB (List.drop 0 l) _=_;rw[ued,To]; rfl
    rw[e];rfl
  ·exact ay hc ⟨uT,rfl⟩)
def rj (s:ag.den) (t:av.den):Bool:=(bw s).any λx=>x.1==t.1
def Ft (s:ag.den) (l:List av.den):ag.den:=(s.1,s.2.1,s.2.2.1,l,s.2.2.2.2.1,())
def gK (s:ag.den) (f:factT.den):ag.den×Int:=
 bif rj s (cp f) then (s,8) else bif decide (((List.length (bw s):Nat):Int)>=100) then (s,2) else bif gu (bw s) (cp f) then (s,13)
  else (Ft s (fo (λt=>t.1) (bw s) (cp f)),0)
abbrev iA:List PT:=[.d factT,.d ag]
def Cz:Ct:=⟨[.d av],[i64],λx=>(x.1.1,()),λ_=>[]⟩
def Ho:Ct:=⟨[.d av,.pk 296,.ptr factT],[.bool],λx=>(x.1.1==(cp x.2.2.1).1,()),λ_=>[]⟩
def VM:aa prog 296 Cz:=
 conv (aH eI f296 (fr:=λx=>Jv (x.1.1,())) (ps:=Cz.ps) (rs:=[i64])) _ _ (λ_ _ _ _ _ _=>⟨uT,rfl⟩)
noncomputable def Yk:Cx:=cx [(296,Cz)] []
def Yl:CxOK prog Yk:=aJ aG ⟨VM,uT⟩ trivial
def zd4:aa prog 298 Ho:=
 conv (aH Yl f298 (fr:=λx=>Jv (x.1.1==(cp x.2.2.1).1,())) (ps:=Ho.ps) (rs:=[.bool])) _ _ (λ_ _ _ _ _ _=>⟨uT,rfl⟩)
noncomputable def Ym:Cx:=cx [(297,yo av),(296,Cz),(298,Ho),(299,Oy),(300,vo av)] []
def Yn:CxOK prog Ym:=aJ aG ⟨NJ,VM,zd4,qw0,qxx,uT⟩ trivial
def Oo:Ct:=⟨iA,[ag,i64],λx=>((gK x.2.1 x.1).1,(gK x.2.1 x.1).2,()),λ_=>[]⟩
def qmc (x:aq iA):Fr (ae [ag,i64]):=
 let c:=([]:List Prop);let b:=cp x.1;let a:=bw x.2.1;Jd (∀ y:ae [av],kB [av] y->aE c) (Jb (rj x.2.1 b) (Jv (x.2.1,8,())) (Jb (decide (((List.length a:Nat):Int)>=100)) (Jv (x.2.1,2,()))
  (Jd (a.length<=100000) (Jb (gu a b) (Jv (x.2.1,13,()))
   (Jd (∀ y:ae [av],kB [av] y->aE c) (Jd (a.length<=100000) (Jv (Ft x.2.1 (fo (λt=>t.1) a b),0,()))))))))
def qgi:aa prog 295 Oo:=
 conv (aH Yn f295 (fr:=qmc) (ps:=iA) (rs:=[ag,i64])) _ _ (λ_ _ x _ _ _=>by
  obtain⟨f,s,_⟩:=x;show _/\_=((gK s f).1,(gK s f).2,());unfold gK;refine au (λ_ _=>uT) ?_;cases h1:rj s (cp f)
  ·refine ax rfl ?_;cases h2:decide (((List.length (bw s):Nat):Int)>=100)
   ·have hl:(bw s).length<=100000:=by have:=ucf h2; omega
    refine ax rfl (au hl ?_);cases h3:gu (bw s) (cp f)
    ·exact ax rfl (au (λ_ _=>uT) (au hl ⟨uT,rfl⟩))
    ·exact ay rfl ⟨uT,rfl⟩
   ·exact ay rfl ⟨uT,rfl⟩
  ·exact ay rfl ⟨uT,rfl⟩)
def gH (s:ag.den) (f:factT.den):ag.den×Int:=bif decide (dp f<=gW s) then (s,12) else ((s.1,s.2.1,s.2.2.1,s.2.2.2.1,dp f,()),0)
def Ol:Ct:=⟨iA,[ag,i64],λx=>((gH x.2.1 x.1).1,(gH x.2.1 x.1).2,()),λ_=>[]⟩
def qgd:aa prog 312 Ol:=
 conv (aH eI f312 (fr:=λx=>Jb (decide (dp x.1<=gW x.2.1)) (Jv (x.2.1,12,())) (Jv ((x.2.1.1,x.2.1.2.1,x.2.1.2.2.1,x.2.1.2.2.2.1,dp x.1,()),0,()))) (ps:=iA) (rs:=[ag,i64])) _ _ (λ_ _ x _ _ _=>by
  obtain⟨f,s,_⟩:=x;show _/\_=((gH s f).1,(gH s f).2,());unfold gH;cases h1:decide (dp f<=gW s)
  ·exact ax h1 ⟨uT,rfl⟩
  ·exact ay h1 ⟨uT,rfl⟩)
open Go.Ab.Fr renaming val->Jv,need->Jd,br->Jb
noncomputable def qd3:List (FuncId×Ct):=[(48,jN),(60,jc),(21,GG),(256,Oe),(20,vd),(270,oM),(26,uW),(275,Ox),(285,Of),(257,(vo aT)),(274,(vo aB)),(271,(C5 aT)),(286,(C5 aB)),(268,(yo aB)),(258,GK),(276,GY),(269,GI)]
noncomputable def Yt:Cx:=cx qd3 []
def yb:CxOK prog Yt:=aJ aG ⟨NA,Qy,NB,qbw,qgr,qx1,qds,qv7,qdy,qxv,qxw,zfb,zfc,qax,qbp,qt0,qap,uT⟩ trivial
abbrev jG (s:ag.den) (l:List aT.den):ag.den:=(s.1,l,s.2.2.1,s.2.2.2.1,s.2.2.2.2.1,())
abbrev um (s:ag.den) (l:List aB.den):ag.den:=(s.1,s.2.1,l,s.2.2.2.1,s.2.2.2.2.1,())
def bg (s:ag.den):Prop:=bT s.1/\(bP s).length<=100000/\(bU s).length<=100000/\∀ a∈bP s,bD a.1
abbrev dO (s:ag.den) (i:Int):aT.den:=(bP s).getD i.toNat aT.dflt
abbrev qlv (s:ag.den) (i:Int):aB.den:=(bU s).getD i.toNat aB.dflt
abbrev bH (f:factT.den):ap.den×Int:=lx (cw f) (bx f) (fS f)
abbrev aI (s:ag.den) (f:factT.den):Int:=dY s (cw f)
abbrev gI (s:ag.den) (f:factT.den):Int:=fC s (cw f)
abbrev pH (s:ag.den) (f:factT.den):ap.den×Int:=mu (dO s (aI s f)).1 (fB f)
def fP (s:ag.den) (f:factT.den):ag.den×Int:=
 bif decide (aI s f>=0) then (s,8) else bif decide (((List.length (bP s):Nat):Int)>=2000) then (s,2)
  else (jG s (fo fZ (bP s) ((bH f).1,0,())),bif (bH f).2==0 then (lE (bH f).1 s.1).2 else (bH f).2)
def gG (s:ag.den) (f:factT.den):ag.den×Int:=
 bif decide (aI s f<0) then (s,7) else bif (bU s).any (lv f) then (s,10)
  else (jG s ((bP s).set (aI s f).toNat ((pH s f).1,(dO s (aI s f)).2.1,())),bif (pH s f).2==0 then (lE (pH s f).1 s.1).2 else (pH s f).2)
def gJ (s:ag.den) (f:factT.den):ag.den×Int:=
 bif decide (aI s f<0) then (s,7) else bif decide (dy f>I6.wrap (4000000000000000000-(dO s (aI s f)).2.1)) then (s,5)
  else (jG s ((bP s).set (aI s f).toNat ((dO s (aI s f)).1,I6.wrap ((dO s (aI s f)).2.1+dy f),())),0)
abbrev lA (s:ag.den) (f:factT.den):aT.den×Bool:=iC s (dk f).2.1
def fR (s:ag.den) (f:factT.den):ag.den×Int:=
 bif decide (fC s (dk f).1>=0) then (s,8) else bif decide (((List.length (bU s):Nat):Int)>=2000) then (s,2) else bif !(lA s f).2 then (s,7)
  else (um s (fo gO (bU s) (dk f,[],())),(lC (lA s f).1.1 s.1 (dk f)).2)
abbrev pG (s:ag.den) (f:factT.den):aB.den×Int:=jj (qlv s (gI s f)) (iL f)
def fA (s:ag.den) (f:factT.den):ag.den×Int:=
 bif decide (gI s f<0) then (s,7) else (um s ((bU s).set (gI s f).toNat (pG s f).1),(pG s f).2)
def eh {α:Type} {l:List α} {i:Int} {d:α} (h:0<=i/\i<(l.length:Int)):l.getD i.toNat d∈l:=by
 have hi:i.toNat<l.length:=by omega
 rw[uah,uap hi];exact udg hi
def ls {s:ag.den} {id:Int} (h:¬ dY s id<0):0<=dY s id/\dY s id<((bP s).length:Int):=⟨by omega,(zU (by unfold dY at h; omega)).1⟩
def zo {s:ag.den} {id:Int} (h:¬ fC s id<0):0<=fC s id/\fC s id<((bU s).length:Int):=⟨by omega,(zU (by unfold fC at h; omega)).1⟩
def qu {s:ag.den} (hs:bg s) {id:Int} (h:¬ dY s id<0):bD (dO s (dY s id)).1:=hs.2.2.2 _ (eh (ls h))
def qhp:bD fh:=⟨by decide,by decide,λc hc=>by cases hc⟩
def qaf {s:ag.den} (hs:bg s) (id:Int):bD (iC s id).1.1:=by
 unfold iC;split
 ·rename_i h;exact qu hs (by omega)
 ·exact qhp
abbrev nA:Prop:=∀ y:ae [aT],kB [aT] y->aE ([]:List Prop)
abbrev nF:Prop:=∀ y:ae [aB],kB [aB] y->aE ([]:List Prop)
def Ok:Ct:=⟨iA,[ag,i64],λx=>((fP x.2.1 x.1).1,(fP x.2.1 x.1).2,()),λx=>[bg x.2.1]⟩
def IN (s:ag.den) (f:factT.den):Fr (ae [ag,i64]):=
 let a:=fo fZ (bP s) ((bH f).1,0,());Jb (decide (aI s f>=0)) (Jv (s,8,())) (Jb (decide (((List.length (bP s):Nat):Int)>=2000)) (Jv (s,2,())) (Jb ((bH f).2==0)
  (Jd (bD (bH f).1) (Jd (bT s.1) (Jd nA (Jd ((bP s).length<=100000) (Jv (jG s a,(lE (bH f).1 s.1).2,()))))))
  (Jd nA (Jd ((bP s).length<=100000) (Jv (jG s a,(bH f).2,()))))))
def qgb (s:ag.den) (f:factT.den) (hs:bg s):(IN s f).ok/\(IN s f).get=((fP s f).1,(fP s f).2,()):=by
 unfold fP;cases h1:decide (aI s f>=0)
 ·refine ax h1 ?_;cases h2:decide (((List.length (bP s):Nat):Int)>=2000)
  ·refine ax rfl ?_;cases h3:(bH f).2==0
   ·refine ax rfl ?_;exact au (λ_ _=>uT) (au hs.2.1 ⟨uT,rfl⟩)
   ·refine ay rfl ?_;exact au (G7 _ _ _) (au hs.1 (au (λ_ _=>uT) (au hs.2.1 ⟨uT,rfl⟩)))
  ·exact ay rfl ⟨uT,rfl⟩
 ·exact ay h1 ⟨uT,rfl⟩
def qgc:aa prog 255 Ok:=
 conv (aH yb f255 (fr:=λx=>IN x.2.1 x.1) (ps:=iA)) _ _ (λ_ _ x _ _ h=>qgb x.2.1 x.1 h)
def Oj:Ct:=⟨iA,[ag,i64],λx=>((gG x.2.1 x.1).1,(gG x.2.1 x.1).2,()),λx=>[bg x.2.1]⟩
def IM (s:ag.den) (f:factT.den):Fr (ae [ag,i64]):=
 let b:=((bP s).length:Int);let a:=(bP s).set (aI s f).toNat ((pH s f).1,(dO s (aI s f)).2.1,());Jb (decide (aI s f<0)) (Jv (s,7,())) (Jd nF (Jb ((bU s).any (lv f)) (Jv (s,10,())) (Jd (0<=aI s f/\aI s f<b) (Jd (bD (dO s (aI s f)).1)
  (Jb ((pH s f).2==0)
   (Jd (bD (pH s f).1) (Jd (bT s.1) (Jd ((bP s).length<=100000) (Jd (0<=aI s f/\aI s f<b) (Jv (jG s a,(lE (pH s f).1 s.1).2,()))))))
   (Jd ((bP s).length<=100000) (Jd (0<=aI s f/\aI s f<b) (Jv (jG s a,(pH s f).2,())))))))))
def qf9 (s:ag.den) (f:factT.den) (hs:bg s):(IM s f).ok/\(IM s f).get=((gG s f).1,(gG s f).2,()):=by
 unfold gG;cases h1:decide (aI s f<0)
 ·refine ax h1 ?_;have hi:=ucf h1;refine au (λ_ _=>uT) ?_;cases h2:(bU s).any (lv f)
  ·refine ax rfl ?_;refine au (ls hi) (au (qu hs hi) ?_);cases h3:(pH s f).2==0
   ·refine ax rfl ?_;exact au hs.2.1 (au (ls hi) ⟨uT,rfl⟩)
   ·refine ay rfl ?_;exact au (KN (qu hs hi)) (au hs.1 (au hs.2.1 (au (ls hi) ⟨uT,rfl⟩)))
  ·exact ay rfl ⟨uT,rfl⟩
 ·exact ay h1 ⟨uT,rfl⟩
def qga:aa prog 267 Oj:=
 conv (aH yb f267 (fr:=λx=>IM x.2.1 x.1) (ps:=iA)) _ _ (λ_ _ x _ _ h=>qf9 x.2.1 x.1 h)
def On:Ct:=⟨iA,[ag,i64],λx=>((gJ x.2.1 x.1).1,(gJ x.2.1 x.1).2,()),λx=>[bg x.2.1]⟩
def IQ (s:ag.den) (f:factT.den):Fr (ae [ag,i64]):=
 let b:=((bP s).length:Int);let a:=dO s (aI s f);Jb (decide (aI s f<0)) (Jv (s,7,())) (Jd (0<=aI s f/\aI s f<b) (Jb (decide (dy f>I6.wrap (4000000000000000000-a.2.1))) (Jv (s,5,()))
  (Jd ((bP s).length<=100000) (Jd (0<=aI s f/\aI s f<b) (Jv (jG s ((bP s).set (aI s f).toNat (a.1,I6.wrap (a.2.1+dy f),())),0,()))))))
def qgg (s:ag.den) (f:factT.den) (hs:bg s):(IQ s f).ok/\(IQ s f).get=((gJ s f).1,(gJ s f).2,()):=by
 unfold gJ;cases h1:decide (aI s f<0)
 ·refine ax h1 ?_;have hi:=ucf h1;refine au (ls hi) ?_;cases h2:decide (dy f>I6.wrap (4000000000000000000-(dO s (aI s f)).2.1))
  ·refine ax rfl ?_;exact au hs.2.1 (au (ls hi) ⟨uT,rfl⟩)
  ·exact ay rfl ⟨uT,rfl⟩
 ·exact ay h1 ⟨uT,rfl⟩
def qgh:aa prog 272 On:=
 conv (aH yb f272 (fr:=λx=>IQ x.2.1 x.1) (ps:=iA)) _ _ (λ_ _ x _ _ h=>qgg x.2.1 x.1 h)
def Om:Ct:=⟨iA,[ag,i64],λx=>((fR x.2.1 x.1).1,(fR x.2.1 x.1).2,()),λx=>[bg x.2.1]⟩
def IP (s:ag.den) (f:factT.den):Fr (ae [ag,i64]):=
 Jb (decide (fC s (dk f).1>=0)) (Jv (s,8,())) (Jb (decide (((List.length (bU s):Nat):Int)>=2000)) (Jv (s,2,())) (Jb (!(lA s f).2) (Jv (s,7,()))
  (Jd (bD (lA s f).1.1) (Jd (bT s.1) (Jd nF (Jd ((bU s).length<=100000) (Jv (um s (fo gO (bU s) (dk f,[],())),(lC (lA s f).1.1 s.1 (dk f)).2,()))))))))
def qge (s:ag.den) (f:factT.den) (hs:bg s):(IP s f).ok/\(IP s f).get=((fR s f).1,(fR s f).2,()):=by
 unfold fR;cases h1:decide (fC s (dk f).1>=0)
 ·refine ax h1 ?_;cases h2:decide (((List.length (bU s):Nat):Int)>=2000)
  ·refine ax rfl ?_;cases h3 : !(lA s f).2
   ·refine ax rfl ?_;exact au (qaf hs _) (au hs.1 (au (λ_ _=>uT) (au hs.2.2.1 ⟨uT,rfl⟩)))
   ·exact ay rfl ⟨uT,rfl⟩
  ·exact ay rfl ⟨uT,rfl⟩
 ·exact ay h1 ⟨uT,rfl⟩
def qgf:aa prog 273 Om:=
 conv (aH yb f273 (fr:=λx=>IP x.2.1 x.1) (ps:=iA)) _ _ (λ_ _ x _ _ h=>qge x.2.1 x.1 h)
def Oi:Ct:=⟨iA,[ag,i64],λx=>((fA x.2.1 x.1).1,(fA x.2.1 x.1).2,()),λx=>[bg x.2.1]⟩
def IL (s:ag.den) (f:factT.den):Fr (ae [ag,i64]):=
 let a:=((bU s).length:Int);Jb (decide (gI s f<0)) (Jv (s,7,())) (Jd (0<=gI s f/\gI s f<a) (Jd ((bU s).length<=100000) (Jd (0<=gI s f/\gI s f<a) (Jv (um s ((bU s).set (gI s f).toNat (pG s f).1),(pG s f).2,())))))
def qf7 (s:ag.den) (f:factT.den) (hs:bg s):(IL s f).ok/\(IL s f).get=((fA s f).1,(fA s f).2,()):=by
 unfold fA;cases h1:decide (gI s f<0)
 ·refine ax h1 ?_;have hi:=ucf h1;exact au (zo hi) (au hs.2.2.1 (au (zo hi) ⟨uT,rfl⟩))
 ·exact ay h1 ⟨uT,rfl⟩
def qf8:aa prog 284 Oi:=
 conv (aH yb f284 (fr:=λx=>IL x.2.1 x.1) (ps:=iA)) _ _ (λ_ _ x _ _ h=>qf7 x.2.1 x.1 h)
open Go.Ab.Fr renaming val->Jv,need->Jd,br->Jb
abbrev iZ:List PT:=[.d .unit,.d factT]
def KW (f:factT.den):factT.den:=(bx f,aF f,0,dy f,dp f,((0,0,()),(0,0,0,0,()),[],()),fB f,dk f,iL f,cp f,())
def so:Ct:=⟨iZ,[factT],λx=>(KW x.2.1,()),λ_=>[]⟩
def qza:aa prog 313 so:=
 conv (aH eI f313 (fr:=λx=>Jv (KW x.2.1,())) (ps:=iZ) (rs:=[factT])) _ _ (λ_ _ _ _ _ _=>⟨uT,rfl⟩)
def KX (f:factT.den):factT.den:=(bx f,aF f,0,dy f,dp f,fS f,(0,0,0,(0,0,0,0,()),[],0,()),dk f,iL f,cp f,())
def vr:Ct:=⟨iZ,[factT],λx=>(KX x.2.1,()),λ_=>[]⟩
def qzb:aa prog 314 vr:=
 conv (aH eI f314 (fr:=λx=>Jv (KX x.2.1,())) (ps:=iZ) (rs:=[factT])) _ _ (λ_ _ _ _ _ _=>⟨uT,rfl⟩)
def KY (f:factT.den):factT.den:=(bx f,aF f,0,0,dp f,fS f,fB f,dk f,iL f,cp f,())
def vt:Ct:=⟨iZ,[factT],λx=>(KY x.2.1,()),λ_=>[]⟩
def qzc:aa prog 315 vt:=
 conv (aH eI f315 (fr:=λx=>Jv (KY x.2.1,())) (ps:=iZ) (rs:=[factT])) _ _ (λ_ _ _ _ _ _=>⟨uT,rfl⟩)
def KZ (f:factT.den):factT.den:=(bx f,aF f,cw f,dy f,dp f,fS f,fB f,(0,0,0,0,0,0,()),iL f,cp f,())
def vu:Ct:=⟨iZ,[factT],λx=>(KZ x.2.1,()),λ_=>[]⟩
def qzd:aa prog 316 vu:=
 conv (aH eI f316 (fr:=λx=>Jv (KZ x.2.1,())) (ps:=iZ) (rs:=[factT])) _ _ (λ_ _ _ _ _ _=>⟨uT,rfl⟩)
def La (f:factT.den):factT.den:=(bx f,aF f,0,dy f,dp f,fS f,fB f,dk f,(0,0,0,()),cp f,())
def vw:Ct:=⟨iZ,[factT],λx=>(La x.2.1,()),λ_=>[]⟩
def qze:aa prog 317 vw:=
 conv (aH eI f317 (fr:=λx=>Jv (La x.2.1,())) (ps:=iZ) (rs:=[factT])) _ _ (λ_ _ _ _ _ _=>⟨uT,rfl⟩)
def Lb (f:factT.den):factT.den:=(bx f,aF f,cw f,dy f,dp f,fS f,fB f,dk f,iL f,(0,0,(0,0,()),0,0,0,0,0,()),())
def vz:Ct:=⟨iZ,[factT],λx=>(Lb x.2.1,()),λ_=>[]⟩
def qzf:aa prog 318 vz:=
 conv (aH eI f318 (fr:=λx=>Jv (Lb x.2.1,())) (ps:=iZ) (rs:=[factT])) _ _ (λ_ _ _ _ _ _=>⟨uT,rfl⟩)
def Lc (f:factT.den):factT.den:=(bx f,aF f,cw f,dy f,0,fS f,fB f,dk f,iL f,cp f,())
def v9:Ct:=⟨iZ,[factT],λx=>(Lc x.2.1,()),λ_=>[]⟩
def qzg:aa prog 319 v9:=
 conv (aH eI f319 (fr:=λx=>Jv (Lc x.2.1,())) (ps:=iZ) (rs:=[factT])) _ _ (λ_ _ _ _ _ _=>⟨uT,rfl⟩)
noncomputable def qd4:List (FuncId×Ct):=[(96,d6),(97,Cg),(98,kE),(99,hP),(100,uU),(27,l6),(41,vq),(313,so),(314,vr),(315,vt),(316,vu),(317,vw),(318,vz),(319,v9)]
noncomputable def Yu:Cx:=cx qd4 []
def Yv:CxOK prog Yu:=aJ aG ⟨ql3,qbo,LN,Hw,qb4,O0,qx4,qza,qzb,qzc,qzd,qze,qzf,qzg,uT⟩ trivial
open Go.Ab.Fr renaming val->Jv,need->Jd,br->Jb
def zm (x:aq [.d factT]):Fr (ae [.bool]):=
 let c:=x.1.2.2;let h:=c.2.2.2.2;let b:=((),x.1,());let a:=d6.f (x.1.2.1,());let g:=bif bif (dq gb a.1.1).isNone then true else decide (x.1.1<1) then true else decide (x.1.1>292194);Jd (g=false->a.1.1=1->aE ([]++([]++[])++so.ok b)) (Jd (g=false->a.1.1≠1->aE [a.1.1=2->aE ([]++([]++[])++vr.ok b),a.1.1≠2->aE [a.1.1=3->aE ([]++([]++[])++vt.ok b),a.1.1≠3->aE [a.1.1=4->aE ([]++([]++[])++vu.ok b),a.1.1≠4->aE [a.1.1=5->aE ([]++([]++[])++vw.ok b),a.1.1≠5->aE [a.1.1=6->aE ([]++([]++[])++vz.ok b),a.1.1≠6->aE ((a.1.1=7)::([]++([]++[])++v9.ok b))]]]]]) (Jb (bif bif bif (dq gb a.1.1).isNone then true else decide (x.1.1<1) then true else decide (x.1.1>292194) then true else !(Cg.f ((bif a.1.1==1 then so.f b else bif a.1.1==2 then vr.f b else bif a.1.1==3 then vt.f b else bif a.1.1==4 then vu.f b else bif a.1.1==5 then vw.f b else bif a.1.1==6 then vz.f b else v9.f b).1,())).1) (Jv (false,())) (Jb (dq gb a.1.1==some 173) (Jv (bif bif decide (c.1>=1) then decide (c.1<=1000000000) else false then (kE.f (c.2.2.2.1,())).1 else false,())) (Jb (dq gb a.1.1==some 175) (Jv (bif bif bif decide (c.1>=1) then decide (c.1<=1000000000) else false then (hP.f (h.1,())).1 else false then h.1.1==x.1.1 else false,())) (Jb (dq gb a.1.1==some 177) (Jv (bif bif bif decide (c.1>=1) then decide (c.1<=1000000000) else false then decide (c.2.1>=1) else false then decide (c.2.1<=1000000000000000) else false,())) (Jb (dq gb a.1.1==some 178) (Jv (bif (uU.f (h.2.1,())).1 then h.2.1.2.2.2.2.1==x.1.1 else false,())) (Jb (dq gb a.1.1==some 179) (Jv (bif bif bif decide (c.1>=1) then decide (c.1<=1000000000) else false then (l6.f (h.2.2.1,())).1 else false then h.2.2.1.1==x.1.1 else false,())) (Jb (dq gb a.1.1==some 180) (Jv ((vq.f (h.2.2.2.1,())).1,())) (Jv (bif decide (c.2.2.1>=1) then decide (c.2.2.1<=x.1.1) else false,()))))))))))
def qj3:aa prog 63 (aL [.d factT] [.bool] zm):=
 aH Yv f63
def pu (f:factT.den):factT.den:=
 bif aF f==1 then KW f else bif aF f==2 then KX f else bif aF f==3 then KY f else bif aF f==4 then KZ f else bif aF f==5 then La f else bif aF f==6 then Lb f else Lc f
def qz (f:factT.den):Bool:=decide (cw f>=1)&&decide (cw f<=1000000000)
def sf (f:factT.den):Bool:=
 bif aF f==1 then qz f&&ft (fS f) else bif aF f==2 then (qz f&&dF (fB f))&&(fB f).1==bx f
  else bif aF f==3 then (qz f&&decide (dy f>=1))&&decide (dy f<=1000000000000000) else bif aF f==4 then vf (dk f)&&(dk f).2.2.2.2.1==bx f
  else bif aF f==5 then (qz f&&gD (iL f))&&(iL f).1==bx f else bif aF f==6 then dN (cp f) else decide (dp f>=1)&&decide (dp f<=bx f)
def cC (f:factT.den):Bool:=
 (decide (1<=aF f)&&decide (aF f<=7))&&((decide (1<=bx f)&&decide (bx f<=292194))&&(gC (pu f)&&sf f))
def ga (a b:Bool):(bif a then b else false)=(a&&b):=by cases a<;>rfl
def BV (a b:Bool):(bif a then true else b)=(a || b):=by cases a<;>rfl
def SP {k:Int} (h:1<=k/\k<=7) (h1:k≠1) (h2:k≠2) (h3:k≠3) (h4:k≠4) (h5:k≠5) (h6:k≠6):k=7:=by omega
def qm9 {f:factT.den} (h:aF f<1\/aF f>7):(zm (f,())).ok/\(zm (f,())).get=(cC f,()):=by
 have hn:=JO h;have hf:cC f=false:=by
  unfold cC;rcases h with h|h
  ·rw[show decide (1<=aF f)=false from udt (by omega)]; rfl
  ·rw[show decide (aF f<=7)=false from udt (by omega),ueb]; rfl
 rw[hf];have hb:(bif bif (dq gb (aF f)).isNone then true else decide (bx f<1) then true else decide (bx f>292194))=true:=by rw[hn]; rfl
 refine au (λh0=>absurd (hb.symm.trans h0) (by decide)) (au (λh0=>absurd (hb.symm.trans h0) (by decide)) (ay ?_ ⟨uT,rfl⟩));show(bif (bif bif (dq gb (aF f)).isNone then true else decide (bx f<1) then true else decide (bx f>292194)) then true else _)=true;rw[hb];rfl
def qna {f:factT.den} (h:1<=aF f/\aF f<=7):(zm (f,())).ok/\(zm (f,())).get=(cC f,()):=by
 have hc:(bif bif (dq gb (aF f)).isNone then true else decide (bx f<1) then true else decide (bx f>292194))=(decide (bx f<1) || decide (bx f>292194)):=by
  rcases pz h with e|e|e|e|e|e|e<;>rw[e]<;>exact BV _ _
 refine au (λ_ _=>uT) (au (λ_=>?_) ?_)
 ·show aF f≠1->(_/\_);intro h1;exact⟨λ_=>uT,λh2=>⟨λ_=>uT,λh3=>⟨λ_=>uT,λh4=>⟨λ_=>uT,λh5=>⟨λ_=>uT,λh6=>SP h h1 h2 h3 h4 h5 h6⟩⟩⟩⟩⟩
 have hr:(bif aF f==1 then so.f ((),f,()) else bif aF f==2 then vr.f ((),f,()) else bif aF f==3 then vt.f ((),f,()) else bif aF f==4 then vu.f ((),f,()) else bif aF f==5 then vw.f ((),f,()) else bif aF f==6 then vz.f ((),f,()) else v9.f ((),f,()))=(pu f,()):=by
  unfold pu;rcases pz h with e|e|e|e|e|e|e<;>rw[e]<;>rfl
 have hk:(decide (1<=aF f)&&decide (aF f<=7))=true:=by rw[ud8 h.1,ud8 h.2]; rfl
 have hcond:(bif bif bif (dq gb (aF f)).isNone then true else decide (bx f<1) then true else decide (bx f>292194) then true else !(Cg.f ((bif aF f==1 then so.f ((),f,()) else bif aF f==2 then vr.f ((),f,()) else bif aF f==3 then vt.f ((),f,()) else bif aF f==4 then vu.f ((),f,()) else bif aF f==5 then vw.f ((),f,()) else bif aF f==6 then vz.f ((),f,()) else v9.f ((),f,())).1,())).1)
   = !((decide (1<=bx f)&&decide (bx f<=292194))&&gC (pu f)):=by
  rw[hr,hc,BV];rw[Bool.not_and,Bool.not_and,<- decide_not,<- decide_not];congr 2
  ·exact udf.mpr (by omega)
  ·exact udf.mpr (by omega)
 cases hb:(decide (1<=bx f)&&decide (bx f<=292194))&&gC (pu f)
 ·have hF:cC f=false:=by unfold cC; rw[<- uea (decide (1<=bx f)&&_),hb,Bool.false_and,ueb]
  rw[hF];exact ay (hcond.trans (by rw[hb]; rfl)) ⟨uT,rfl⟩
 ·have hF:cC f=sf f:=by unfold cC; rw[<- uea (decide (1<=bx f)&&_),hb,hk,uej,uej]
  rw[hF];refine ax (hcond.trans (by rw[hb]; rfl)) ?_;obtain⟨bk,k,id,amt,day,tm,ch,cl,ac,tr,_⟩:=f;have e':=pz h;rcases e' with e|e|e|e|e|e|e
  all_goals
   have e1:=e;subst e1
  ·exact ay rfl ⟨uT,by rw[ga,ga]; rfl⟩
  ·exact ax rfl (ay rfl ⟨uT,by rw[ga,ga,ga]; rfl⟩)
  ·exact ax rfl (ax rfl (ay rfl ⟨uT,by rw[ga,ga,ga]; rfl⟩))
  ·exact ax rfl (ax rfl (ax rfl (ay rfl ⟨uT,by rw[ga]; rfl⟩)))
  ·exact ax rfl (ax rfl (ax rfl (ax rfl (ay rfl ⟨uT,by rw[ga,ga,ga]; rfl⟩))))
  ·exact ax rfl (ax rfl (ax rfl (ax rfl (ax rfl (ay rfl ⟨uT,rfl⟩)))))
  ·exact ax rfl (ax rfl (ax rfl (ax rfl (ax rfl (ax rfl ⟨uT,by rw[ga]; rfl⟩)))))
def qa:Ct:=⟨[.d factT],[.bool],λx=>(cC x.1,()),λ_=>[]⟩
def Rf:aa prog 63 qa:=conv qj3 _ _ (λ_ _ x _ _ _=>by
 by_cases h:1<=aF x.1/\aF x.1<=7
 ·exact qna h
 ·exact qm9 (by omega))
end Go.Proofs.YtgieagiaagoogaaGreat
namespace Go.Proofs.YtgieagiaagoogaaGreat
open Go Go.Ab Go.RowKit Go.Proofs Go.Shelf Go.Lib Tryz
open Go.Ab.Fr renaming val->Jv,need->Jd,br->Jb
def Qb:List (Int×TypeId):=[(1,134),(2,135),(3,136),(4,137),(5,138),(6,139),(7,140)]
def Ka (k:Int) (v:Value):Value:=match dq Qb k with
 |some ty=>.iface ty v
 |none=>.nilIface
def Sm (v:Value):Array Value:=#[.nilIface,.iface 134 v,.iface 135 v,.iface 136 v,.iface 137 v,.iface 138 v,.iface 139 v,.iface 140 v]
set_option maxRecDepth 100000 in
def qpe (k:Int) (hk:1<=k/\k<=7) (v:Value) (w:World):(Instr.index 141 (.agg (Sm v)) (.int .i64 k)).run prog w = .ok (Ka k v) w:=by
 rcases pz hk with rfl|rfl|rfl|rfl|rfl|rfl|rfl<;>kernel_rfl
set_option maxHeartbeats 4000000 in
set_option maxRecDepth 100000 in
def qpr (k:Int) (hk:1<=k/\k<=7) (cs:Array Value) (hs:cs.size=39) (h1:cs[1]? = some (.int .i64 k)) (R:Ending->World->Prop) (w:World) (hR:∀ o,R (.returned (Ka k (.agg cs))) (w.alloc o)):Calls prog 36 #[.agg cs] w R:=by
 have hh:(w.alloc (.cells cs 46)).heap[w.heap.size]? = some (.cells cs 46 (0,0)):=World.alloc_heap_new w _;have hr:(w.alloc (.cells cs 46)).rangeAt w.heap.size 0 cs.toList:=λj v hv=>by
  rw[su hh]; simpa using hv
 have hc:(w.alloc (.cells cs 46)).cell? ⟨w.heap.size,1,none⟩=some (.int .i64 k):=by rw[su hh]; exact h1
 have hi:(prog.info? 46).map (·.size)=some cs.toList.length:=by rw[ubs,hs]; kernel_rfl
 have hx:=qpe k hk (.agg cs);unfold Sm at hx
 go_enter func36,ntmps36
 go_wp2_with (first|(refine wpList_load_mid rfl 46 _ rfl w.heap.size 0 rfl cs.toList _ hr underlying46 rfl hi ?_)|simp only[hx,hc,ubd])
 exact hR _
def Ov:Ct:=⟨[.d factT],[.ic Qb factT],λx=>((aF x.1,x.1),()),λx=>[1<=aF x.1/\aF x.1<=7]⟩
def qpq:aa prog 36 Ov:=by
 refine⟨enters_of func36 (by kernel_rfl) rfl,λw F xs vs hbd hr hok=>?_⟩;obtain⟨f,_⟩:=xs;obtain⟨v,vs',rfl,hv,hn⟩:=hr;cases hn;have hv:bq w F factT f v:=hv;obtain⟨cs,rfl⟩:=hv.2.1.1 rfl;have hs:cs.size=39:=hv.1;have h1:cs[1]? = some (.int .i64 (aF f)):=hv.2.2.2.1.1;refine qpr (aF f) hok cs hs h1 _ w λo=>TC hbd ?_;unfold Ka;split
 ·rename_i ty h;exact RT h hv
 ·rename_i h;exact SM h
end Go.Proofs.YtgieagiaagoogaaGreat
namespace Go.Proofs.YtgieagiaagoogaaGreat
open Go Go.Ab Go.RowKit Go.Proofs Tryz
open Go.Ab.Fr renaming val->Jv,need->Jd,br->Jb
noncomputable def Yw:Cx:=cx [(63,qa)] []
def Yx:CxOK prog Yw:=aJ aG ⟨Rf,uT⟩ trivial
def fE (s:ag.den) (f:factT.den):Int:=bif !(cC f) then 1 else bif decide (bx f<=gW s) then 12 else 0
def GZ:Ct:=⟨[.d ag,.d factT],[i64],λx=>(fE x.1 x.2.1,()),λ_=>[]⟩
def qt3:aa prog 35 GZ:=
 conv (aH Yx f35 (fr:=λx=>Jb (!(cC x.2.1)) (Jv (1,())) (Jb (decide (bx x.2.1<=gW x.1)) (Jv (12,())) (Jv (0,())))) (ps:=GZ.ps) (rs:=[i64])) _ _ (λ_ _ x _ _ _=>by
  obtain⟨s,f,_⟩:=x;show _/\_=(fE s f,());unfold fE;cases h1 : !(cC f)
  ·refine ax (by first|rfl|exact h1) ?_;cases h2:decide (bx f<=gW s)
   ·exact ax (by first|rfl|exact h2) ⟨uT,rfl⟩
   ·exact ay (by first|rfl|exact h2) ⟨uT,rfl⟩
  ·exact ay (by first|rfl|exact h1) ⟨uT,rfl⟩)
noncomputable def qd5:List (FuncId×Ct):=[(35,GZ),(36,Ov),(255,Ok),(267,Oj),(272,On),(273,Om),(284,Oi),(295,Oo),(312,Ol)]
noncomputable def Yy:Cx:=cx qd5 []
def Yz:CxOK prog Yy:=aJ aG ⟨qt3,qpq,qgc,qga,qgh,qgf,qf8,qgi,qgd,uT⟩ trivial
open Go.Ab.Fr renaming val->Jv,need->Jd,br->Jb
abbrev cR:ag.den:=(([],()),[],[],[],0,())
def kK (s:ag.den) (f:factT.den):ae [ag,i64]:=bif aF f==1 then ((fP s f).1,(fP s f).2,()) else bif aF f==2 then ((gG s f).1,(gG s f).2,()) else bif aF f==3 then ((gJ s f).1,(gJ s f).2,()) else bif aF f==4 then ((fR s f).1,(fR s f).2,()) else bif aF f==5 then ((fA s f).1,(fA s f).2,()) else bif aF f==6 then ((gK s f).1,(gK s f).2,()) else ((gH s f).1,(gH s f).2,())
def gn (s:ag.den) (f:factT.den):ag.den×Int:=((kK s f).1,(kK s f).2.1)
def db (s:ag.den) (f:factT.den):ag.den×Int:=
 bif fE s f != 0 then (cR,fE s f) else bif (gn s f).2 != 0 then (cR,(gn s f).2) else ((gn s f).1,0)
abbrev ye:List PT:=[.d ag,.d factT]
def pZ:Ct:=⟨ye,[ag,i64],λx=>((db x.1 x.2.1).1,(db x.1 x.2.1).2,()),λx=>[bg x.1]⟩
def IK (s:ag.den) (f:factT.den):Fr (ae [ag,i64]):=
 Jb (fE s f != 0) (Jv (cR,fE s f,())) (Jd (1<=aF f/\aF f<=7) (Jd (aF f=1->aE [bg s]) (Jd (aF f≠1->aE [aF f=2->aE [bg s],aF f≠2->aE [aF f=3->aE [bg s],aF f≠3->aE [aF f=4->aE [bg s],aF f≠4->aE [aF f=5->aE [bg s],aF f≠5->aE [aF f=6->aE ([]:List Prop),aF f≠6->aE [aF f=7]]]]]])
  (Jb ((kK s f).2.1 != 0) (Jv (cR,(kK s f).2.1,())) (Jv ((kK s f).1,0,()))))))
def Kn {s:ag.den} {f:factT.den} (h:fE s f=0):cC f=true/\gW s<bx f:=by
 unfold fE at h;cases h1:cC f
 ·rw[h1] at h; have h:(1:Int)=0:=h; exact absurd h (by decide)
 ·rw[h1] at h;refine⟨rfl,?_⟩;by_cases h2:bx f<=gW s
  ·rw[ud8 h2] at h; exact absurd h (by decide)
  ·omega
def Dy {f:factT.den} (h:cC f=true):1<=aF f/\aF f<=7:=by
 unfold cC at h;rw[uc9,uc9] at h;exact⟨ucv h.1.1,ucv h.1.2⟩
def qgj (s:ag.den) (f:factT.den) (hs:bg s):(IK s f).ok/\(IK s f).get=((db s f).1,(db s f).2,()):=by
 unfold db;cases h1:fE s f != 0
 ·refine ax (by first|rfl|exact h1) ?_;have h0:fE s f=0:=by simpa using h1
  have hk:=Dy (Kn h0).1;refine au hk (au (λ_=>hs) (au (λk1=>?_) ?_))
  ·exact⟨λ_=>hs,λk2=>⟨λ_=>hs,λk3=>⟨λ_=>hs,λk4=>⟨λ_=>hs,λk5=>⟨λ_=>uT,λk6=>SP hk k1 k2 k3 k4 k5 k6⟩⟩⟩⟩⟩
  ·cases h2:(gn s f).2 != 0
   ·exact ax (by first|rfl|exact h2) ⟨uT,rfl⟩
   ·exact ay (by first|rfl|exact h2) ⟨uT,rfl⟩
 ·exact ay (by first|rfl|exact h1) ⟨uT,rfl⟩
def HW:aa prog 14 pZ:=
 conv (aH Yz f14 (fr:=λx=>IK x.1 x.2.1) (ps:=ye) (rs:=[ag,i64])) _ _ (λ_ _ x _ _ h=>qgj x.1 x.2.1 h)
open Go.Ab.Fr renaming val->Jv,need->Jd,br->Jb
noncomputable def Y0:Cx:=cx [(14,pZ),(28,sk)] []
def ME:CxOK prog Y0:=aJ aG ⟨HW,SK,uT⟩ trivial
abbrev tx:Pt:=⟨41,0,⟨[(22,.d i64),(21,.d i64),(20,.d (.sl factT)),(1,.d i64)],[.x 4 29 ag,.r 4 4 0,.x 6 29 ag,.r 6 6 0]⟩,⟨[],[.x 4 29 ag,.r 4 4 0,.x 6 29 ag,.r 6 6 0]⟩,⟨[],[]⟩⟩
abbrev AO:Type:=aq [.d i64]×bW [.x 4 29 ag,.r 4 4 0,.x 6 29 ag,.r 6 6 0]
def oe (e:factT.den) (s:AO):Fr AO:=
 let a:=pZ.f (s.2.2.1,e,());Jb (decide (e.1>s.1.1)) (Jv s) (Jd (bg s.2.2.1) (Jb (a.2.1==0) (Jv ((s.1.1,()),s.2.1,a.1,())) (Jv s)))
def ro (x:tx.M.X):Int×List factT.den×AO:=(x.1.1,x.1.2.2.1,x.1.2.2.2,x.2)
def Rw (x:tx.M.X):Prop:=x.1.2.1=(x.1.2.2.1.length:Int)
def Tj (s:AO):tx.E.X:=((),s.2.1,s.2.2.1,())
def qta:ah prog (.loop (aC f17 0)) tx.M tx (FF oe ro Rw Tj):=
 Bt ME (λ_ _=>.n .o) factT.dflt (λx=>x.1.2.1) (λx s=>((I6.wrap (x.1.1+1),x.1.2.1,x.1.2.2.1,s.1),s.2)) (λ_ h=>h)
def qy8 (y:tx.M.X):AO:=fg oe ((ro y).2.1.drop (ro y).1.toNat) (ro y).2.2
def qvb (y:tx.M.X):Prop:=kX oe ((ro y).2.1.drop (ro y).1.toNat) (ro y).2.2
open Go.Ab.Fr renaming val->Jv,need->Jd,br->Jb
def qj8 (x:aq [.d jourT,.d i64]):Fr (ae [ag,i64]):=
 let a:=((0,((List.length x.1.2.1):Int),x.1.2.1,x.2.1,()),(([],()),[],[],[],0,()),(sk.f ((x.1.1.1,()),())).1,());Jb (decide (((List.length x.1.2.1):Int)>2000)) (Jv ((([],()),[],[],[],0,()),2,())) (Jd (InL (Rw a) (ro a)) (Jd (qvb a) (Jv ((Tj (qy8 a)).2.2.1,0,()))))
def qj9:aa prog 17 (aL [.d jourT,.d i64] [ag,i64] qj8):=
 bz ME qta
def qov {α:Type} {i:Int} {l:List α} {x a:α} (h:a∈jx i l [x]):a∈l\/a=x:=by
 unfold jx at h;rw[udq,udq] at h;rcases h with (h|h)|h
 ·exact .inl (ubo h)
 ·exact .inr (ucd.1 h)
 ·exact .inl (ubp h)
def qou {α:Type} (i:Int) (l:List α) (x:α):(jx i l [x]).length=l.length+1:=by
 unfold jx;rw[ub4,ub4,uc3,uc4,ua5];omega
def Eq {α:Type} {g:α->Int} {l:List α} {x a:α} (h:a∈fo g l x):a∈l\/a=x:=qov h
def KL {α:Type} (g:α->Int) (l:List α) (x:α):(fo g l x).length=l.length+1:=qou _ l x
def DQ {α:Type} {l:List α} {i:Nat} {x a:α} (h:a∈l.set i x):a∈l\/a=x:=uao h
def vT {t:aP.den} (h:bT t):bg (ir t):=⟨h,ufg _,ufg _,λa ha=>by cases ha⟩
def qhu {s:ag.den} (f:factT.den) (h:bg s):bg (fP s f).1:=by
 unfold fP;cases h1:decide (aI s f>=0)
 ·cases h2:decide (((List.length (bP s):Nat):Int)>=2000)
  ·have h2':=ucf h2;refine⟨h.1,?_,h.2.2.1,λa ha=>?_⟩
   ·show(fo fZ (bP s) ((bH f).1,0,())).length<=100000;rw[KL]; omega
   ·rcases Eq ha with ha|ha
    ·exact h.2.2.2 a ha
    ·rw[ha]; exact G7 _ _ _
  ·exact h
 ·exact h
def Qo {s:ag.den} (i:Nat) (x:aT.den) (h:bg s) (hx:bD x.1):bg (jG s ((bP s).set i x)):=by
 refine⟨h.1,?_,h.2.2.1,λa ha=>?_⟩
 ·show((bP s).set i x).length<=100000;rw[udm]; exact h.2.1
 ·rcases DQ ha with ha|ha
  ·exact h.2.2.2 a ha
  ·rw[ha]; exact hx
def qht {s:ag.den} (f:factT.den) (h:bg s):bg (gG s f).1:=by
 unfold gG;cases h1:decide (aI s f<0)
 ·cases h2:(bU s).any (lv f)
  ·exact Qo _ _ h (KN (qu h (ucf h1)))
  ·exact h
 ·exact h
def qhz {s:ag.den} (f:factT.den) (h:bg s):bg (gJ s f).1:=by
 unfold gJ;cases h1:decide (aI s f<0)
 ·cases h2:decide (dy f>I6.wrap (4000000000000000000-(dO s (aI s f)).2.1))
  ·exact Qo _ _ h (qu h (ucf h1))
  ·exact h
 ·exact h
def qhw {s:ag.den} (f:factT.den) (h:bg s):bg (fR s f).1:=by
 unfold fR;cases h1:decide (fC s (dk f).1>=0)
 ·cases h2:decide (((List.length (bU s):Nat):Int)>=2000)
  ·have h2':=ucf h2;cases h3 : !(lA s f).2
   ·refine⟨h.1,h.2.1,?_,h.2.2.2⟩;show(fo gO (bU s) (dk f,[],())).length<=100000;rw[KL]; omega
   ·exact h
  ·exact h
 ·exact h
def qhs {s:ag.den} (f:factT.den) (h:bg s):bg (fA s f).1:=by
 unfold fA;cases h1:decide (gI s f<0)
 ·refine⟨h.1,h.2.1,?_,h.2.2.2⟩;show((bU s).set (gI s f).toNat (pG s f).1).length<=100000;rw[udm]; exact h.2.2.1
 ·exact h
def qh0 {s:ag.den} (f:factT.den) (h:bg s):bg (gK s f).1:=by
 unfold gK;cases rj s (cp f)
 ·cases decide (((List.length (bw s):Nat):Int)>=100)
  ·cases gu (bw s) (cp f)
   ·exact⟨h.1,h.2.1,h.2.2.1,h.2.2.2⟩
   ·exact h
  ·exact h
 ·exact h
def qhv {s:ag.den} (f:factT.den) (h:bg s):bg (gH s f).1:=by
 unfold gH;cases decide (dp f<=gW s)
 ·exact⟨h.1,h.2.1,h.2.2.1,h.2.2.2⟩
 ·exact h
def Ql {s:ag.den} (f:factT.den) (h:bg s):bg (gn s f).1:=by
 show bg (kK s f).1;unfold kK;cases aF f==1
 ·cases aF f==2
  ·cases aF f==3
   ·cases aF f==4
    ·cases aF f==5
     ·cases aF f==6
      ·exact qhv f h
      ·exact qh0 f h
     ·exact qhs f h
    ·exact qhw f h
   ·exact qhz f h
  ·exact qht f h
 ·exact qhu f h
def qI (s:ag.den) (f:factT.den):ag.den:=bif (db s f).2==0 then (db s f).1 else s
def LF {s:ag.den} {f:factT.den} (h:(db s f).2=0):fE s f=0/\(gn s f).2=0/\(db s f).1=(gn s f).1:=by
 unfold db at h |-;cases h1:fE s f != 0
 ·have h0:fE s f=0:=by simpa using h1
  rw[h1] at h;cases h2:(gn s f).2 != 0
  ·exact⟨h0,by simpa using h2,rfl⟩
  ·rw[h2] at h;have h':(gn s f).2=0:=h;rw[h'] at h2; exact absurd h2 (by decide)
 ·rw[h1] at h;have h':fE s f=0:=h;rw[h'] at h1; exact absurd h1 (by decide)
def Qn {s:ag.den} (f:factT.den) (h:bg s):bg (qI s f):=by
 unfold qI;cases h1:(db s f).2==0
 ·exact h
 ·show bg (db s f).1;rw[(LF (eq_of_beq h1)).2.2];exact Ql f h
def mC (b:Int) (s:ag.den) (f:factT.den):ag.den:=bif decide (bx f>b) then s else qI s f
def Qq {b:Int} {s:ag.den} (f:factT.den) (h:bg s):bg (mC b s f):=by
 unfold mC;cases decide (bx f>b)
 ·exact Qn f h
 ·exact h
def zu (b:Int) (l:List factT.den) (s:ag.den):ag.den:=l.foldl (mC b) s
def Qm {b:Int}:(l:List factT.den) -> {s:ag.den}->bg s->bg (zu b l s)
 |[],_,h=>h
 |f::l,_,h=>Qm l (Qq f h)
def dl (j:jourT.den) (b:Int):ag.den×Int:=bif decide (((List.length (α:=factT.den) j.2.1:Nat):Int)>2000) then (cR,2) else (zu b j.2.1 (ir j.1),0)
def qur (e:factT.den) (b:Int) (q s:ag.den) (hs:bg s):(oe e ((b,()),q,s,())).ok/\(oe e ((b,()),q,s,())).get=((b,()),q,mC b s e,()):=by
 unfold mC;cases h1:decide (bx e>b)
 ·refine ax (by first|rfl|exact h1) (au hs ?_);unfold qI;cases h2:(db s e).2==0
  ·exact ax (by first|rfl|exact h2) ⟨uT,rfl⟩
  ·exact ay (by first|rfl|exact h2) ⟨uT,rfl⟩
 ·exact ay (by first|rfl|exact h1) ⟨uT,rfl⟩
def SS (b:Int) (q:ag.den):(l:List factT.den)->(s:ag.den)->bg s->kX oe l ((b,()),q,s,())/\fg oe l ((b,()),q,s,())=((b,()),q,zu b l s,())
 |[],_,_=>⟨uT,rfl⟩
 |e::l,s,hs=>by
  have h1:=qur e b q s hs;have h2:=SS b q l (mC b s e) (Qq e hs);refine⟨⟨h1.1,?_⟩,?_⟩
  ·rw[h1.2]; exact h2.1
  ·show fg oe l (oe e ((b,()),q,s,())).get=_;rw[h1.2]; exact h2.2
def l8:Ct:=⟨[.d jourT,.d i64],[ag,i64],λx=>((dl x.1 x.2.1).1,(dl x.1 x.2.1).2,()),λx=>[bT x.1.1]⟩
def SR:aa prog 17 l8:=conv qj9 _ _ (λ_ _ x _ _ ht=>by
 obtain⟨j,b,_⟩:=x;have ht:bT j.1:=ht;show _/\_=((dl j b).1,(dl j b).2,());unfold dl;cases h:decide (((List.length (α:=factT.den) j.2.1:Nat):Int)>2000)
 ·have h':=ucf h;have hg:=SS b cR (List.drop 0 j.2.1) (ir j.1) (vT ht);refine ax (by first|rfl|exact h) (au ⟨rfl,ufb _,ub2 _,?_⟩ (au hg.1 ⟨uT,?_⟩))
  ·show((List.length (α:=factT.den) j.2.1:Nat):Int)<=_;omega
  ·show((fg oe (List.drop 0 j.2.1) ((b,()),cR,ir j.1,())).2.2.1,0,())=_;rw[hg.2,ued];rfl
 ·exact ay (by first|rfl|exact h) ⟨uT,rfl⟩)
open Go.Ab.Fr renaming val->Jv,need->Jd,br->Jb
noncomputable def Y1:Cx:=cx [(70,kC ak)] []
def MF:CxOK prog Y1:=aJ aG ⟨yU,uT⟩ trivial
def qj0 (x:aq [.d factT]):Fr (ae [factT]):=
 let c:=kC ak;let a:=x.1.2.2.2.2.2;let b:=a.2.1.2.2;Jd (List.length a.1.2.2.1<=1000000) (Jd (List.length b.2.2.1<=1000000) (Jv ((x.1.1,x.1.2.1,x.1.2.2.1,x.1.2.2.2.1,x.1.2.2.2.2.1,(a.1.1,a.1.2.1,(c.f (a.1.2.2.1,())).1,()),(a.2.1.1,a.2.1.2.1,b.1,b.2.1,(c.f (b.2.2.1,())).1,b.2.2.2.1,()),a.2.2.1,a.2.2.2.1,a.2.2.2.2.1,()),())))
def qj1:aa prog 44 (aL [.d factT] [factT] qj0):=
 aH MF f44
def qjs (x:aq [.d jourT]):Fr (ae [i64]):=
 let a:=((0,((List.length x.1.2.1):Int),x.1.2.1,0,()),());Jd (InL (Ru a) (rm a)) (Jd (qu9 a) (Jv ((Th (qy4 a)).1.1,())))
def qjt:aa prog 88 (aL [.d jourT] [i64] qjs):=
 bz MF qsp
def mV (f:factT.den):Prop:=(fS f).2.2.1.length<=1000000/\(fB f).2.2.2.2.1.length<=1000000
def ve:Ct:=⟨[.d factT],[factT],λx=>(x.1,()),λx=>[mV x.1]⟩
def ql6:aa prog 44 ve:=conv qj1 _ _ (λ_ _ x _ _ h=>au h.1 (au h.2 ⟨uT,rfl⟩))
def sx (d:Int) (f:factT.den):Int:=bif aF f==7 then (if d<dp f then dp f else d) else d
def yV (l:List factT.den):Int:=l.foldl sx 0
def qcv (e:factT.den) (d:Int):(oc e ((d,()),())).ok/\(oc e ((d,()),())).get=((sx d e,()),()):=by
 unfold sx;cases h:aF e==7
 ·exact ax (by first|rfl|exact h) ⟨uT,rfl⟩
 ·exact ay (by first|rfl|exact h) ⟨uT,rfl⟩
def OH:(l:List factT.den)->(d:Int)->kX oc l ((d,()),())/\fg oc l ((d,()),())=((l.foldl sx d,()),())
 |[],_=>⟨uT,rfl⟩
 |e::l,d=>by
  have h1:=qcv e d;have h2:=OH l (sx d e);refine⟨⟨h1.1,?_⟩,?_⟩
  ·rw[h1.2]; exact h2.1
  ·show fg oc l (oc e ((d,()),())).get=_;rw[h1.2]; exact h2.2
def oI:Ct:=⟨[.d jourT],[i64],λx=>(yV x.1.2.1,()),λ_=>[]⟩
def DG {w:World} {F:Nat->Prop} {j:jourT.den} {v:Value} (h:bq w F jourT j v):((List.length (α:=factT.den) j.2.1:Nat):Int)<=9223372036854775807:=by
 have h1:List.length (α:=factT.den) j.2.1<=maxLen:=(aD.wf h.2.2).2.1.1;unfold maxLen at h1;omega
def qhk:aa prog 88 oI:=conv qjt _ _ (λw F x vs hr _=>by
 obtain⟨j,_⟩:=x;obtain⟨v,vs',rfl,hv,_⟩:=hr;have hg:=OH (List.drop 0 j.2.1) 0;refine au ⟨rfl,ufb _,ub2 _,DG hv⟩ (au hg.1 ⟨uT,?_⟩);show((fg oc (List.drop 0 j.2.1) ((0,()),())).1.1,())=_;rw[hg.2,ued];rfl)
noncomputable def Y2:Cx:=cx [(44,ve),(88,oI),(63,qa)] []
def Y3:CxOK prog Y2:=aJ aG ⟨ql6,qhk,Rf,uT⟩ trivial
open Go.Ab.Fr renaming val->Jv,need->Jd,br->Jb
def Iy (x:aq [.d jourT,.d factT]):Fr (ae [jourT,i64]):=
 let k:=oI.f (x.1,());let g:=(([],()),[],());let c:=ve.f (x.2.1,());let b:=List.drop ((0:Int)).toNat x.1.2.1;let a:=((List.length x.1.2.1):Int);let h:=List.take (a-(0:Int)).toNat b;Jb (!(qa.f (x.2.1,())).1) (Jv (g,1,())) (Jb (decide (a>=2000)) (Jv (g,2,())) (Jd (decide (a>0)=true->0<=I6.wrap (a-1)/\I6.wrap (a-1)<a) (Jb (bif decide (a>0) then decide (x.2.1.1<(List.getD x.1.2.1 (I6.wrap (a-1)).toNat factT.dflt).1) else false) (Jv (g,4,())) (Jb (bif decide (x.2.1.1<=k.1) then true else bif x.2.1.2.1==7 then decide (x.2.1.2.2.2.2.1<=k.1) else false) (Jv (g,12,())) (Jd (0<=(0:Int)/\(0:Int)<=a/\a<=a/\a=a) (Jd (mV x.2.1) (Jd (0 < [c.1].length/\h.length + [c.1].length<=maxLen/\(h.length + [c.1].length)*344<=140737488355328) (Jv (((x.1.1.1,()),List.take (a-(0:Int)).toNat b++[c.1],()),0,())))))))))
def qj2:aa prog 50 (aL [.d jourT,.d factT] [jourT,i64] Iy):=
 aH Y3 f50
abbrev ni:jourT.den:=(([],()),[],())
def zY (l:List factT.den) (f:factT.den):Bool:=match l.getLast? with
 |some g=>decide (bx f<bx g)
 |none=>false
def L6 (l:List factT.den) (f:factT.den):Bool:=bif decide (bx f<=yV l) then true else bif aF f==7 then decide (dp f<=yV l) else false
def gv (j:jourT.den) (f:factT.den):jourT.den×Int:=
 bif !(cC f) then (ni,1) else bif decide (((List.length (α:=factT.den) j.2.1:Nat):Int)>=2000) then (ni,2) else bif zY j.2.1 f then (ni,4) else bif L6 j.2.1 f then (ni,12) else ((j.1,j.2.1++[f],()),0)
def yv:Ct:=⟨[.d jourT,.d factT],[jourT,i64],λx=>((gv x.1 x.2.1).1,(gv x.1 x.2.1).2,()),λx=>[mV x.2.1]⟩
def DJ (l:List factT.den) (f:factT.den) (hl:l.length<2000):(bif decide (((List.length l:Nat):Int)>0) then decide (bx f<(List.getD l (I6.wrap (((List.length l:Nat):Int)-1)).toNat factT.dflt).1) else false)=zY l f:=by
 unfold zY;cases l with
 |nil=>rfl
 |cons a r=>
  have hw:I6.wrap (((a::r).length:Int)-1)=r.length:=by
   rw[IntWalk.i64_in _ (by simp only[uc7] at hl |-; omega)]; simp
  rw[hw,ud8 (by simp:(((a::r).length:Nat):Int)>0),uan,uah];have:((r.length:Int)).toNat=(a::r).length-1:=by simp
  rw[this,uap (by simp)];rfl
def Sx {l:List factT.den} (hl:l.length<2000):decide (((List.length l:Nat):Int)>0)=true->0<=I6.wrap (((List.length l:Nat):Int)-1)/\I6.wrap (((List.length l:Nat):Int)-1)<((List.length l:Nat):Int):=λh=>by
 have h:=ucv h;rw[IntWalk.i64_in _ (by omega)];omega
def ql8 (t:aP.den) (l:List factT.den) (f:factT.den) (hf:mV f):(Iy ((t,l,()),f,())).ok/\(Iy ((t,l,()),f,())).get=((gv (t,l,()) f).1,(gv (t,l,()) f).2,()):=by
 unfold gv;cases h1 : !(cC f)
 ·refine ax (by first|rfl|exact h1) ?_;cases h2:decide (((List.length l:Nat):Int)>=2000)
  ·refine ax (by first|rfl|exact h2) ?_;have hl:l.length<2000:=by have:=ucf h2; omega
   refine au (Sx hl) ?_;cases h3:zY l f
   ·refine ax ((DJ l f hl).trans h3) ?_;cases h4:L6 l f
    ·refine ax h4 (au ⟨ufb _,by omega,ufb _,rfl⟩ (au hf (au ⟨Nat.one_pos,?_,?_⟩ ⟨uT,?_⟩)))
     ·show(List.take (((List.length l:Nat):Int)-0).toNat (List.drop 0 l)).length+1<=maxLen;rw[uc3,uc4]; unfold maxLen; omega
     ·show((List.take (((List.length l:Nat):Int)-0).toNat (List.drop 0 l)).length+1)*344<=140737488355328;rw[uc3,uc4]; omega
     ·show((t,List.take (((List.length l:Nat):Int)-0).toNat (List.drop 0 l)++[f],()),0,())=_;rw[ued,ua1 (by omega)];rfl
    ·exact ay h4 ⟨uT,rfl⟩
   ·exact ay ((DJ l f hl).trans h3) ⟨uT,rfl⟩
  ·exact ay (by first|rfl|exact h2) ⟨uT,rfl⟩
 ·exact ay (by first|rfl|exact h1) ⟨uT,rfl⟩
def ql9:aa prog 50 yv:=conv qj2 _ _ (λ_ _ x _ _ h=>ql8 x.1.1 x.1.2.1 x.2.1 h)
noncomputable def Y4:Cx:=cx [(50,yv),(17,l8),(14,pZ)] []
def Y5:CxOK prog Y4:=aJ aG ⟨ql9,SR,HW,uT⟩ trivial
open Go.Ab.Fr renaming val->Jv,need->Jd,br->Jb
def qkb (x:aq [.d jourT,.d factT]):Fr (ae [jourT,i64]):=
 let g:=yv.f x;let b:=(([],()),[],());let a:=l8.f (x.1,292194,());let c:=pZ.f (a.1,x.2.1,());Jd (mV x.2.1) (Jb (g.2.1 != 0) (Jv (b,g.2.1,())) (Jd (bT (x.1.1.1,())) (Jb (a.2.1 != 0) (Jv (b,a.2.1,())) (Jd (bg a.1) (Jb (c.2.1 != 0) (Jv (b,c.2.1,())) (Jv (g.1,0,())))))))
def qkc:aa prog 23 (aL [.d jourT,.d factT] [jourT,i64] qkb):=
 aH Y5 f23
def j8 (j:jourT.den) (f:factT.den):jourT.den×Int:=
 bif (gv j f).2 != 0 then (ni,(gv j f).2) else bif (dl j 292194).2 != 0 then (ni,(dl j 292194).2) else bif (db (dl j 292194).1 f).2 != 0 then (ni,(db (dl j 292194).1 f).2) else ((gv j f).1,0)
def qhx {j:jourT.den} (b:Int) (h:bT j.1):bg (dl j b).1:=by
 unfold dl;cases decide (((List.length (α:=factT.den) j.2.1:Nat):Int)>2000)
 ·exact Qm _ (vT h)
 ·exact⟨⟨ufg _,λv hv=>by cases hv⟩,ufg _,ufg _,λa ha=>by cases ha⟩
def Cu:Ct:=⟨[.d jourT,.d factT],[jourT,i64],λx=>((j8 x.1 x.2.1).1,(j8 x.1 x.2.1).2,()),λx=>[mV x.2.1,bT x.1.1]⟩
def zcf:aa prog 23 Cu:=conv qkc _ _ (λ_ _ x _ _ h=>by
 obtain⟨j,f,_⟩:=x;obtain⟨hf,ht⟩:mV f/\bT j.1:=h;show _/\_=((j8 j f).1,(j8 j f).2,());unfold j8;refine au hf ?_;cases h1:(gv j f).2 != 0
 ·refine ax (by first|rfl|exact h1) (au ht ?_);cases h2:(dl j 292194).2 != 0
  ·refine ax (by first|rfl|exact h2) (au (qhx _ ht) ?_);cases h3:(db (dl j 292194).1 f).2 != 0
   ·exact ax (by first|rfl|exact h3) ⟨uT,rfl⟩
   ·exact ay (by first|rfl|exact h3) ⟨uT,rfl⟩
  ·exact ay (by first|rfl|exact h2) ⟨uT,rfl⟩
 ·exact ay (by first|rfl|exact h1) ⟨uT,rfl⟩)
open Go.Ab.Fr renaming val->Jv,need->Jd,br->Jb
def qln (x:aq []):Fr (ae [aP]):=
 Jv (([(1,(100,100,100,100,()),[],[10000],[10000,10000,10000,10000,10000,10000,10000,10000],0,())],()),())
def qlo:aa prog 29 (aL [] [aP] qln):=
 aH eI f29
def qh9 (x:aq [.d i64]):Fr (ae [factT]):=
 Jv ((1,1,x.1,0,0,((1,101,()),(0,36500,0,0,()),[(1,1000,1000,0,10000,())],()),(0,0,0,(0,0,0,0,()),[],0,()),(0,0,0,0,0,0,()),(0,0,0,()),(0,0,(0,0,()),0,0,0,0,0,()),()),())
def qia:aa prog 30 (aL [.d i64] [factT] qh9):=
 aH eI f30
def qju (x:aq [.d factT]):Fr (ae [.bool]):=
 Jv (bif decide (((List.length x.1.2.2.2.2.2.1.2.2.1):Int)<=50) then decide (((List.length x.1.2.2.2.2.2.2.1.2.2.2.2.1):Int)<=50) else false,())
def qjv:aa prog 12 (aL [.d factT] [.bool] qju):=
 aH eI f12
def qjy (x:aq [.d factT]):Fr (ae [.bool]):=
 Jv (bif decide (((List.length x.1.2.2.2.2.2.1.2.2.1):Int)<=50) then decide (((List.length x.1.2.2.2.2.2.2.1.2.2.2.2.1):Int)<=50) else false,())
def qjz:aa prog 40 (aL [.d factT] [.bool] qjy):=
 aH eI f40
abbrev uM:aP.den:=([(1,(100,100,100,100,()),[],[10000],[10000,10000,10000,10000,10000,10000,10000,10000],0,())],())
abbrev G6 (id:Int):factT.den:=(1,1,id,0,0,((1,101,()),(0,36500,0,0,()),[(1,1000,1000,0,10000,())],()),(0,0,0,(0,0,0,0,()),[],0,()),(0,0,0,0,0,0,()),(0,0,0,()),(0,0,(0,0,()),0,0,0,0,0,()),())
def O3:Ct:=⟨[],[aP],λ_=>(uM,()),λ_=>[]⟩
def Od:Ct:=⟨[.d i64],[factT],λx=>(G6 x.1,()),λ_=>[]⟩
def lJ (f:factT.den):Bool:=bif decide (((List.length (fS f).2.2.1:Nat):Int)<=50) then decide (((List.length (fB f).2.2.2.2.1:Nat):Int)<=50) else false
def yw:Ct:=⟨[.d factT],[.bool],λx=>(lJ x.1,()),λ_=>[]⟩
def zdk:aa prog 29 O3:=conv qlo _ _ (λ_ _ _ _ _ _=>⟨uT,rfl⟩)
def qbv:aa prog 30 Od:=conv qia _ _ (λ_ _ _ _ _ _=>⟨uT,rfl⟩)
def qhm:aa prog 12 yw:=conv qjv _ _ (λ_ _ _ _ _ _=>⟨uT,rfl⟩)
def qh1:aa prog 40 yw:=conv qjz _ _ (λ_ _ _ _ _ _=>⟨uT,rfl⟩)
def qhn {f:factT.den} (h:lJ f=true):mV f:=by
 unfold lJ at h;rw[ga,uc9] at h;have h1:=ucv h.1;have h2:=ucv h.2;exact⟨by omega,by omega⟩
noncomputable def Y7:Cx:=cx [(29,O3),(30,Od),(28,sk),(14,pZ),(21,GG),(31,Ou)] []
def Y8:CxOK prog Y7:=aJ aG ⟨zdk,qbv,SK,HW,NB,qlw,uT⟩ trivial
def Q9 (_:aq []):Fr (ae [.bool]):=Jd (bg (ir uM)) (Jd (bg (db (ir uM) (G6 1)).1) (Jd (bg (db (ir uM) (G6 1)).1) (Jv (true,()))))
def qbc:aa prog 10 (aL [] [.bool] Q9):=
 aH Y8 f10 (fr:=Q9) (ps:=[]) (rs:=[.bool])
def O4:Ct:=⟨[],[.bool],λ_=>(true,()),λ_=>[]⟩
def Is:bT uM:=by
 refine⟨by decide,λv hv=>?_⟩;simp only[uM,ueg,udh,or_false] at hv;subst hv;exact⟨by decide,by decide,by decide⟩
def Qp {s:ag.den} (f:factT.den) (h:bg s):bg (db s f).1:=by
 have z:bg cR:=⟨⟨ufg _,λv hv=>by cases hv⟩,ufg _,ufg _,λa ha=>by cases ha⟩;unfold db;cases fE s f != 0
 ·cases (gn s f).2 != 0
  ·exact Ql f h
  ·exact z
 ·exact z
def qbd:aa prog 10 O4:=
 conv qbc _ _ (λ_ _ _ _ _ _=>au (vT Is) (au (Qp _ (vT Is)) (au (Qp _ (vT Is)) ⟨uT,rfl⟩)))
open Go.Ab.Fr renaming val->Jv,need->Jd,br->Jb
noncomputable def Y9:Cx:=cx [(40,yw)] []
def YA:CxOK prog Y9:=aJ aG ⟨qh1,uT⟩ trivial
abbrev nJ:Pt:=⟨36,0,⟨[(6,.d i64)],[.x 2 64 jourT,.r 2 2 0]⟩,⟨[],[]⟩,⟨[(4,.d .bool)],[]⟩⟩
abbrev xd:Type:=aq []×bW [.x 2 64 jourT,.r 2 2 0]
def xA (e:factT.den) (s:xd):Fr (xd ⊕ nJ.R.X):=
 Jb (!(yw.f (e,())).1) (Jv (.inr ((false,()),()))) (Jv (.inl ((),s.2.1,())))
def rn (x:nJ.M.X):Int×List factT.den×xd:=(x.1.1,x.2.1.2.1,x.1.2,x.2)
def Rv (x:nJ.M.X):Prop:=True
def qwe (s:xd):nJ.E.X:=((),())
def qe5:xd:=(aW _,aZ _)
def Ps:nJ.R.X:=(aW _,aZ _)
def qs9:ah prog (.loop (aC f16 0)) nJ.M nJ (FL xA rn Rv qwe Rd.back qe5 Ps):=
 ln YA (λ_ _=>.n .o) factT.dflt (λx=>((x.2.1.2.1.length:Nat):Int)) (λx s=>((I6.wrap (x.1.1+1),s.1),s.2)) (λ_ _=>rfl)
def Ue (y:nJ.M.X):xd ⊕ nJ.R.X:=bc xA ((rn y).2.1.drop (rn y).1.toNat) (rn y).2.2
def qva (y:nJ.M.X):Prop:=d7 xA ((rn y).2.1.drop (rn y).1.toNat) (rn y).2.2
open Go.Ab.Fr renaming val->Jv,need->Jd,br->Jb
noncomputable def YB:Cx:=cx [(32,Co)] []
def YC:CxOK prog YB:=aJ aG ⟨qhy,uT⟩ trivial
def qjw (x:aq [.d jourT,.d i64]):Fr (ae [.bool]):=
 let a:=((0,()),x.1,());let b:=Ue a;Jb (bif !(Co.f ((0,0,((0,0,()),(0,0,0,0,()),[],()),[],()),(x.1.1.1,()),())).1 then true else decide (((List.length x.1.2.1):Int)>x.2.1)) (Jv (false,())) (Jd (InL (Rv a) (rn a)) (Jd (qva a) (Jb (bi b) (Jv (true,())) (Jv ((ba Ps b).1.1,())))))
def qjx:aa prog 16 (aL [.d jourT,.d i64] [.bool] qjw):=
 bz YC qs9
def uf {σ ρ:Type} {good ok:Prop} {g:σ ⊕ ρ} {v:ρ->Bool} {d:ρ} {s1:σ} {c:ρ} {b:Bool} (hg:good) (ho:ok) (h:g=if b=true then .inl s1 else .inr c) (hc:v c=false) :
  (Jd good (Jd ok (Jb (bi g) (Jv ((true,()):ae [.bool])) (Jv (v (ba d g),()))))).ok/\(Jd good (Jd ok (Jb (bi g) (Jv ((true,()):ae [.bool])) (Jv (v (ba d g),()))))).get=(b,()):=by
 cases b
 ·have h':=h;subst h';exact au hg (au ho (ax rfl ⟨uT,by show(v c,())=_; rw[hc]⟩))
 ·have h':=h;subst h';exact au hg (au ho (ay rfl ⟨uT,rfl⟩))
def oy {α:Type} {p:α×α->Bool}:(a:List α)->(∀ x∈a,p (x,x)=true)->(a.zip a).all p=true
 |[],_=>rfl
 |x::a,h=>by
  rw[List.zip_cons_cons,ueh,h x uca,uej];exact oy a (λy hy=>h y (ubg _ hy))
def pS (e:aN.den×aN.den):Bool:=e.1.1==e.2.1&&(e.1.2.1==e.2.2.1&&(e.1.2.2.1==e.2.2.2.1&&true))
def CB (a b:cO.den):Bool:=a.1==b.1&&(a.2.1==b.2.1&&(a.2.2.1==b.2.2.1&&(a.2.2.2.1==b.2.2.2.1&&(a.2.2.2.2.1==b.2.2.2.2.1&&(a.2.2.2.2.2.1==b.2.2.2.2.2.1&&true)))))
def m9 (a b:aB.den):Bool:=bif bif !(CB a.1 b.1) then true else ((List.length (α:=aN.den) a.2.1:Nat):Int) != ((List.length (α:=aN.den) b.2.1:Nat):Int) then false else (List.zip (α:=aN.den) (β:=aN.den) a.2.1 b.2.1).all pS
def Hi:Ct:=⟨[.d aB,.d aB],[.bool],λx=>(m9 x.1 x.2.1,()),λ_=>[]⟩
def oY {a b:Bool} (h:(bif a then true else b)=false):a=false/\b=false:=by cases a<;>cases b<;>first|exact⟨rfl,rfl⟩|cases h
def s9 (j:jourT.den) (n:Int):Bool:=bif bif !(oR fh j.1) then true else decide (((List.length (α:=factT.den) j.2.1:Nat):Int)>n) then false else j.2.1.all lJ
def Ot:Ct:=⟨[.d jourT,.d i64],[.bool],λx=>(s9 x.1 x.2.1,()),λ_=>[]⟩
def qhr:aa prog 16 Ot:=conv qjx _ _ (λw F x vs hr _=>by
 obtain⟨j,n,_⟩:=x;obtain⟨v,vs',rfl,hv,_⟩:=hr;have hlen:=DG hv;show _/\_=(s9 j n,());unfold s9;cases h:(bif !(oR fh j.1) then true else decide (((List.length (α:=factT.den) j.2.1:Nat):Int)>n))
 ·refine ax h (uf (v:=λr=>r.1.1) (s1:=((),j,())) (c:=((false,()),())) ⟨uT,ufb _,ub2 _,hlen⟩ (lS (step:=xA) _ (λe _ s=>⟨λ_=>uT,λ_=>uT⟩) _) ?_ rfl);show bc xA (List.drop 0 j.2.1) _=_;rw[ued,lM (step:=xA) (I:=λ_=>True) (p:=lJ) (c:=((false,()),())) (λe s _=>?_) _ _ trivial]
  ·cases j.2.1.all lJ<;>rfl
  ·show(Jb (!(lJ e)) _ _).get=_;cases lJ e<;>rfl
 ·exact ay h ⟨uT,rfl⟩)
def qhq {j:jourT.den} {n:Int} (h:s9 j n=true):bT j.1/\((List.length (α:=factT.den) j.2.1:Nat):Int)<=n/\∀ f∈j.2.1,lJ f=true:=by
 unfold s9 at h;cases h1:(bif !(oR fh j.1) then true else decide (((List.length j.2.1:Nat):Int)>n))
 ·rw[h1] at h;obtain⟨h2,h3⟩:=oY h1;have h4:oR fh j.1=true:=by simpa using h2
  exact⟨(qho h4).2,by have:=ucf h3; omega,uc6.mp h⟩
 ·rw[h1] at h; cases h
open Go.Ab.Fr renaming val->Jv,need->Jd,br->Jb
def I1 (x:aq [.d ar,.d ar]):Fr (ae [.bool]):=
 let b:=x.1.2.2.2;let a:=x.2.1.2.2.2;Jv (bif bif bif bif bif (iG.f (b.2.1,a.2.1,())).1 then x.1.1==x.2.1.1 else false then x.1.2.1==x.2.1.2.1 else false then x.1.2.2.1==x.2.1.2.2.1 else false then b.1.1==a.1.1&&(b.1.2.1==a.1.2.1&&(b.1.2.2.1==a.1.2.2.1&&(b.1.2.2.2.1==a.1.2.2.2.1&&true))) else false then b.2.2.1==a.2.2.1 else false,())
def I2 (x:aq [.d cr,.d cr]):Fr (ae [.bool]):=
 let b:=x.1.2.1;let a:=x.2.1;Jv (bif bif (iG.f (x.1.2.2.1,a.2.2.1,())).1 then x.1.1.1==a.1.1&&(x.1.1.2.1==a.1.2.1&&true) else false then b.1==a.2.1.1&&(b.2.1==a.2.1.2.1&&(b.2.2.1==a.2.1.2.2.1&&(b.2.2.2.1==a.2.1.2.2.2.1&&true))) else false,())
def py (a b:ar.den):Bool:=(I1 (a,b,())).get.1
def Bf (a b:cr.den):Bool:=(I2 (a,b,())).get.1
def UI (l:List ak.den):dm l l=true:=by
 rw[EK rfl];exact oy l (λx _=>by simp[gl])
open Go.Ab.Fr renaming val->Jv,need->Jd,br->Jb
def zdm {w:World} {F:Nat->Prop} {t:aP.den} {v:Value} (h:bq w F aP t v):((List.length (α:=az.den) t.1:Nat):Int)<=9223372036854775807:=by
 have h1:List.length (α:=az.den) t.1<=maxLen:=(aD.wf h.2.2).1.1;unfold maxLen at h1;omega
def qn4 {w:World} {F:Nat->Prop} {t:ap.den} {v:Value} (h:bq w F ap t v):((List.length (α:=ar.den) t.2.2.2.1:Nat):Int)<=9223372036854775807:=by
 have h1:List.length (α:=ar.den) t.2.2.2.1<=maxLen:=(aD.wf h.2.2).2.2.2.1.1;unfold maxLen at h1;omega
def EP (a b:ap.den):Bool:=bif bif bif !(Bf a.2.2.1 b.2.2.1) then true else a.1 != b.1 then true else a.2.1 != b.2.1 then true else ((List.length (α:=ar.den) a.2.2.2.1:Nat):Int) != ((List.length (α:=ar.den) b.2.2.2.1:Nat):Int)
def qW (a b:ap.den):Bool:=bif EP a b then false else (List.zip (α:=ar.den) (β:=ar.den) a.2.2.2.1 b.2.2.2.1).all λe=>py e.1 e.2
def yB:Ct:=⟨[.d ap,.d ap],[.bool],λx=>(qW x.1 x.2.1,()),λ_=>[]⟩
open Go.Ab.Fr renaming val->Jv,need->Jd,br->Jb
abbrev ld:Pt:=⟨127,0,⟨[(6,.d i64)],[.x 2 29 ag,.r 2 2 0,.x 3 29 ag,.r 3 3 0]⟩,⟨[],[.x 2 29 ag,.r 2 2 0,.x 3 29 ag,.r 3 3 0]⟩,⟨[(4,.d .bool)],[]⟩⟩
abbrev xq:Type:=aq []×bW [.x 2 29 ag,.r 2 2 0,.x 3 29 ag,.r 3 3 0]
def xH (e:(aT.den×aT.den)) (s:xq):Fr (xq ⊕ ld.R.X):=
 Jb (bif !(yB.f (e.1.1,e.2.1,())).1 then true else e.1.2.1 != e.2.2.1) (Jv (.inr ((false,()),()))) (Jv (.inl ((),s.2.1,s.2.2.1,())))
def rA (x:ld.M.X):Int×List (aT.den×aT.den)×xq:=(x.1.1,x.2.1.2.1.zip x.2.2.1.2.1,x.1.2,x.2)
def KB (s:xq):ld.E.X:=((),s.2.1,s.2.2.1,())
def HL:xq:=(aW _,aZ _)
def AF (y:ld.M.X):xq ⊕ ld.R.X:=bc xH ((rA y).2.1.drop (rA y).1.toNat) (rA y).2.2
abbrev kg:Pt:=⟨127,2,⟨[(8,.d i64)],[.x 2 29 ag,.r 2 2 0,.x 3 29 ag,.r 3 3 0]⟩,⟨[],[.x 2 29 ag,.r 2 2 0,.x 3 29 ag,.r 3 3 0]⟩,⟨[(4,.d .bool)],[]⟩⟩
abbrev tS:Type:=aq []×bW [.x 2 29 ag,.r 2 2 0,.x 3 29 ag,.r 3 3 0]
def xI (e:(aB.den×aB.den)) (s:tS):Fr (tS ⊕ kg.R.X):=
 Jb (!(Hi.f (e.1,e.2,())).1) (Jv (.inr ((false,()),()))) (Jv (.inl ((),s.2.1,s.2.2.1,())))
def pF (x:kg.M.X):Int×List (aB.den×aB.den)×tS:=(x.1.1,x.2.1.2.2.1.zip x.2.2.1.2.2.1,x.1.2,x.2)
def KC (s:tS):kg.E.X:=((),s.2.1,s.2.2.1,())
def HM:tS:=(aW _,aZ _)
def AG (y:kg.M.X):tS ⊕ kg.R.X:=bc xI ((pF y).2.1.drop (pF y).1.toNat) (pF y).2.2
open Go.Ab.Fr renaming val->Jv,need->Jd,br->Jb
abbrev qk (a b:ag.den):ld.M.X:=((0,()),a,b,())
abbrev o0 (a b:ag.den):ld.E.X:=KB (cZ HL (AF (qk a b)))
abbrev ql (a b:ag.den):kg.M.X:=((0,()),(o0 a b).2.1,(o0 a b).2.2.1,())
abbrev o1 (a b:ag.den):kg.E.X:=KC (cZ HM (AG (ql a b)))
def AR {w:World} {F:Nat->Prop} {s:ag.den} {v:Value} (h:bq w F ag s v):((List.length (α:=aT.den) (bP s):Nat):Int)<=9223372036854775807/\((List.length (α:=aB.den) (bU s):Nat):Int)<=9223372036854775807/\((List.length (α:=av.den) (bw s):Nat):Int)<=9223372036854775807:=by
 have h0:=aD.wf h.2.2;have h1:List.length (α:=aT.den) (bP s)<=maxLen:=h0.2.1.1;have h2:List.length (α:=aB.den) (bU s)<=maxLen:=h0.2.2.1.1;have h3:List.length (α:=av.den) (bw s)<=maxLen:=h0.2.2.2.1.1;unfold maxLen at h1 h2 h3;exact⟨by omega,by omega,by omega⟩
open Go.Ab.Fr renaming val->Jv,need->Jd,br->Jb
abbrev Av:Pt:=⟨23,0,⟨[(5,.d i64),(1,.d i64)],[.x 2 29 ag,.r 2 2 0]⟩,⟨[],[]⟩,⟨[(4,.d i64)],[]⟩⟩
def EV (k:Int×ag.den) (b:Prop) (i:Int) (e:aT.den) (s:Unit):Fr (Unit ⊕ Av.R.X):=
 Jd b (Jb (e.1.1==k.1) (Jv (.inr ((i,()),()))) (Jv (.inl ())))
def ZD:Av.M.X->Fr Av.Out:=FK (λx=>(x.1.1,(x.1.2.1,x.2.1),())) (λk=>(List.length k.2.2.1:Int)) (λk=>k.2.2.1) EV (λk s=>((),())) (λ_ y=>Rd.back y) () (aW _,aZ _)
def qss:ah prog (.loop (aC f125 0)) Av.M Av ZD:=
 rJ eI (λi k s=>((i,k.1,()),k.2,())) aT.dflt
def zL:=λk s=>dJ (EV k True) 0 k.2.2.1 s
def qut:=λk s=>gS (EV k True) 0 k.2.2.1 s
abbrev Ax:Pt:=⟨23,0,⟨[(5,.d i64),(1,.d i64)],[.x 2 29 ag,.r 2 2 0]⟩,⟨[],[]⟩,⟨[(4,.d i64)],[]⟩⟩
def EZ (k:Int×ag.den) (b:Prop) (i:Int) (e:aB.den) (s:Unit):Fr (Unit ⊕ Ax.R.X):=
 Jd b (Jb (e.1.1==k.1) (Jv (.inr ((i,()),()))) (Jv (.inl ())))
def ZI:Ax.M.X->Fr Ax.Out:=FK (λx=>(x.1.1,(x.1.2.1,x.2.1),())) (λk=>(List.length k.2.2.2.1:Int)) (λk=>k.2.2.2.1) EZ (λk s=>((),())) (λ_ y=>Rd.back y) () (aW _,aZ _)
def qsx:ah prog (.loop (aC f129 0)) Ax.M Ax ZI:=
 rJ eI (λi k s=>((i,k.1,()),k.2,())) aB.dflt
def zO:=λk s=>dJ (EZ k True) 0 k.2.2.2.1 s
def quy:=λk s=>gS (EZ k True) 0 k.2.2.2.1 s
abbrev wI:Pt:=⟨93,0,⟨[(8,.d i64),(6,.d i64)],[.x 2 29 ag,.r 2 2 0,.x 3 46 factT,.r 3 3 0,.x 4 29 ag,.r 4 4 0,.x 7 56 aT,.r 7 7 0]⟩,⟨[(6,.d i64)],[.x 2 29 ag,.r 2 2 0,.x 3 46 factT,.r 3 3 0,.x 4 29 ag,.r 4 4 0,.x 7 56 aT,.r 7 7 0]⟩,⟨[(5,.d i64)],[.x 4 29 ag,.r 4 4 0]⟩⟩
def EW (k:Int×ag.den×factT.den×ag.den×aT.den) (b:Prop) (i:Int) (e:aB.den) (s:Unit):Fr (Unit ⊕ wI.R.X):=
 Jd b (Jd ((e.1.2.1==k.2.2.1.2.2.1)=true->b) (Jb (bif e.1.2.1==k.2.2.1.2.2.1 then decide (e.1.2.2.2.2.1>=k.2.2.1.1) else false) (Jv (.inr ((10,()),(([],()),[],[],[],0,()),()))) (Jv (.inl ()))))
def ZE:wI.M.X->Fr wI.Out:=FK (λx=>(x.1.1,(x.1.2.1,x.2.1,x.2.2.1,x.2.2.2.1,x.2.2.2.2.1),())) (λk=>(List.length k.2.1.2.2.1:Int)) (λk=>k.2.1.2.2.1) EW (λk s=>((k.1,()),k.2.1,k.2.2.1,k.2.2.2.1,k.2.2.2.2,())) (λ_ y=>Rd.back y) () (aW _,aZ _)
def qst:ah prog (.loop (aC f84 0)) wI.M wI ZE:=
 rJ eI (λi k s=>((i,k.1,()),k.2.1,k.2.2.1,k.2.2.2.1,k.2.2.2.2,())) aB.dflt
def qnm:=λk s=>dJ (EW k True) 0 k.2.1.2.2.1 s
def quu:=λk s=>gS (EW k True) 0 k.2.1.2.2.1 s
abbrev Ex:Pt:=⟨36,0,⟨[(4,.d i64),(3,.d i64)],[.x 1 64 jourT,.r 1 1 0]⟩,⟨[(3,.d i64)],[]⟩,⟨[],[]⟩⟩
def EX (k:jourT.den) (b:Prop) (i:Int) (e:factT.den) (s:Int):Fr (Int):=
 Jd b (Jd ((e.2.1==7)=true->b) (Jb (bif e.2.1==7 then decide (e.2.2.2.2.1>s) else false) (Jd b (Jv e.2.2.2.2.1)) (Jv s)))
def ZG:Ex.M.X->Fr Ex.Out:=FG (λx=>(x.1.1,x.2.1,x.1.2.1)) (λk=>(List.length k.2.1:Int)) (λk=>k.2.1) EX (λk s=>((s,()),()))
def qsv:ah prog (.loop (aC f89 0)) Ex.M Ex ZG:=
 rI eI (λi k s=>((i,s,()),k,())) factT.dflt
def J9:=λk s=>cf (EX k True) 0 k.2.1 s
def quw:=λk s=>fF (EX k True) 0 k.2.1 s
abbrev E3:Pt:=⟨31,0,⟨[(6,.d i64),(1,.d i64),(5,.d i64)],[.x 2 76 aB,.r 2 2 0]⟩,⟨[(5,.d i64)],[]⟩,⟨[],[]⟩⟩
def Fc (k:Int×aB.den) (b:Prop) (i:Int) (e:aN.den) (s:Int):Fr (Int):=
 Jd b (Jb (e.2.1==k.1) (Jd b (Jv (I6.wrap (s+e.2.2.1)))) (Jv s))
def ZR:E3.M.X->Fr E3.Out:=FG (λx=>(x.1.1,(x.1.2.1,x.2.1),x.1.2.2.1)) (λk=>(List.length k.2.2.1:Int)) (λk=>k.2.2.1) Fc (λk s=>((s,()),()))
def qs7:ah prog (.loop (aC f201 0)) E3.M E3 ZR:=
 rI eI (λi k s=>((i,k.1,s,()),k.2,())) aN.dflt
def JB:=λk s=>cf (Fc k True) 0 k.2.2.1 s
def qu5:=λk s=>fF (Fc k True) 0 k.2.2.1 s
abbrev E1:Pt:=⟨47,0,⟨[(4,.d i64)],[.x 1 76 aB,.r 1 1 0,.x 2 247 cn,.r 2 2 0,.x 3 247 cn,.r 3 3 0]⟩,⟨[],[.x 2 247 cn,.r 2 2 0,.x 3 247 cn,.r 3 3 0]⟩,⟨[],[]⟩⟩
def rg (k:aB.den×cn.den) (b:Prop) (i:Int) (e:aN.den) (s:cn.den):Fr (cn.den):=
 let a:=s.2.2;Jd b (Jb (e.2.1==1) (Jd b (Jv (e.2.2.1,s.2.1,a.1,a.2.1,a.2.2.1,a.2.2.2.1,()))) (Jb (e.2.1==4) (Jv (s.1,s.2.1,a.1,a.2.1,a.2.2.1,false,())) (Jb (e.2.1==5) (Jv (s.1,s.2.1,a.1,a.2.1,a.2.2.1,true,())) (Jv s))))
def ZQ:E1.M.X->Fr E1.Out:=FG (λx=>(x.1.1,(x.2.1,x.2.2.1),x.2.2.2.1)) (λk=>(List.length k.1.2.1:Int)) (λk=>k.1.2.1) rg (λk s=>((),k.2,s,()))
def qs6:ah prog (.loop (aC f174 0)) E1.M E1 ZQ:=
 rI eI (λi k s=>((i,()),k.1,k.2,s,())) aN.dflt
def wj:=λk s=>cf (rg k True) 0 k.1.2.1 s
def qu4:=λk s=>fF (rg k True) 0 k.1.2.1 s
abbrev Aw:Pt:=⟨26,0,⟨[(5,.d i64),(0,.d (.sl ak)),(1,.d (.sl ak))],[]⟩,⟨[],[]⟩,⟨[(4,.d .bool)],[]⟩⟩
def rc (k:(List ak.den)×(List ak.den)) (b:Prop) (i:Int) (e:ak.den) (s:Unit):Fr (Unit ⊕ Aw.R.X):=
 let a:=List.getD k.2 (Int.toNat i) ak.dflt;Jd b (Jd (0<=i/\i<((List.length k.2):Int)) (Jb (!(e.1==a.1&&(e.2.1==a.2.1&&(e.2.2.1==a.2.2.1&&(e.2.2.2.1==a.2.2.2.1&&(e.2.2.2.2.1==a.2.2.2.2.1&&true)))))) (Jv (.inr ((false,()),()))) (Jv (.inl ()))))
def ZH:Aw.M.X->Fr Aw.Out:=FK (λx=>(x.1.1,(x.1.2.1,x.1.2.2.1),())) (λk=>(List.length k.1:Int)) (λk=>k.1) rc (λk s=>((),())) (λ_ y=>Rd.back y) () (aW _,aZ _)
def qsw:ah prog (.loop (aC f194 0)) Aw.M Aw ZH:=
 rJ eI (λi k s=>((i,k.1,k.2,()),())) ak.dflt
def zN:=λk s=>dJ (rc k True) 0 k.1 s
def qux:=λk s=>gS (rc k True) 0 k.1 s
open Go.Ab.Fr renaming val->Jv,need->Jd,br->Jb
def qii (x:aq [.d ag,.d i64]):Fr (ae [i64]):=
 let b:=List.length x.1.2.1;let a:=zL (x.2.1,x.1) ();Jd (InK ((b:Int)) 0 b) (Jd (qut (x.2.1,x.1) ()) (Jb (bi a) (Jv (-1,())) (Jv ((ba (aW _,aZ _) a).1.1,()))))
def qij:aa prog 125 (aL [.d ag,.d i64] [i64] qii):=
 bz eI qss
def qiw (x:aq [.d ag,.d i64]):Fr (ae [i64]):=
 let b:=List.length x.1.2.2.1;let a:=zO (x.2.1,x.1) ();Jd (InK ((b:Int)) 0 b) (Jd (quy (x.2.1,x.1) ()) (Jb (bi a) (Jv (-1,())) (Jv ((ba (aW _,aZ _) a).1.1,()))))
def qix:aa prog 129 (aL [.d ag,.d i64] [i64] qiw):=
 bz eI qsx
def qis (x:aq [.d jourT]):Fr (ae [i64]):=
 Jd (InK (((List.length x.1.2.1):Int)) 0 (List.length x.1.2.1)) (Jd (quw x.1 0) (Jv (J9 x.1 0,())))
def qit:aa prog 89 (aL [.d jourT] [i64] qis):=
 bz eI qsv
def qjm (x:aq [.d aB,.d i64]):Fr (ae [i64]):=
 Jd (InK (((List.length x.1.2.1):Int)) 0 (List.length x.1.2.1)) (Jd (qu5 (x.2.1,x.1) 0) (Jv (JB (x.2.1,x.1) 0,())))
def qjn:aa prog 201 (aL [.d aB,.d i64] [i64] qjm):=
 bz eI qs7
def Iw (x:aq [.d (.sl ak),.d (.sl ak)]):Fr (ae [.bool]):=
 let b:=zN (x.1,x.2.1) ();let a:=List.length x.1;Jb ((a:Int) != ((List.length x.2.1):Int)) (Jv (false,())) (Jd (InK ((a:Int)) 0 a) (Jd (qux (x.1,x.2.1) ()) (Jb (bi b) (Jv (true,())) (Jv ((ba (aW _,aZ _) b).1.1,())))))
def qiu:aa prog 194 (aL [.d (.sl ak),.d (.sl ak)] [.bool] Iw):=
 bz eI qsw
def Da (x:aq [.d cO]):Fr (ae [.bool]):=
 let a:=x.1.2.2;Jb (bif bif bif bif bif decide (x.1.1<1) then true else decide (x.1.1>1000000000) then true else decide (x.1.2.1<1) then true else decide (x.1.2.1>1000000000) then true else decide (a.2.2.2.1<0) then true else decide (a.2.2.2.1>1000000000)) (Jv (false,())) (Jb (bif bif bif decide (a.2.1<1) then true else decide (a.2.1>292194) then true else decide (a.2.2.1<1) then true else decide (a.2.2.1>292194)) (Jv (false,())) (Jv (bif decide (a.1>=0) then decide (a.1<=7) else false,())))
def qiy:aa prog 123 (aL [.d cO] [.bool] Da):=
 aH eI f123
def vV (x:aq [.d aN]):Fr (ae [.bool]):=
 let g:=x.1.2.2.1;let c:=(false,());let b:=x.1.2.1;let a:=(bif decide (g>=0) then decide (g<=1000000000000000) else false,());Jb (bif decide (x.1.1<1) then true else decide (x.1.1>292194)) (Jv c) (Jb (b==1) (Jb (b==1) (Jv a) (Jb (b==4) (Jb (b==4) (Jv (g==0,())) (Jv c)) (Jb (b==5) (Jv (g==0,())) (Jv c)))) (Jb (b==2) (Jb (b==2) (Jv a) (Jb (b==4) (Jb (b==4) (Jv (g==0,())) (Jv c)) (Jb (b==5) (Jv (g==0,())) (Jv c)))) (Jb (b==3) (Jv a) (Jb (b==4) (Jb (b==4) (Jv (g==0,())) (Jv c)) (Jb (b==5) (Jv (g==0,())) (Jv c))))))
def qik:aa prog 124 (aL [.d aN] [.bool] vV):=
 aH eI f124
def Db (x:aq [.d factT]):Fr (ae [factT]):=
 let k:=(0,0,0,());let h:=(0,0,0,0,0,0,());let g:=x.1.2;let l:=g.2.2.2.2;let m:=l.2.2;let c:=(0,0,(0,0,()),0,0,0,0,0,());let b:=(0,0,0,(0,0,0,0,()),[],0,());let a:=((0,0,()),(0,0,0,0,()),[],());Jb (bif bif bif g.1==1 then true else g.1==2 then true else g.1==3 then true else g.1==5) (Jb (g.1==1) (Jv ((x.1.1,g.1,g.2.1,0,0,l.1,b,h,k,c,()),())) (Jb (g.1==2) (Jv ((x.1.1,g.1,g.2.1,0,0,a,l.2.1,h,k,c,()),())) (Jb (g.1==3) (Jv ((x.1.1,g.1,g.2.1,g.2.2.1,0,a,b,h,k,c,()),())) (Jb (g.1==4) (Jv ((x.1.1,g.1,g.2.1,0,0,a,b,m.1,k,c,()),())) (Jb (g.1==5) (Jv ((x.1.1,g.1,g.2.1,0,0,a,b,h,m.2.1,c,()),())) (Jb (g.1==6) (Jv ((x.1.1,g.1,g.2.1,0,0,a,b,h,k,m.2.2.1,()),())) (Jb (g.1==7) (Jv ((x.1.1,g.1,g.2.1,0,g.2.2.2.1,a,b,h,k,c,()),())) (Jv ((x.1.1,g.1,g.2.1,0,0,a,b,h,k,c,()),()))))))))) (Jb (g.1==1) (Jv ((x.1.1,g.1,0,0,0,l.1,b,h,k,c,()),())) (Jb (g.1==2) (Jv ((x.1.1,g.1,0,0,0,a,l.2.1,h,k,c,()),())) (Jb (g.1==3) (Jv ((x.1.1,g.1,0,g.2.2.1,0,a,b,h,k,c,()),())) (Jb (g.1==4) (Jv ((x.1.1,g.1,0,0,0,a,b,m.1,k,c,()),())) (Jb (g.1==5) (Jv ((x.1.1,g.1,0,0,0,a,b,h,m.2.1,c,()),())) (Jb (g.1==6) (Jv ((x.1.1,g.1,0,0,0,a,b,h,k,m.2.2.1,()),())) (Jb (g.1==7) (Jv ((x.1.1,g.1,0,0,g.2.2.2.1,a,b,h,k,c,()),())) (Jv ((x.1.1,g.1,0,0,0,a,b,h,k,c,()),())))))))))
def qi4:aa prog 120 (aL [.d factT] [factT] Db):=
 aH eI f120
open Go.Ab.Fr renaming val->Jv,need->Jd,br->Jb
def qm8 {f:factT.den} (h:cC f=true):1<=bx f/\bx f<=292194:=by
 unfold cC at h;simp only[uc9,ucs] at h;exact h.2.1
def quj {a b:Bool} (h:(bif !a then true else !b)=false):a=true/\b=true:=by cases a<;>cases b<;>first|exact⟨rfl,rfl⟩|cases h
def qb5 (ps:List PT):Ct:=⟨ps,[.bool],λ_=>(true,()),λ_=>[]⟩
open Go.Ab.Fr renaming val->Jv,need->Jd,br->Jb
def Re {f:factT.den} (h:cC f=true):sf f=true:=by
 unfold cC at h;rw[uc9,uc9,uc9] at h;have hb:=h.2.2;rw[uc9] at hb;exact hb.2
def Rc {f:factT.den} (h:cC f=true) (hk:aF f=3):1<=dy f/\dy f<=1000000000000000:=by
 have hb:=Re h;unfold sf at hb;rw[hk] at hb;have hb:((qz f&&decide (dy f>=1))&&decide (dy f<=1000000000000000))=true:=hb;rw[uc9,uc9] at hb;exact⟨ucv hb.1.2,ucv hb.2⟩
def zi (s:ag.den) (f:factT.den):gn s f=(bif aF f==1 then fP s f else bif aF f==2 then gG s f else bif aF f==3 then gJ s f else bif aF f==4 then fR s f else bif aF f==5 then fA s f else bif aF f==6 then gK s f else gH s f):=by
 show((kK s f).1,(kK s f).2.1)=_;unfold kK;cases aF f==1
 ·cases aF f==2
  ·cases aF f==3
   ·cases aF f==4
    ·cases aF f==5
     ·cases aF f==6<;>rfl
     ·rfl
    ·rfl
   ·rfl
  ·rfl
 ·rfl
open Go.Ab.Fr renaming val->Jv,need->Jd,br->Jb
def qby {a p:Int} (ha:0<=a/\a<=255) (hp:0<=p/\p<=7) :
  I6.wrap ((BitVec.ofInt I6.bits (Int.fdiv a (2 ^ min (Int.toNat p) I6.bits)) &&& BitVec.ofInt I6.bits 1).toNat:Int)=if a.toNat.testBit p.toNat then 1 else 0:=by
 have key:∀ n:Fin 256,∀ k:Fin 8,I6.wrap ((BitVec.ofInt I6.bits (Int.fdiv ((n.1:Nat):Int) (2 ^ min (Int.toNat ((k.1:Nat):Int)) I6.bits)) &&& BitVec.ofInt I6.bits 1).toNat:Int)=if n.1.testBit k.1 then 1 else 0:=by decide +kernel
 have h:=key ⟨a.toNat,by omega⟩ ⟨p.toNat,by omega⟩;have e1:((a.toNat:Nat):Int)=a:=by omega
 have e2:((p.toNat:Nat):Int)=p:=by omega
 simp only[e1,e2] at h;exact h
def qaw {a b:Int} (ha:0<=a/\a<=255) (hb:0<=b/\b<=255) :
  I6.wrap ((BitVec.ofInt I6.bits a &&& BitVec.ofInt I6.bits b).toNat:Int)=((a.toNat &&& b.toNat:Nat):Int):=by
 have h1:∀ n:Fin 256,(BitVec.ofInt I6.bits ((n.1:Nat):Int)).toNat=n.1:=by decide +kernel
 have ea:=h1 ⟨a.toNat,by omega⟩;have eb:=h1 ⟨b.toNat,by omega⟩;have e1:((a.toNat:Nat):Int)=a:=by omega
 have e2:((b.toNat:Nat):Int)=b:=by omega
 simp only[e1,e2] at ea eb;rw[BitVec.toNat_and,ea,eb];have:a.toNat &&& b.toNat<=a.toNat:=Nat.and_le_left;exact IntWalk.i64_in _ (by omega)
def cT (t:av.den) (d p:Int):Bool:=(t.2.1==1&&cE t.2.2.1.1 t.2.2.1.2.1 d)&&t.2.2.2.2.2.2.2.1.toNat.testBit p.toNat
abbrev per (t:av.den):Int:=t.2.2.2.2.2.2.2.1
abbrev jL (t:av.den):Int:=t.2.2.2.1
def l5 (b:Bool) {α:Type} (x y:Fr α):(Jb b x y).get=bif b then x.get else y.get:=by cases b<;>rfl
def jE {α:Type} (z:α):(Jv z).get=z:=rfl
def qud {α:Type} (p:Prop) (x:Fr α):(Jd p x).get=x.get:=rfl
def nC {t:av.den} {d p:Int} (ha:0<=per t/\per t<=255) (hp:0<=p/\p<=7):bM t d p=if cT t d p=true then jL t else 0:=by
 unfold bM Iz;simp only[l5,qud];have hb:=qby ha hp;show(bif bif bif t.2.1 != 1 then true else !(cE t.2.2.1.1 t.2.2.1.2.1 d) then true else I6.wrap ((BitVec.ofInt I6.bits (Int.fdiv (per t) (2 ^ min (Int.toNat p) I6.bits)) &&& BitVec.ofInt I6.bits 1).toNat:Int)==0 then ((0:Int),()) else (jL t,())).1=_;rw[hb];unfold cT;by_cases h1:t.2.1=1
 ·cases h2:cE t.2.2.1.1 t.2.2.1.2.1 d
  ·simp
  ·cases h3:(per t).toNat.testBit p.toNat<;>simp[h1]
 ·have h1':(t.2.1==1)=false:=by simpa using h1
  have h1'':(t.2.1 != 1)=true:=by simpa using h1
  rw[h1',h1''];rfl
def wX {t:av.den} (h:dN t=true):1<=per t/\per t<=255:=by
 have hz:gQ 1 255 [per t]=true:=by
  cases hc:gQ 1 255 [per t]
  ·unfold dN qv at h;have hc':(dv.f ((1,255,()),[t.2.2.2.2.2.2.2.1],())).1=false:=hc;simp only[hc'] at h;cases h1:(dv.f ((1,1000000000,()),[t.1],())).1<;>simp only[h1] at h
   ·cases h
   ·cases h2:((mO.f (t.2.2.1,())).1==0)<;>simp only[h2] at h<;>cases h
  ·rfl
 unfold gQ at hz;simpa using hz
def Un {t:av.den} (h:dN t=true) (hk:t.2.1=1):1<=jL t/\jL t<=10000:=by
 have hz:gQ 1 10000 [jL t]=true:=by
  cases hc:gQ 1 10000 [jL t]
  ·unfold dN qv at h;have hc':(dv.f ((1,10000,()),[t.2.2.2.1],())).1=false:=hc;have hk':(t.2.1==1)=true:=by simp[hk]
   simp only[hc',hk'] at h;cases h1:(dv.f ((1,1000000000,()),[t.1],())).1<;>simp only[h1] at h
   ·cases h
   ·cases h2:((mO.f (t.2.2.1,())).1==0)<;>simp only[h2] at h
    ·cases h3:(dv.f ((1,255,()),[t.2.2.2.2.2.2.2.1],())).1<;>simp only[h3] at h<;>cases h
    ·cases h
  ·rfl
 unfold gQ at hz;simpa using hz
structure TR (t:av.den):Prop where
 per:1<=per t/\per t<=255
 bp:t.2.1=1->1<=jL t/\jL t<=10000
def ui {t:av.den} (h:dN t=true):TR t:=⟨wX h,Un h⟩
def Fl {t:av.den} (h:TR t) {d p:Int} (hp:0<=p/\p<=7):0<=bM t d p/\bM t d p<=10000:=by
 have h1:=h.per;rw[nC ⟨by omega,h1.2⟩ hp];split
 ·rename_i ha;have hk:t.2.1=1:=by
   unfold cT at ha;rw[uc9,uc9] at ha;exact eq_of_beq ha.1.1
  have:=h.bp hk;omega
 ·omega
def c9 (g:av.den->Int):List av.den->Int
 |[]=>0
 |t::l=>g t+c9 g l
def Ff (g:av.den->Int) (t:av.den) (l:List av.den):c9 g (t::l)=g t+c9 g l:=rfl
def uO (l:List av.den) (t:av.den):dD l t=t::l.map (dV t):=rfl
def Vx (g:av.den->Int) (t:av.den) (l:List av.den):c9 g (dD l t)=g t+c9 (λy=>g (dV t y)) l:=by
 rw[uO,Ff];congr 1
 induction l with
 |nil=>rfl
 |cons a r ih=>rw[uei,Ff,Ff,ih]
def VE {A B C C' S:Int} (h1:A=0+B) (h2:B=C+S) (h3:C=C'):A=C'+S:=by omega
def LM {g k:av.den->Int}:(l:List av.den)->(∀ t∈l,g t<=k t)->c9 g l<=c9 k l
 |[],_=>ufb _
 |t::l,h=>by
  have h1:=h t uca;have h2:=LM l (λx hx=>h x (ubg _ hx));show g t+c9 g l<=k t+c9 k l;omega
def LL {d p:Int}:(l:List av.den)->(s:Int)->(∀ t∈l,0<=bM t d p/\bM t d p<=10000)->0<=s->s+10000*(l.length:Int)<=1000000000->lk d p l s=s+c9 (λt=>bM t d p) l
 |[],s,_,_,_=>by show s=s+0; omega
 |t::l,s,h,h0,h1=>by
  have hp:=h t uca;rw[uc7] at h1;have hw:I6.wrap (s+bM t d p)=s+bM t d p:=IntWalk.i64_in _ (by omega);show lk d p l (I6.wrap (s+bM t d p))=s+(bM t d p+c9 _ l);rw[hw,LL l (s+bM t d p) (λx hx=>h x (ubg _ hx)) (by omega) (by omega)];omega
def Sw (P:av.den->Prop) [DecidablePred P]:(l:List av.den)->(∃ t∈l,P t)->∃ x∈l,P x/\∀ y∈l,P y->y.2.2.1.1<=x.2.2.1.1
 |[],h=>by obtain⟨t,ht,_⟩:=h; cases ht
 |a::l,h=>by
  by_cases hl:∃ t∈l,P t
  ·obtain⟨x,hx,hpx,hmax⟩:=Sw P l hl;by_cases ha:P a/\x.2.2.1.1<a.2.2.1.1
   ·refine⟨a,uca,ha.1,λy hy hpy=>?_⟩;rcases ueg.1 hy with rfl|hy
    ·exact ufb _
    ·have:=hmax y hy hpy; exact ue3 this (ues ha.2)
   ·refine⟨x,ubg _ hx,hpx,λy hy hpy=>?_⟩;rcases ueg.1 hy with rfl|hy
    ·exact ufl.1 λhlt=>ha ⟨hpy,hlt⟩
    ·exact hmax y hy hpy
  ·obtain⟨t,ht,hpt⟩:=h;rcases ueg.1 ht with rfl|ht
   ·refine⟨t,uca,hpt,λy hy hpy=>?_⟩;rcases ueg.1 hy with rfl|hy
    ·exact ufb _
    ·exact absurd ⟨y,hy,hpy⟩ hl
   ·exact absurd ⟨t,ht,hpt⟩ hl
def qd1 {l:List av.den} {day p:Int} (hp:0<=p/\p<=7) (h:lk day p l 0>10000):kH l day=true:=by
 have hd:=ud8 h;have h8:p=0\/p=1\/p=2\/p=3\/p=4\/p=5\/p=6\/p=7:=by omega
 unfold kH;rcases h8 with rfl|rfl|rfl|rfl|rfl|rfl|rfl|rfl<;>simp only[qh,Int.reduceAdd,hd,Bool.true_or,Bool.or_true]
def E9 {t x:av.den} (ht:1<=per t/\per t<=255) (hx:1<=per x/\per x<=255):per (dV t x)=(((per x).toNat &&& (per t).toNat:Nat):Int)/\0<=per (dV t x)/\per (dV t x)<=255:=by
 have h:per (dV t x)=(((per x).toNat &&& (per t).toNat:Nat):Int):=qaw ⟨ue3 (by decide) hx.1,hx.2⟩ ⟨ue3 (by decide) ht.1,ht.2⟩;have h2:(per x).toNat &&& (per t).toNat<=(per x).toNat:=Nat.and_le_left;rw[h];exact⟨rfl,by omega,by omega⟩
def qyu {t x:av.den} {d p:Int} (ht:1<=per t/\per t<=255) (hx:1<=per x/\per x<=255) (h1:cT x d p=true) (h2:(per t).toNat.testBit p.toNat=true):cT (dV t x) d p=true:=by
 unfold cT at h1 |-;rw[uc9] at h1 |-;refine⟨h1.1,?_⟩;show(per (dV t x)).toNat.testBit p.toNat=true;rw[(E9 ht hx).1];show(((per x).toNat &&& (per t).toNat)).testBit p.toNat=true;rw[Nat.testBit_and,h2,uek];exact h1.2
def sK {a b d:Int}:cE a b d=true↔1<=a/\b<=292195/\a<=d/\d<b:=by unfold cE; exact decide_eq_true_iff
set_option maxRecDepth 100000 in
def Ts {l:List av.den} {t:av.den} (hl:∀ x∈l,TR x) (ht:TR t) (hn:l.length<=1000) (ho:gu l t=false) {d p:Int} (hp:0<=p/\p<=7) (ha:cT t d p=true) :
  bM t d p+c9 (λx=>bM x d p) l<=10000:=by
 have htp:=ht.per
 ·refine ufl.1 λhbig=>?_;have hall:∀ x∈t::l,TR x:=λx hx=>by
   rcases ueg.1 hx with rfl|hx
   ·exact ht
   ·exact hl x hx
  obtain⟨x,hx,hax,hmax⟩:=Sw (λy=>cT y d p=true) (t::l) ⟨t,uca,ha⟩;have hxd:x.2.2.1.1<=d:=by
   unfold cT at hax;rw[uc9,uc9] at hax;exact(sK.1 hax.1.2).2.2.1
  have hat:∀ y∈t::l,cT y d p=true->cT y x.2.2.1.1 p=true:=λy hy hay=>by
   have hm:=hmax y hy hay;unfold cT at hay |-;rw[uc9,uc9] at hay |-;have hb:=sK.1 hay.1.2;exact⟨⟨hay.1.1,sK.2 ⟨hb.1,hb.2.1,hm,Int.lt_of_le_of_lt hxd hb.2.2.2⟩⟩,hay.2⟩
  have htb:(per t).toNat.testBit p.toNat=true:=by
   unfold cT at ha;rw[uc9] at ha;exact ha.2
  have hpr:∀ y∈t::l,0<=per y/\per y<=255:=λy hy=>⟨ue3 (by decide) (hall y hy).per.1,(hall y hy).per.2⟩;have hrel:∀ y∈l,0<=bM (dV t y) x.2.2.1.1 p/\bM (dV t y) x.2.2.1.1 p<=10000/\bM y d p<=bM (dV t y) x.2.2.1.1 p:=λy hy=>by
   have hry:=(hl y hy).per;rw[nC (E9 htp hry).2 hp,nC (hpr y (ubg _ hy)) hp];by_cases hay:cT y d p=true
   ·have h2:=qyu htp hry (hat y (ubg _ hy) hay) htb;have hk:y.2.1=1:=by
     unfold cT at hay;rw[uc9,uc9] at hay;exact eq_of_beq hay.1.1
    have h3:=(hl y hy).bp hk;rw[if_pos h2,if_pos hay];exact⟨ue3 (by decide) h3.1,h3.2,ufb _⟩
   ·rw[if_neg hay];split
    ·rename_i h2;have hk:y.2.1=1:=by
      unfold cT at h2;rw[uc9,uc9] at h2;exact eq_of_beq h2.1.1
     have h3:=(hl y hy).bp hk;exact⟨ue3 (by decide) h3.1,h3.2,ue3 (by decide) h3.1⟩
    ·exact⟨ufb _,by decide,ufb _⟩
  have htt:bM t x.2.2.1.1 p=bM t d p:=by
   rw[nC (hpr t uca) hp,nC (hpr t uca) hp,if_pos ha,if_pos (hat t uca ha)]
  have ht2:=Fl ht (d:=x.2.2.1.1) hp;have hsum:lk x.2.2.1.1 p (dD l t) 0=bM t d p+c9 (λy=>bM (dV t y) x.2.2.1.1 p) l:=by
   have hparts:∀ y∈dD l t,0<=bM y x.2.2.1.1 p/\bM y x.2.2.1.1 p<=10000:=λy hy=>by
    rcases ueg.1 hy with rfl|hy
    ·exact ht2
    ·obtain⟨z,hz,rfl⟩:=ue7.1 hy;exact⟨(hrel z hz).1,(hrel z hz).2.1⟩
   have hlen:(0:Int)+10000*((dD l t).length:Int)<=1000000000:=by
    rw[uO,uc7,ud0]; omega
   have h1:=LL (dD l t) 0 hparts (ufb _) hlen;exact VE h1 (Vx (λy=>bM y x.2.2.1.1 p) t l) htt
  have hle:=LM l λy hy=>(hrel y hy).2.2;have hcr:=qd1 hp (by rw[hsum]; omega);have hk:t.2.1=1:=by
   have ha':=ha;unfold cT at ha';rw[uc9,uc9] at ha';exact eq_of_beq ha'.1.1
  have hin:cE t.2.2.1.1 t.2.2.1.2.1 x.2.2.1.1=true:=by
   have h2:=hat t uca ha;unfold cT at h2;rw[uc9,uc9] at h2;exact h2.1.2
  have hov:∃ z∈dD l t,lV z t (dD l t)=true:=by
   have key:∀ z:av.den,z.2.2.1.1=x.2.2.1.1->lV z t (dD l t)=true:=λz hz=>by
    unfold lV;rw[hz];show(bif cE t.2.2.1.1 t.2.2.1.2.1 x.2.2.1.1 then kH (dD l t) x.2.2.1.1 else false)=true;rw[hin,hcr];rfl
   rcases ueg.1 hx with rfl|hx
   ·exact⟨x,uca,key x rfl⟩
   ·exact⟨dV t x,ubg _ (List.mem_map_of_mem hx),key _ rfl⟩
  unfold gu at ho;rw[show(t.2.1 != 1)=false by simp[hk]] at ho;have ho:(dD l t).any (λz=>lV z t (dD l t))=false:=ho;obtain⟨z,hz,hzt⟩:=hov;rw[uc1] at ho;exact ho z hz hzt
open Go.Ab.Fr renaming val->Jv,need->Jd,br->Jb
def WC:FuncId->Option Ct:=λf=>if f=95 then some fz else none
def C4:Cx:=⟨WC,λ_=>none,λ_ _ _ _=>none⟩
def WN:CxOK prog C4:=Ea λf ct h=>by
 simp only[WC] at h;split at h
 ·rename_i hf; subst hf; cases h; exact Ld
 ·cases h
def Kk (s:bR.den):Int:=if e9 s=true then s.2.1-s.1 else 0
def vm:Ct:=⟨[.d bR],[i64],λx=>(Kk x.1,()),λ_=>[]⟩
def qzj {a b:Int} {u:Unit}:e9 (a,b,u)=true↔1<=a/\a<=b/\b<=292195:=by
 simp[e9]
def S9:aa prog 62 vm:=
 plain (ps:=[.d bR]) (rs:=[i64]) WN (fn:=f62) (fr:=λx=>Jb (!(fz.f ((x.1.1,x.1.2.1,()),())).1) (Jv (0,())) (Jv (I6.wrap (x.1.2.1-x.1.1),()))) ((0,0,()),()) (by kernel_rfl) (λx=>by kernel_rfl) _ _
  (λ_ _ xs _ _ _=>by
   obtain⟨⟨a,b,u⟩,_⟩:=xs;refine⟨⟨λ_=>uT,λ_=>uT⟩,?_⟩;show(if (!(e9 (a,b,())))=true then ((0:Int),()) else (I6.wrap (b-a),()))=(if e9 (a,b,u)=true then b-a else 0,());by_cases h:e9 (a,b,())=true
   ·have h':=qzj.1 h;have hw:I6.wrap (b-a)=b-a:=IntWalk.i64_in _ (by omega);rw[h,hw];simp
   ·have h':e9 (a,b,())=false:=by simpa using h
    rw[h'];simp)
open Go.Ab.Fr renaming val->Jv,need->Jd,br->Jb
noncomputable def YL:Cx:=cx [(62,vm)] []
def YM:CxOK prog YL:=aJ aG ⟨S9,uT⟩ trivial
def qj6 (x:aq [.d i64,.d i64,.d i64]):Fr (ae [.bool]):=
 Jv (bif decide (x.1>=x.2.1) then decide (x.1<=x.2.2.1) else false,())
def qj7:aa prog 61 (aL [.d i64,.d i64,.d i64] [.bool] qj6):=
 aH YM f61
def oJ:Ct:=⟨Gs,[.bool],λx=>(dA x.1 x.2.1 x.2.2.1,()),λ_=>[]⟩
def qod:aa prog 61 oJ:=conv qj7 _ _ (λ_ _ _ _ _ _=>⟨uT,rfl⟩)
noncomputable def YN:Cx:=cx [(62,vm),(61,oJ)] []
def YO:CxOK prog YN:=aJ aG ⟨S9,qod,uT⟩ trivial
open Go.Ab.Fr renaming val->Jv,need->Jd,br->Jb
def zn (x:aq [.d av]):Fr (ae [.bool]):=
 let a:=x.1.2.2.2;let b:=a.2.2;Jb (bif bif !(oJ.f (x.1.1,1,1000000000,())).1 then true else (vm.f (x.1.2.2.1,())).1==0 then true else !(oJ.f (b.2.2.1,1,255,())).1) (Jv (false,())) (Jb (x.1.2.1==1) (Jv (bif bif bif (oJ.f (a.1,1,10000,())).1 then a.2.1==0 else false then b.1==0 else false then b.2.1==0 else false,())) (Jb (bif x.1.2.1 != 2 then x.1.2.1 != 3 else false) (Jv (false,())) (Jv (bif bif bif a.1==0 then (oJ.f (a.2.1,0,1000000000000000,())).1 else false then (oJ.f (b.1,1,1000000000000000,())).1 else false then (oJ.f (b.2.1,0,100,())).1 else false,()))))
def qk3:aa prog 34 (aL [.d av] [.bool] zn):=
 aH YO f34
def EE (t:av.den):Bool:=(zn (t,())).get.1
def Oz:Ct:=⟨[.d av],[.bool],λx=>(EE x.1,()),λ_=>[]⟩
def qzi:aa prog 34 Oz:=conv qk3 _ _ (λ_ _ x _ _ _=>⟨by show(zn x).ok; unfold zn; (repeat' first|exact trivial|(refine⟨λ_=>?_,λ_=>?_⟩)),rfl⟩)
def zdi (a:aN.den):Bool:=!(bif decide (a.2.2.1 < -1000000000000000) then true else decide (a.2.2.1>1000000000000000))
def zdj (g:aB.den):Bool:=List.all (α:=aN.den) g.2.1 zdi&&decide (((List.length (α:=aN.den) g.2.1:Nat):Int)<=100)
def qb8:Ct:=⟨[.d aB],[.bool],λx=>(zdj x.1,()),λ_=>[]⟩
open Go.Ab.Fr renaming val->Jv,need->Jd,br->Jb
abbrev wO:Pt:=⟨77,0,⟨[(3,.d i64)],[.x 1 29 ag,.r 1 1 0]⟩,⟨[],[.x 1 29 ag,.r 1 1 0]⟩,⟨[(2,.d .bool)],[]⟩⟩
abbrev xf:Type:=aq []×bW [.x 1 29 ag,.r 1 1 0]
def zcn (e:aT.den) (s:xf):Fr (xf ⊕ wO.R.X):=
 Jb (!(Co.f (e.1,(s.2.1.1.1,()),())).1) (Jv (.inr ((false,()),()))) (Jv (.inl ((),s.2.1,())))
def LV (x:wO.M.X):Int×List aT.den×xf:=(x.1.1,x.2.1.2.1,x.1.2,x.2)
def qwf (s:xf):wO.E.X:=((),s.2.1,())
def qe6:xf:=(aW _,aZ _)
def qy5 (y:wO.M.X):xf ⊕ wO.R.X:=bc zcn ((LV y).2.1.drop (LV y).1.toNat) (LV y).2.2
abbrev tv:Pt:=⟨77,2,⟨[(5,.d i64)],[.x 1 29 ag,.r 1 1 0]⟩,⟨[],[.x 1 29 ag,.r 1 1 0]⟩,⟨[(2,.d .bool)],[]⟩⟩
abbrev xg:Type:=aq []×bW [.x 1 29 ag,.r 1 1 0]
def zco (e:aB.den) (s:xg):Fr (xg ⊕ tv.R.X):=
 Jb (!(qb8.f (e,())).1) (Jv (.inr ((false,()),()))) (Jv (.inl ((),s.2.1,())))
def LW (x:tv.M.X):Int×List aB.den×xg:=(x.1.1,x.2.1.2.2.1,x.1.2,x.2)
def qwg (s:xg):tv.E.X:=((),s.2.1,())
def qe7:xg:=(aW _,aZ _)
def qy6 (y:tv.M.X):xg ⊕ tv.R.X:=bc zco ((LW y).2.1.drop (LW y).1.toNat) (LW y).2.2
abbrev tw:Pt:=⟨77,4,⟨[(7,.d i64)],[.x 1 29 ag,.r 1 1 0]⟩,⟨[],[.x 1 29 ag,.r 1 1 0]⟩,⟨[(2,.d .bool)],[]⟩⟩
abbrev xh:Type:=aq []×bW [.x 1 29 ag,.r 1 1 0]
def zcp (e:av.den) (s:xh):Fr (xh ⊕ tw.R.X):=
 Jb (!(Oz.f (e,())).1) (Jv (.inr ((false,()),()))) (Jv (.inl ((),s.2.1,())))
def LX (x:tw.M.X):Int×List av.den×xh:=(x.1.1,x.2.1.2.2.2.1,x.1.2,x.2)
def qwh (s:xh):tw.E.X:=((),s.2.1,())
def qe8:xh:=(aW _,aZ _)
def qy7 (y:tw.M.X):xh ⊕ tw.R.X:=bc zcp ((LX y).2.1.drop (LX y).1.toNat) (LX y).2.2
open Go.Ab.Fr renaming val->Jv,need->Jd,br->Jb
abbrev f0 (s:ag.den):wO.E.X:=qwf (cZ qe6 (qy5 ((0,()),s,())))
abbrev f1 (s:ag.den):tv.E.X:=qwg (cZ qe7 (qy6 ((0,()),(f0 s).2.1,())))
abbrev f2 (s:ag.den):tw.E.X:=qwh (cZ qe8 (qy7 ((0,()),(f1 s).2.1,())))
abbrev e1 (s:ag.den):tv.M.X:=((0,()),(f0 s).2.1,())
abbrev e2 (s:ag.den):tw.M.X:=((0,()),(f1 s).2.1,())
open Go.Ab.Fr renaming val->Jv,need->Jd,br->Jb
def qd0 {l:List av.den} {day:Int} (h:kH l day=true):∃ p:Int,(0<=p/\p<=7)/\lk day p l 0>10000:=by
 unfold kH at h;simp only[qh,Int.reduceAdd,Bool.or_false,udr,ucs] at h;rcases h with h|h|h|h|h|h|h|h
 ·exact⟨0,by omega,h⟩
 ·exact⟨1,by omega,h⟩
 ·exact⟨2,by omega,h⟩
 ·exact⟨3,by omega,h⟩
 ·exact⟨4,by omega,h⟩
 ·exact⟨5,by omega,h⟩
 ·exact⟨6,by omega,h⟩
 ·exact⟨7,by omega,h⟩
def G0 {t:av.den} {d p:Int} (h:cT t d p=true):t.2.1=1:=by
 unfold cT at h;rw[uc9,uc9] at h;exact eq_of_beq h.1.1
def ND {t:av.den} {d p:Int} (h:cT t d p=true):(per t).toNat.testBit p.toNat=true:=by
 unfold cT at h;rw[uc9] at h;exact h.2
def qaj {t x:av.den} {d p:Int} (ht:1<=per t/\per t<=255) (hx:1<=per x/\per x<=255) (h:cT (dV t x) d p=true):cT x d p=true/\(per t).toNat.testBit p.toNat=true:=by
 have hb:=ND h;unfold cT at h |-;rw[uc9] at h |-;rw[(E9 ht hx).1] at hb;have hb:(((per x).toNat &&& (per t).toNat)).testBit p.toNat=true:=hb;rw[Nat.testBit_and,uc9] at hb;exact⟨⟨h.1,hb.1⟩,hb.2⟩
def Vt {g:av.den->Int}:(l:List av.den)->(∀ t∈l,g t=0)->c9 g l=0
 |[],_=>rfl
 |t::l,h=>by
  have h1:=h t uca;have h2:=Vt l (λx hx=>h x (ubg _ hx));show g t+c9 g l=0;omega
def NV {a b c:Int} (h1:a=b) (h2:b<=c) (h3:c<=10000):¬ a>10000:=by omega
def qwz {l:List av.den} {t:av.den} (hl:∀ x∈l,TR x) (ht:TR t) (hn:l.length<=1000)
  (h:∀ x∈dD l t,∀ p,0<=p/\p<=7->cT t x.2.2.1.1 p=true->bM t x.2.2.1.1 p+c9 (λy=>bM y x.2.2.1.1 p) l<=10000):gu l t=false:=by
 unfold gu;cases hk:t.2.1 != 1
 ·show(dD l t).any (λx=>lV x t (dD l t))=false;rw[uc1];intro x hx hov;unfold lV at hov;have hov:(bif cE t.2.2.1.1 t.2.2.1.2.1 x.2.2.1.1 then kH (dD l t) x.2.2.1.1 else false)=true:=hov;cases hin:cE t.2.2.1.1 t.2.2.1.2.1 x.2.2.1.1
  ·rw[hin] at hov; cases hov
  ·rw[hin] at hov;have hov:kH (dD l t) x.2.2.1.1=true:=hov;obtain⟨p,hp,hs⟩:=qd0 hov;have hh:=h x hx p hp;generalize x.2.2.1.1=d at hin hs hh;have htt:=Fl ht (d:=d) hp;have hrl:∀ y∈l,0<=bM (dV t y) d p/\bM (dV t y) d p<=10000/\bM (dV t y) d p<=bM y d p/\((per t).toNat.testBit p.toNat=false->bM (dV t y) d p=0):=λy hy=>by
    have hry:=(hl y hy).per;have h0:=Fl (hl y hy) (d:=d) hp;rw[nC (E9 ht.per hry).2 hp];by_cases hra:cT (dV t y) d p=true
    ·have h2:=qaj ht.per hry hra;have hbq:=(hl y hy).bp (G0 h2.1);rw[if_pos hra];have e1:bM y d p=jL y:=by rw[nC ⟨ue3 (by decide) hry.1,hry.2⟩ hp,if_pos h2.1]
     have e2:jL (dV t y)=jL y:=rfl;rw[e1,e2];exact⟨ue3 (by decide) hbq.1,hbq.2,ufb _,λhb=>by rw[h2.2] at hb; cases hb⟩
    ·rw[if_neg hra];exact⟨ufb _,by decide,h0.1,λ_=>rfl⟩
   have hsum:lk d p (dD l t) 0=bM t d p+c9 (λy=>bM (dV t y) d p) l:=by
    have hparts:∀ y∈dD l t,0<=bM y d p/\bM y d p<=10000:=λy hy=>by
     rw[uO] at hy;rcases ueg.1 hy with rfl|hy
     ·exact htt
     ·obtain⟨z,hz,rfl⟩:=ue7.1 hy;exact⟨(hrl z hz).1,(hrl z hz).2.1⟩
    have hlen:(0:Int)+10000*((dD l t).length:Int)<=1000000000:=by
     rw[uO,uc7,ud0]; omega
    have h1:lk d p (dD l t) 0=0+c9 (λy=>bM y d p) (dD l t):=LL (dD l t) 0 hparts (ufb _) hlen;exact VE h1 (Vx (λy=>bM y d p) t l) rfl
   cases hb:(per t).toNat.testBit p.toNat
   ·have hz:=Vt (g:=λy=>bM (dV t y) d p) l (λy hy=>(hrl y hy).2.2.2 hb);rw[hz] at hsum;exact NV hsum (ue4 (ue5 _)) htt.2 hs
   ·have hact:cT t d p=true:=by
     unfold cT;rw[hin,hb,show(t.2.1==1)=true by simpa using hk]; rfl
    have hle:c9 (λy=>bM (dV t y) d p) l<=c9 (λy=>bM y d p) l:=LM l λy hy=>(hrl y hy).2.2.1;exact NV hsum (Int.add_le_add_left hle _) (hh hact) hs
 ·rfl
open Go.Ab.Fr renaming val->Jv,need->Jd,br->Jb
def kS {n:Nat} (h:(n:Int)<=9223372036854775807):InK (n:Int) 0 n:=⟨rfl,ufb _,ub2 _,h⟩
def w7 {T σ ρ:Type} {stp:Int->T->σ->Fr (σ ⊕ ρ)} (h:∀ i e s,(stp i e s).ok):(l:List T)->(i:Int)->(s:σ)->gS stp i l s
 |[],_,_=>trivial
 |e::l,i,s=>⟨h i e s,by
  split
  ·exact w7 h l _ _
  ·trivial⟩
def DY {T σ:Type} {stp:Int->T->σ->Fr σ} (h:∀ i e s,(stp i e s).ok):(l:List T)->(i:Int)->(s:σ)->fF stp i l s
 |[],_,_=>trivial
 |e::l,i,s=>⟨h i e s,DY h l _ _⟩
def D2 {T σ:Type} {stp:Int->T->σ->Fr σ} {f:σ->T->σ} (h:∀ i e s,(stp i e s).get=f s e):(l:List T)->(i:Int)->(s:σ)->cf stp i l s=l.foldl f s
 |[],_,_=>rfl
 |e::l,i,s=>by
  show cf stp (i+1) l (stp i e s).get=_;rw[h];exact D2 h l _ _
def J5 {T ρ:Type} {stp:Int->T->Unit->Fr (Unit ⊕ ρ)} {g:T->Bool} {r:Int->ρ} (h:∀ i e,(stp i e ()).get=bif g e then .inr (r i) else .inl ()):(l:List T)->(i:Int)->dJ stp i l ()=match dI g l i with
  |some j=>.inr (r j)
  |none=>.inl ()
 |[],_=>rfl
 |e::l,i=>by
  unfold dJ dI;rw[h];cases hg:g e
  ·exact J5 h l _
  ·rfl
def iO {α:Type} {t:Fr α} {p q:Prop} {v:α} (h1:p) (h2:q) (h:t.ok/\t.get=v):(Jd p (Jd q t)).ok/\(Jd p (Jd q t)).get=v:=⟨⟨h1,h2,h.1⟩,h.2⟩
def Ph:aa prog 125 jN:=conv qij _ _ (λw F x vs hr _=>by
 obtain⟨s,id,_⟩:=x;obtain⟨v,vs',rfl,hv,_⟩:=hr;refine iO (kS (AR hv).1) (w7 (stp:=EV (id,s) True) (λ_ _ _=>⟨uT,λ_=>uT,λ_=>uT⟩) _ _ _) ?_;have h:zL (id,s) ()=match dI (λa=>fZ a==id) (bP s) 0 with
  |some j=>.inr ((j,()),())
  |none=>.inl ():=J5 (λi e=>by
   show(Jb (e.1.1==id) _ _).get=bif fZ e==id then _ else _;cases fZ e==id<;>rfl) _ _
 show(Jb (bi (zL (id,s) ())) (Jv (-1,())) (Jv ((ba _ (zL (id,s) ())).1.1,()))).ok/\_=(((dI (λa=>fZ a==id) (bP s) 0).getD (-1)),());rw[h];cases dI (λa=>fZ a==id) (bP s) 0
 ·exact⟨⟨λ_=>uT,λ_=>uT⟩,rfl⟩
 ·exact⟨⟨λ_=>uT,λ_=>uT⟩,rfl⟩)
def qen:aa prog 129 jc:=conv qix _ _ (λw F x vs hr _=>by
 obtain⟨s,id,_⟩:=x;obtain⟨v,vs',rfl,hv,_⟩:=hr;refine iO (kS (AR hv).2.1) (w7 (stp:=EZ (id,s) True) (λ_ _ _=>⟨uT,λ_=>uT,λ_=>uT⟩) _ _ _) ?_;have h:zO (id,s) ()=match dI (λa=>gO a==id) (bU s) 0 with
  |some j=>.inr ((j,()),())
  |none=>.inl ():=J5 (λi e=>by
   show(Jb (e.1.1==id) _ _).get=bif gO e==id then _ else _;cases gO e==id<;>rfl) _ _
 show(Jb (bi (zO (id,s) ())) (Jv (-1,())) (Jv ((ba _ (zO (id,s) ())).1.1,()))).ok/\_=(((dI (λa=>gO a==id) (bU s) 0).getD (-1)),());rw[h];cases dI (λa=>gO a==id) (bU s) 0
 ·exact⟨⟨λ_=>uT,λ_=>uT⟩,rfl⟩
 ·exact⟨⟨λ_=>uT,λ_=>uT⟩,rfl⟩)
def Pk:aa prog 89 oI:=conv qit _ _ (λw F x vs hr _=>by
 obtain⟨j,_⟩:=x;obtain⟨v,vs',rfl,hv,_⟩:=hr;refine iO (kS (DG hv)) (DY (stp:=EX j True) (λ_ _ _=>⟨uT,λ_=>uT,λ_=>⟨uT,uT⟩,λ_=>uT⟩) _ _ _) ⟨uT,?_⟩;show(J9 j 0,())=(yV j.2.1,());have h:J9 j 0=yV j.2.1:=D2 (λi e s=>by
  show(Jb (bif aF e==7 then decide (dp e>s) else false) _ _).get=sx s e;unfold sx;cases aF e==7
  ·rfl
  ·by_cases h:s<dp e
   ·rw[if_pos h,show(bif true then decide (dp e>s) else false)=true from ud8 h]; rfl
   ·rw[if_neg h,show(bif true then decide (dp e>s) else false)=false from udt h]; rfl) _ _ _
 rw[h])
def pT (k:Int) (s:Int) (a:aN.den):Int:=bif a.2.1==k then I6.wrap (s+a.2.2.1) else s
def ud (g:aB.den) (k:Int):Int:=g.2.1.foldl (pT k) 0
def jg:Ct:=⟨[.d aB,.d i64],[i64],λx=>(ud x.1 x.2.1,()),λ_=>[]⟩
def qfm:aa prog 201 jg:=conv qjn _ _ (λw F x vs hr _=>by
 obtain⟨g,k,_⟩:=x;obtain⟨v,vs',rfl,hv,_⟩:=hr;refine iO (kS (zp hv)) (DY (stp:=Fc (k,g) True) (λ_ _ _=>⟨uT,λ_=>⟨uT,uT⟩,λ_=>uT⟩) _ _ _) ⟨uT,?_⟩;show(JB (k,g) 0,())=(ud g k,());have h:JB (k,g) 0=ud g k:=D2 (λi e s=>by
  show(Jb (e.2.1==k) _ _).get=pT k s e;unfold pT;cases e.2.1==k<;>rfl) _ _ _
 rw[h])
def OV (k:List ak.den×List ak.den):(l:List ak.den)->(i:Int)->0<=i->i+(l.length:Int)<=(k.2.length:Int)->gS (rc k True) i l ()/\dJ (rc k True) i l ()=bif dm l ((k.2.drop i.toNat).take l.length) then .inl () else .inr ((false,()),())
 |[],i,_,_=>⟨uT,rfl⟩
 |e::l,i,h0,h1=>by
  rw[uc7] at h1;have hlt:i.toNat<k.2.length:=by omega
  have hg:k.2.getD i.toNat ak.dflt=k.2[i.toNat]:=by rw[uah,uap hlt]; rfl
  have hd:=ual hlt;obtain⟨r1,r2⟩:=OV k l (i+1) (by omega) (by omega);have hnt:(i+1).toNat=i.toNat+1:=by omega
  rw[hnt] at r2;have hb:0<=i/\i<((List.length k.2:Nat):Int):=⟨h0,by omega⟩;have hs:(rc k True i e ()).get=bif gl e k.2[i.toNat] then .inl () else .inr ((false,()),()):=by
   show(Jb (!(gl e (k.2.getD i.toNat ak.dflt))) _ _).get=_;rw[hg];cases gl e k.2[i.toNat]<;>rfl
  have hok:(rc k True i e ()).ok:=⟨uT,hb,λ_=>uT,λ_=>uT⟩;rw[hd,uc7,List.take_succ_cons];unfold gS dJ;rw[hs];show _/\_=bif gl e k.2[i.toNat]&&dm l ((k.2.drop (i.toNat+1)).take l.length) then _ else _;cases hc:gl e k.2[i.toNat]
  ·exact⟨⟨hok,uT⟩,rfl⟩
  ·exact⟨⟨hok,r1⟩,r2⟩
def qem:aa prog 194 iG:=conv qiu _ _ (λw F x vs hr _=>by
 obtain⟨a,b,_⟩:=x;obtain⟨v,vs',rfl,hv,_⟩:=hr;show(Iw (a,b,())).ok/\(Iw (a,b,())).get=(dm a b,());cases hl:((List.length (α:=ak.den) a:Nat):Int) != ((List.length (α:=ak.den) b:Nat):Int)
 ·have hl':((List.length (α:=ak.den) a:Nat):Int)=((List.length (α:=ak.den) b:Nat):Int):=by simpa using hl
  have hl:List.length (α:=ak.den) a=List.length (α:=ak.den) b:=by omega
  refine ax (by show(((List.length (α:=ak.den) a:Nat):Int) != ((List.length (α:=ak.den) b:Nat):Int))=false; rw[hl]; simp) ?_;obtain⟨r1,r2⟩:=OV (a,b) a 0 (ufb _) (by show 0+((List.length (α:=ak.den) a:Nat):Int)<=((List.length (α:=ak.den) b:Nat):Int); omega);refine iO (kS (fw hv)) r1 ?_;show(Jb (bi (zN (a,b) ())) (Jv (true,())) (Jv ((ba _ (zN (a,b) ())).1.1,()))).ok/\_;have r3:zN (a,b) ()=bif dm a b then .inl () else .inr ((false,()),()):=by
   show dJ (rc (a,b) True) 0 a ()=_;rw[r2];show(bif dm a ((List.drop 0 b).take (List.length a)) then _ else _)=_;rw[ued,hl,List.take_length]
  rw[r3];cases dm a b
  ·exact⟨⟨λ_=>uT,λ_=>uT⟩,rfl⟩
  ·exact⟨⟨λ_=>uT,λ_=>uT⟩,rfl⟩
 ·refine ay hl ⟨uT,?_⟩;have hf:dm a b=false:=by
   cases hc:dm a b
   ·rfl
   ·rw[xa.1 hc] at hl; simp at hl
  rw[hf];rfl)
def qeo (c:cO.den):(Da (c,())).get.1=vf c:=by
 unfold vf Iu Da;simp only[l5];have e:∀ a b c,(fM.f (a,b,c,())).1=dA a b c:=λ_ _ _=>rfl;simp only[e,dA]
 grind
def qep:aa prog 123 uU:=conv qiy _ _ (λ_ _ x _ _ _=>by
 refine⟨⟨λ_=>uT,λ_=>⟨λ_=>uT,λ_=>uT⟩⟩,?_⟩;show((Da (x.1,())).get.1,())=_;rw[qeo])
def qef (a:aN.den):(vV (a,())).get.1=gD a:=by
 unfold gD vU vV;simp only[l5,jE];have e:∀ a b c,(fM.f (a,b,c,())).1=dA a b c:=λ_ _ _=>rfl;simp only[e,dA];rw[udv]
 grind
def Pj:aa prog 124 l6:=conv qik _ _ (λ_ _ x _ _ _=>by
 refine⟨?_,?_⟩
 ·show(vV (x.1,())).ok;unfold vV
  repeat' first|exact trivial|(refine⟨λ_=>?_,λ_=>?_⟩)
 show((vV (x.1,())).get.1,())=_;rw[qef])
def qzh (t:av.den):EE t=dN t:=by
 unfold EE zn dN qv;simp only[l5,jE];have e:∀ a b c,(oJ.f (a,b,c,())).1=dA a b c:=λ_ _ _=>rfl;have e1:∀ a b x,(dv.f ((a,b,()),[x],())).1=dA x a b:=λa b x=>by
  show gQ a b [x]=_;unfold gQ dA;simp
 have e3:∀ a b x y z,(dv.f ((a,b,()),[x,y,z],())).1=(dA x a b&&(dA y a b&&dA z a b)):=λa b x y z=>by
  show gQ a b [x,y,z]=_;unfold gQ dA;simp
 have e2:∀ a b x y,(dv.f ((a,b,()),[x,y],())).1=(dA x a b&&dA y a b):=λa b x y=>by
  show gQ a b [x,y]=_;unfold gQ dA;simp
 have em:(mO.f (t.2.2.1,())).1=(vm.f (t.2.2.1,())).1:=by
  show kV t.2.2.1.1 t.2.2.1.2.1=Kk t.2.2.1;unfold kV Kk e9 dd
  grind
 simp only[e,e1,e2,e3,em];simp only[dA];rw[udv]
 grind
def qfq:aa prog 34 vq:=conv qzi _ _ (λ_ _ x _ _ _=>⟨uT,by
 show(EE x.1,())=(dN x.1,());rw[qzh]⟩)
open Go.Ab.Fr renaming val->Jv,need->Jd,br->Jb
noncomputable def YV:Cx:=cx [(201,jg),(124,l6),(194,iG),(89,oI)] []
def FT:CxOK prog YV:=aJ aG ⟨qfm,Pj,qem,Pk,uT⟩ trivial
def qjk (x:aq [.d aB]):Fr (ae [cn]):=
 let b:=List.length x.1.2.1;let a:=wj (x.1,0,0,0,0,0,false,()) (0,(jg.f (x.1,2,())).1,0,(jg.f (x.1,3,())).1,0,true,());Jd (InK ((b:Int)) 0 b) (Jd (qu4 (x.1,0,0,0,0,0,false,()) (0,(jg.f (x.1,2,())).1,0,(jg.f (x.1,3,())).1,0,true,())) (Jb (decide (a.2.1>a.1)) (Jv ((a.2.1,a.2),())) (Jv (a,()))))
def qjl:aa prog 174 (aL [.d aB] [cn] qjk):=
 bz FT qs6
def Qw (x:aq [.d cr,.d cr]):Fr (ae [.bool]):=
 let b:=x.1.2.1;let a:=x.2.1;Jv (bif bif x.1.1.1==a.1.1&&(x.1.1.2.1==a.1.2.1&&true) then b.1==a.2.1.1&&(b.2.1==a.2.1.2.1&&(b.2.2.1==a.2.1.2.2.1&&(b.2.2.2.1==a.2.1.2.2.2.1&&true))) else false then (iG.f (x.1.2.2.1,a.2.2.1,())).1 else false,())
def qjj:aa prog 162 (aL [.d cr,.d cr] [.bool] Qw):=
 aH FT f162
def Qv (x:aq [.d ar,.d ar]):Fr (ae [.bool]):=
 let b:=x.1.2.2.2;let a:=x.2.1.2.2.2;Jv (bif bif bif bif bif x.1.1==x.2.1.1 then x.1.2.1==x.2.1.2.1 else false then x.1.2.2.1==x.2.1.2.2.1 else false then b.1.1==a.1.1&&(b.1.2.1==a.1.2.1&&(b.1.2.2.1==a.1.2.2.1&&(b.1.2.2.2.1==a.1.2.2.2.1&&true))) else false then b.2.2.1==a.2.2.1 else false then (iG.f (b.2.1,a.2.1,())).1 else false,())
def qjf:aa prog 163 (aL [.d ar,.d ar] [.bool] Qv):=
 aH FT f163
def uY:Ct:=⟨[.d cr,.d cr],[.bool],λx=>(Qw x).get,λ_=>[]⟩
def yr:Ct:=⟨[.d ar,.d ar],[.bool],λx=>(Qv x).get,λ_=>[]⟩
def qfo:aa prog 162 uY:=conv qjj _ _ (λ_ _ _ _ _ _=>⟨uT,rfl⟩)
def qej:aa prog 163 yr:=conv qjf _ _ (λ_ _ _ _ _ _=>⟨uT,rfl⟩)
def qfn {a b:cr.den}:(uY.f (a,b,())).1=true↔a=b:=by
 obtain⟨⟨a1,a2,_⟩,⟨a3,a4,a5,a6,_⟩,a7,_⟩:=a;obtain⟨⟨b1,b2,_⟩,⟨b3,b4,b5,b6,_⟩,b7,_⟩:=b;show(bif bif a1==b1&&(a2==b2&&true) then a3==b3&&(a4==b4&&(a5==b5&&(a6==b6&&true))) else false then dm a7 b7 else false)=true↔_;have:=@xa a7 b7;simp only[cond_eq_ite,uee]
 grind
def qei {a b:ar.den}:(yr.f (a,b,())).1=true↔a=b:=by
 obtain⟨a1,a2,a8,⟨a3,a4,a5,a6,_⟩,a7,a9,_⟩:=a;obtain⟨b1,b2,b8,⟨b3,b4,b5,b6,_⟩,b7,b9,_⟩:=b;show(bif bif bif bif bif a1==b1 then a2==b2 else false then a8==b8 else false then a3==b3&&(a4==b4&&(a5==b5&&(a6==b6&&true))) else false then a9==b9 else false then dm a7 b7 else false)=true↔_;have:=@xa a7 b7;simp only[cond_eq_ite,uee]
 grind
def Ta (f:factT.den):factT.den:=(Db (f,())).get.1
def Cj:Ct:=⟨[.d factT],[factT],λx=>(Ta x.1,()),λ_=>[]⟩
def qet:aa prog 120 Cj:=conv qi4 _ _ (λ_ _ x _ _ _=>⟨by show(Db x).ok; unfold Db; (repeat' first|exact trivial|(refine⟨λ_=>?_,λ_=>?_⟩)),rfl⟩)
def sH (g:Int) (a:aN.den):Int:=bif a.2.1==1 then a.2.2.1 else g
def sZ (o:Bool) (a:aN.den):Bool:=bif a.2.1==4 then false else bif a.2.1==5 then true else o
def qai {a:aN.den} (h:dA a.2.1 1 5=false):(a.2.1==1)=false/\(a.2.1==2)=false/\(a.2.1==3)=false/\(a.2.1==4)=false/\(a.2.1==5)=false:=by
 unfold dA at h;simp only[cond_eq_ite] at h
 grind
def qag (a:aN.den) (g s x b y:Int) (o:Bool):iD (g,s,x,b,y,o,()) a=(sH g a,pT 2 s a,x,pT 3 b a,y,sZ o a,()):=by
 unfold iD sH pT sZ;cases h:dA a.2.1 1 5
 ·obtain⟨h1,h2,h3,h4,h5⟩:=qai h;rw[h1,h2,h3,h4,h5];rfl
 ·have h5:=SZ (Wn.1 h);rcases h5 with e|e|e|e|e<;>rw[e]<;>rfl
def Ve:(l:List aN.den)->(g s x b y:Int)->(o:Bool)->l.foldl iD (g,s,x,b,y,o,())=(l.foldl sH g,l.foldl (pT 2) s,x,l.foldl (pT 3) b,y,l.foldl sZ o,())
 |[],_,_,_,_,_,_=>rfl
 |a::l,g,s,x,b,y,o=>by
  rw[List.foldl_cons,qag];exact Ve l _ _ _ _ _ _
def Vh (k:aB.den×cn.den):(l:List aN.den)->(i:Int)->(g s x b y:Int)->(o:Bool)->fF (rg k True) i l (g,s,x,b,y,o,())/\cf (rg k True) i l (g,s,x,b,y,o,())=(l.foldl sH g,s,x,b,y,l.foldl sZ o,())
 |[],_,_,_,_,_,_,_=>⟨uT,rfl⟩
 |a::l,i,g,s,x,b,y,o=>by
  have h:(rg k True i a (g,s,x,b,y,o,())).get=(sH g a,s,x,b,y,sZ o a,()):=by
   show(Jb (a.2.1==1) _ (Jb (a.2.1==4) _ (Jb (a.2.1==5) _ _))).get=_;unfold sH sZ;by_cases h1:a.2.1=1
   ·rw[h1]; rfl
   ·rw[show(a.2.1==1)=false by simpa using h1];cases a.2.1==4
    ·cases a.2.1==5<;>rfl
    ·rfl
  have r:=Vh k l (i+1) (sH g a) s x b y (sZ o a);refine⟨⟨⟨uT,λ_=>⟨uT,uT⟩,λ_=>⟨λ_=>uT,λ_=>⟨λ_=>uT,λ_=>uT⟩⟩⟩,?_⟩,?_⟩
  ·rw[h]; exact r.1
  ·show cf (rg k True) (i+1) l (rg k True i a (g,s,x,b,y,o,())).get=_;rw[h]; exact r.2
def p8 (g:aB.den):cn.den:=bif decide ((cL g).2.1>(cL g).1) then ((cL g).2.1,(cL g).2) else cL g
def mP:Ct:=⟨[.d aB],[cn],λx=>(p8 x.1,()),λ_=>[]⟩
def qfl:aa prog 174 mP:=conv qjl _ _ (λw F x vs hr _=>by
 obtain⟨g,_⟩:=x;obtain⟨v,vs',rfl,hv,_⟩:=hr;have r:=Vh (g,0,0,0,0,0,false,()) g.2.1 0 0 (ud g 2) 0 (ud g 3) 0 true;refine iO (kS (zp hv)) r.1 ?_;have e:wj (g,0,0,0,0,0,false,()) (0,ud g 2,0,ud g 3,0,true,())=cL g:=by
  unfold cL;rw[Ve];exact r.2
 have key:∀ p:cn.den,p=cL g->(Jb (decide (p.2.1>p.1)) (Jv ((p.2.1,p.2),())) (Jv (p,()))).ok/\(Jb (decide (p.2.1>p.1)) (Jv ((p.2.1,p.2),())) (Jv (p,()))).get=(p8 g,()):=λp hp=>by
  rw[hp];unfold p8;cases decide ((cL g).2.1>(cL g).1)
  ·exact⟨⟨λ_=>uT,λ_=>uT⟩,rfl⟩
  ·exact⟨⟨λ_=>uT,λ_=>uT⟩,rfl⟩
 exact key _ e)
open Go.Ab.Fr renaming val->Jv,need->Jd,br->Jb
noncomputable def YW:Cx:=cx [(162,uY),(163,yr)] []
def YX:CxOK prog YW:=aJ aG ⟨qfo,qej,uT⟩ trivial
def vW (x:aq [.d factT,.d factT]):Fr (ae [.bool]):=
 let k:=x.1.2.2;let h:=x.2.1.2.2;let b:=k.2.2.2.2.2;let l:=b.1.2.2;let c:=b.2.2.1.2.2;let a:=h.2.2.2.2.2;let m:=a.1.2.2;let g:=a.2.2.1.2.2;Jb (bif bif bif bif x.1.1 != x.2.1.1 then true else x.1.2.1 != x.2.1.2.1 then true else k.1 != h.1 then true else k.2.1 != h.2.1 then true else k.2.2.1 != h.2.2.1) (Jv (false,())) (Jb (bif bif !(b.1.1==a.1.1&&(b.1.2.1==a.1.2.1&&(l.1==m.1&&(l.2.1==m.2.1&&(l.2.2.1==m.2.2.1&&(l.2.2.2.1==m.2.2.2.1&&true)))))) then true else !(b.2.1.1==a.2.1.1&&(b.2.1.2.1==a.2.1.2.1&&(b.2.1.2.2.1==a.2.1.2.2.1&&true))) then true else !(b.2.2.1.1==a.2.2.1.1&&(b.2.2.1.2.1==a.2.2.1.2.1&&(c.1.1==g.1.1&&(c.1.2.1==g.1.2.1&&true)&&(c.2.1==g.2.1&&(c.2.2.1==g.2.2.1&&(c.2.2.2.1==g.2.2.2.1&&(c.2.2.2.2.1==g.2.2.2.2.1&&(c.2.2.2.2.2.1==g.2.2.2.2.2.1&&true))))))))) (Jv (false,())) (Jv (bif (uY.f (k.2.2.2.1,h.2.2.2.1,())).1 then (yr.f (k.2.2.2.2.1,h.2.2.2.2.1,())).1 else false,())))
def qjg:aa prog 119 (aL [.d factT,.d factT] [.bool] vW):=
 aH YX f119
def uX:Ct:=⟨[.d factT,.d factT],[.bool],λx=>(vW x).get,λ_=>[]⟩
def qe0:aa prog 119 uX:=conv qjg _ _ (λ_ _ x _ _ _=>⟨by show(vW x).ok; unfold vW; (repeat' first|exact trivial|(refine⟨λ_=>?_,λ_=>?_⟩)),rfl⟩)
def qez {a b:factT.den}:(uX.f (a,b,())).1=true↔a=b:=by
 obtain⟨a1,a2,a3,a4,a5,a6,a7,⟨c1,c2,c3,c4,c5,c6,⟨⟩⟩,⟨d1,d2,d3,⟨⟩⟩,⟨t1,t2,⟨t3,t4,⟨⟩⟩,t5,t6,t7,t8,t9,⟨⟩⟩,⟨⟩⟩:=a;obtain⟨b1,b2,b3,b4,b5,b6,b7,⟨e1,e2,e3,e4,e5,e6,⟨⟩⟩,⟨f1,f2,f3,⟨⟩⟩,⟨u1,u2,⟨u3,u4,⟨⟩⟩,u5,u6,u7,u8,u9,⟨⟩⟩,⟨⟩⟩:=b;have h1:=@qfn a6 b6;have h2:=@qei a7 b7;show(vW _).get.1=true↔_;unfold vW;simp only[l5,jE];constructor
 ·intro h;cases hc:(bif bif bif bif a1 != b1 then true else a2 != b2 then true else a3 != b3 then true else a4 != b4 then true else a5 != b5)<;>simp only[hc] at h
  ·cases hd:(bif bif !(c1==e1&&(c2==e2&&(c3==e3&&(c4==e4&&(c5==e5&&(c6==e6&&true)))))) then true else !(d1==f1&&(d2==f2&&(d3==f3&&true))) then true else !(t1==u1&&(t2==u2&&((t3==u3&&(t4==u4&&true))&&(t5==u5&&(t6==u6&&(t7==u7&&(t8==u8&&(t9==u9&&true)))))))))<;>simp only[hd] at h
   ·have h:(bif (uY.f (a6,b6,())).1 then (yr.f (a7,b7,())).1 else false)=true:=h;cases h3:(uY.f (a6,b6,())).1<;>rw[h3] at h
    ·cases h
    ·have h6:=h1.1 h3;have h7:=h2.1 h;simp at hc hd
     grind
   ·cases h
  ·cases h
 ·intro h;cases h;simp[h1.2 rfl,h2.2 rfl]
open Go.Ab.Fr renaming val->Jv,need->Jd,br->Jb
noncomputable def qd6:List (FuncId×Ct):=[(119,uX),(120,Cj),(121,kE),(122,hP),(123,uU),(124,l6),(34,vq),(174,mP)]
noncomputable def YY:Cx:=cx qd6 []
def MJ:CxOK prog YY:=aJ aG ⟨qe0,qet,TN,KO,qep,Pj,qfq,qfl,uT⟩ trivial
def sD (x:aq [.d factT]):Fr (ae [.bool]):=
 let c:=x.1.2.1;let a:=x.1.2.2;let b:=a.2.2.2.2;Jb (bif bif decide (x.1.1<1) then true else decide (x.1.1>292194) then true else !(uX.f (x.1,(Cj.f (x.1,())).1,())).1) (Jv (false,())) (Jb (c==1) (Jv (bif bif decide (a.1>=1) then decide (a.1<=1000000000) else false then (kE.f (a.2.2.2.1,())).1 else false,())) (Jb (c==2) (Jv (bif bif bif decide (a.1>=1) then decide (a.1<=1000000000) else false then (hP.f (b.1,())).1 else false then b.1.1==x.1.1 else false,())) (Jb (c==3) (Jv (bif bif bif decide (a.1>=1) then decide (a.1<=1000000000) else false then decide (a.2.1>=1) else false then decide (a.2.1<=1000000000000000) else false,())) (Jb (c==4) (Jv (bif (uU.f (b.2.1,())).1 then b.2.1.2.2.2.2.1==x.1.1 else false,())) (Jb (c==5) (Jv (bif bif bif decide (a.1>=1) then decide (a.1<=1000000000) else false then (l6.f (b.2.2.1,())).1 else false then b.2.2.1.1==x.1.1 else false,())) (Jb (c==6) (Jv ((vq.f (b.2.2.2.1,())).1,())) (Jb (c==7) (Jv (bif decide (a.2.2.1>=1) then decide (a.2.2.1<=x.1.1) else false,())) (Jv (false,())))))))))
def qje:aa prog 82 (aL [.d factT] [.bool] sD):=
 aH MJ f82
def qja (x:aq [.d aB,.d aN]):Fr (ae [aB,i64]):=
 let m:=x.2.1.2.1;let h:=mP.f (x.1,());let k:=h.1.2.2.2.2.2.1;let g:=x.1.2.1;let l:=((x.1.1,[]++g++[x.2.1],()),0,());let c:=((List.length g):Int);let b:=((0,0,0,0,0,0,()),[],());let a:=bif bif m==2 then decide (I6.wrap (h.1.2.1+x.2.1.2.2.1)>1000000000000000) else false then true else bif m==3 then decide (I6.wrap (h.1.2.2.2.1+x.2.1.2.2.1)>1000000000000000) else false;Jb (!(l6.f (x.2.1,())).1) (Jv (b,1,())) (Jb (decide (c>=2000)) (Jv (b,2,())) (Jb (decide (c>0)) (Jd (0<=I6.wrap (c-1)/\I6.wrap (c-1)<c) (Jb (decide (x.2.1.1<(List.getD g (I6.wrap (c-1)).toNat aN.dflt).1)) (Jv (b,4,())) (Jb (bif bif k then m==5 else false then true else bif !k then m != 5 else false) (Jv (b,10,())) (Jb a (Jv (b,5,())) (Jd ((List.nil (α:=aN.den)).length+List.length g<=maxLen/\((List.nil (α:=aN.den)).length+List.length g)*24<=140737488355328) (Jd (([]++g).length + [x.2.1].length<=maxLen/\(([]++g).length + [x.2.1].length)*24<=140737488355328) (Jv l))))))) (Jb (decide (x.2.1.1<x.1.1.2.2.2.2.1)) (Jv (b,4,())) (Jb (bif bif k then m==5 else false then true else bif !k then m != 5 else false) (Jv (b,10,())) (Jb a (Jv (b,5,())) (Jd ((List.nil (α:=aN.den)).length+List.length g<=maxLen/\((List.nil (α:=aN.den)).length+List.length g)*24<=140737488355328) (Jd (([]++g).length + [x.2.1].length<=maxLen/\(([]++g).length + [x.2.1].length)*24<=140737488355328) (Jv l))))))))
def qjb:aa prog 132 (aL [.d aB,.d aN] [aB,i64] qja):=
 aH MJ f132
open Go.Ab.Fr renaming val->Jv,need->Jd,br->Jb
def se {bk k id amt day s1 s2 r1 r2 r3 r4 h1 h2 h3 q1 q2 q3 q4 h4 c1 c2 c3 c4 c5 c6 d1 d2 d3 t1 t2 t3 t4 t5 t6 t7 t8 t9:Int} {cs ds:List ak.den}:gC (bk,k,id,amt,day,((s1,s2,()),(r1,r2,r3,r4,()),cs,()),(h1,h2,h3,(q1,q2,q3,q4,()),ds,h4,()),(c1,c2,c3,c4,c5,c6,()),(d1,d2,d3,()),(t1,t2,(t3,t4,()),t5,t6,t7,t8,t9,()),())=true ↔
  ((id=0/\amt=0/\day=0)/\(s1=0/\s2=0/\r1=0/\r2=0/\r3=0/\r4=0/\cs=[])/\(h1=0/\h2=0/\h3=0/\q1=0/\q2=0/\q3=0/\q4=0/\ds=[]/\h4=0)/\(c1=0/\c2=0/\c3=0/\c4=0/\c5=0/\c6=0)/\(d1=0/\d2=0/\d3=0) /\
   t1=0/\t2=0/\t3=0/\t4=0/\t5=0/\t6=0/\t7=0/\t8=0/\t9=0):=by
 unfold gC It;simp only[jE];simp
 grind
def qv5 {f:factT.den} (hk:1<=aF f/\aF f<=7):(uX.f (f,Ta f,())).1=gC (pu f):=by
 rw[udv,qez];obtain⟨bk,k,id,amt,day,⟨⟨s1,s2,⟨⟩⟩,⟨r1,r2,r3,r4,⟨⟩⟩,cs,⟨⟩⟩,⟨h1,h2,h3,⟨q1,q2,q3,q4,⟨⟩⟩,ds,h4,⟨⟩⟩,⟨c1,c2,c3,c4,c5,c6,⟨⟩⟩,⟨d1,d2,d3,⟨⟩⟩,⟨t1,t2,⟨t3,t4,⟨⟩⟩,t5,t6,t7,t8,t9,⟨⟩⟩,⟨⟩⟩:=f;have h7:k=1\/k=2\/k=3\/k=4\/k=5\/k=6\/k=7:=pz hk;rcases h7 with rfl|rfl|rfl|rfl|rfl|rfl|rfl
 ·show(bk,1,id,amt,day,((s1,s2,()),(r1,r2,r3,r4,()),cs,()),(h1,h2,h3,(q1,q2,q3,q4,()),ds,h4,()),(c1,c2,c3,c4,c5,c6,()),(d1,d2,d3,()),(t1,t2,(t3,t4,()),t5,t6,t7,t8,t9,()),())=(bk,1,id,0,0,((s1,s2,()),(r1,r2,r3,r4,()),cs,()),(0,0,0,(0,0,0,0,()),[],0,()),(0,0,0,0,0,0,()),(0,0,0,()),(0,0,(0,0,()),0,0,0,0,0,()),())↔gC (bk,1,0,amt,day,((0,0,()),(0,0,0,0,()),[],()),(h1,h2,h3,(q1,q2,q3,q4,()),ds,h4,()),(c1,c2,c3,c4,c5,c6,()),(d1,d2,d3,()),(t1,t2,(t3,t4,()),t5,t6,t7,t8,t9,()),())=true;rw[se];simp only[uee]
  grind
 ·show(bk,2,id,amt,day,((s1,s2,()),(r1,r2,r3,r4,()),cs,()),(h1,h2,h3,(q1,q2,q3,q4,()),ds,h4,()),(c1,c2,c3,c4,c5,c6,()),(d1,d2,d3,()),(t1,t2,(t3,t4,()),t5,t6,t7,t8,t9,()),())=(bk,2,id,0,0,((0,0,()),(0,0,0,0,()),[],()),(h1,h2,h3,(q1,q2,q3,q4,()),ds,h4,()),(0,0,0,0,0,0,()),(0,0,0,()),(0,0,(0,0,()),0,0,0,0,0,()),())↔gC (bk,2,0,amt,day,((s1,s2,()),(r1,r2,r3,r4,()),cs,()),(0,0,0,(0,0,0,0,()),[],0,()),(c1,c2,c3,c4,c5,c6,()),(d1,d2,d3,()),(t1,t2,(t3,t4,()),t5,t6,t7,t8,t9,()),())=true;rw[se];simp only[uee]
  grind
 ·show(bk,3,id,amt,day,((s1,s2,()),(r1,r2,r3,r4,()),cs,()),(h1,h2,h3,(q1,q2,q3,q4,()),ds,h4,()),(c1,c2,c3,c4,c5,c6,()),(d1,d2,d3,()),(t1,t2,(t3,t4,()),t5,t6,t7,t8,t9,()),())=(bk,3,id,amt,0,((0,0,()),(0,0,0,0,()),[],()),(0,0,0,(0,0,0,0,()),[],0,()),(0,0,0,0,0,0,()),(0,0,0,()),(0,0,(0,0,()),0,0,0,0,0,()),())↔gC (bk,3,0,0,day,((s1,s2,()),(r1,r2,r3,r4,()),cs,()),(h1,h2,h3,(q1,q2,q3,q4,()),ds,h4,()),(c1,c2,c3,c4,c5,c6,()),(d1,d2,d3,()),(t1,t2,(t3,t4,()),t5,t6,t7,t8,t9,()),())=true;rw[se];simp only[uee]
  grind
 ·show(bk,4,id,amt,day,((s1,s2,()),(r1,r2,r3,r4,()),cs,()),(h1,h2,h3,(q1,q2,q3,q4,()),ds,h4,()),(c1,c2,c3,c4,c5,c6,()),(d1,d2,d3,()),(t1,t2,(t3,t4,()),t5,t6,t7,t8,t9,()),())=(bk,4,0,0,0,((0,0,()),(0,0,0,0,()),[],()),(0,0,0,(0,0,0,0,()),[],0,()),(c1,c2,c3,c4,c5,c6,()),(0,0,0,()),(0,0,(0,0,()),0,0,0,0,0,()),())↔gC (bk,4,id,amt,day,((s1,s2,()),(r1,r2,r3,r4,()),cs,()),(h1,h2,h3,(q1,q2,q3,q4,()),ds,h4,()),(0,0,0,0,0,0,()),(d1,d2,d3,()),(t1,t2,(t3,t4,()),t5,t6,t7,t8,t9,()),())=true;rw[se];simp only[uee]
  grind
 ·show(bk,5,id,amt,day,((s1,s2,()),(r1,r2,r3,r4,()),cs,()),(h1,h2,h3,(q1,q2,q3,q4,()),ds,h4,()),(c1,c2,c3,c4,c5,c6,()),(d1,d2,d3,()),(t1,t2,(t3,t4,()),t5,t6,t7,t8,t9,()),())=(bk,5,id,0,0,((0,0,()),(0,0,0,0,()),[],()),(0,0,0,(0,0,0,0,()),[],0,()),(0,0,0,0,0,0,()),(d1,d2,d3,()),(0,0,(0,0,()),0,0,0,0,0,()),())↔gC (bk,5,0,amt,day,((s1,s2,()),(r1,r2,r3,r4,()),cs,()),(h1,h2,h3,(q1,q2,q3,q4,()),ds,h4,()),(c1,c2,c3,c4,c5,c6,()),(0,0,0,()),(t1,t2,(t3,t4,()),t5,t6,t7,t8,t9,()),())=true;rw[se];simp only[uee]
  grind
 ·show(bk,6,id,amt,day,((s1,s2,()),(r1,r2,r3,r4,()),cs,()),(h1,h2,h3,(q1,q2,q3,q4,()),ds,h4,()),(c1,c2,c3,c4,c5,c6,()),(d1,d2,d3,()),(t1,t2,(t3,t4,()),t5,t6,t7,t8,t9,()),())=(bk,6,0,0,0,((0,0,()),(0,0,0,0,()),[],()),(0,0,0,(0,0,0,0,()),[],0,()),(0,0,0,0,0,0,()),(0,0,0,()),(t1,t2,(t3,t4,()),t5,t6,t7,t8,t9,()),())↔gC (bk,6,id,amt,day,((s1,s2,()),(r1,r2,r3,r4,()),cs,()),(h1,h2,h3,(q1,q2,q3,q4,()),ds,h4,()),(c1,c2,c3,c4,c5,c6,()),(d1,d2,d3,()),(0,0,(0,0,()),0,0,0,0,0,()),())=true;rw[se];simp only[uee]
  grind
 ·show(bk,7,id,amt,day,((s1,s2,()),(r1,r2,r3,r4,()),cs,()),(h1,h2,h3,(q1,q2,q3,q4,()),ds,h4,()),(c1,c2,c3,c4,c5,c6,()),(d1,d2,d3,()),(t1,t2,(t3,t4,()),t5,t6,t7,t8,t9,()),())=(bk,7,0,0,day,((0,0,()),(0,0,0,0,()),[],()),(0,0,0,(0,0,0,0,()),[],0,()),(0,0,0,0,0,0,()),(0,0,0,()),(0,0,(0,0,()),0,0,0,0,0,()),())↔gC (bk,7,id,amt,0,((s1,s2,()),(r1,r2,r3,r4,()),cs,()),(h1,h2,h3,(q1,q2,q3,q4,()),ds,h4,()),(c1,c2,c3,c4,c5,c6,()),(d1,d2,d3,()),(t1,t2,(t3,t4,()),t5,t6,t7,t8,t9,()),())=true;rw[se];simp only[uee]
  grind
def qey (f:factT.den):(sD (f,())).get.1=cC f:=by
 have hid:∀ a:Int,(bif decide (a>=1) then decide (a<=1000000000) else false)=(decide (a>=1)&&decide (a<=1000000000)):=λa=>ga _ _;by_cases hk:1<=aF f/\aF f<=7
 ·have hs:(uX.f (f,(Cj.f (f,())).1,())).1=gC (pu f):=qv5 hk;have h7:f.2.1=1\/f.2.1=2\/f.2.1=3\/f.2.1=4\/f.2.1=5\/f.2.1=6\/f.2.1=7:=pz hk;unfold sD cC sf qz;simp only[l5,jE];rw[hs];generalize gC (pu f)=B;have ek:aF f=f.2.1:=rfl;have eb:bx f=f.1:=rfl;rw[ek,eb];rcases h7 with e|e|e|e|e|e|e<;>rw[e]<;>simp only[Int.reduceBEq,ufr,ufj,Int.reduceLE,decide_true,uej,ga,BV]
  ·show(bif _ then _ else ((decide (cw f>=1)&&decide (cw f<=1000000000))&&ft (fS f),())).1=_;generalize ((decide (cw f>=1)&&decide (cw f<=1000000000))&&ft (fS f))=X;simp only[cond_eq_ite]
   grind
  ·show(bif _ then _ else (((decide (cw f>=1)&&decide (cw f<=1000000000))&&dF (fB f))&&(fB f).1==f.1,())).1=_;generalize (((decide (cw f>=1)&&decide (cw f<=1000000000))&&dF (fB f))&&(fB f).1==f.1)=X;simp only[cond_eq_ite]
   grind
  ·show(bif _ then _ else (((decide (cw f>=1)&&decide (cw f<=1000000000))&&decide (dy f>=1))&&decide (dy f<=1000000000000000),())).1=_;generalize (((decide (cw f>=1)&&decide (cw f<=1000000000))&&decide (dy f>=1))&&decide (dy f<=1000000000000000))=X;simp only[cond_eq_ite]
   grind
  ·show(bif _ then _ else (vf (dk f)&&(dk f).2.2.2.2.1==f.1,())).1=_;generalize (vf (dk f)&&(dk f).2.2.2.2.1==f.1)=X;simp only[cond_eq_ite]
   grind
  ·show(bif _ then _ else (((decide (cw f>=1)&&decide (cw f<=1000000000))&&gD (iL f))&&(iL f).1==f.1,())).1=_;generalize (((decide (cw f>=1)&&decide (cw f<=1000000000))&&gD (iL f))&&(iL f).1==f.1)=X;simp only[cond_eq_ite]
   grind
  ·show(bif _ then _ else (dN (cp f),())).1=_;generalize dN (cp f)=X;simp only[cond_eq_ite]
   grind
  ·show(bif _ then _ else (decide (dp f>=1)&&decide (dp f<=f.1),())).1=_;generalize (decide (dp f>=1)&&decide (dp f<=f.1))=X;simp only[cond_eq_ite]
   grind
 ·have hf:cC f=false:=by
   unfold cC;rw[show(decide (1<=aF f)&&decide (aF f<=7))=false by simp; omega];rfl
  have hn:∀ n:Int,1<=n/\n<=7->(f.2.1==n)=false:=λn h=>by
   have:f.2.1≠n:=λe=>hk (by show 1<=f.2.1/\f.2.1<=7; rw[e]; exact h);simpa using this
  rw[hf];unfold sD;simp only[l5,jE];rw[hn 1 (by decide),hn 2 (by decide),hn 3 (by decide),hn 4 (by decide),hn 5 (by decide),hn 6 (by decide),hn 7 (by decide)];simp only[cond_eq_ite]
  grind
def P1:aa prog 82 qa:=conv qje _ _ (λ_ _ x _ _ _=>by
 refine⟨?_,?_⟩
 ·show(sD x).ok;unfold sD
  repeat' first|exact trivial|(refine⟨λ_=>?_,λ_=>?_⟩)
 show((sD (x.1,())).get.1,())=_;rw[qey])
open Go.Ab.Fr renaming val->Jv,need->Jd,br->Jb
def q8 (g:aB.den):Prop:=(-4000000000000000000<=(cL g).2.1/\(cL g).2.1<=4000000000000000000)/\(-4000000000000000000<=(cL g).2.2.2.1/\(cL g).2.2.2.1<=4000000000000000000)
def zck (g:aB.den):(p8 g).2=(cL g).2:=by
 unfold p8;cases decide ((cL g).2.1>(cL g).1)<;>rfl
def Tt {s m:Int} (hs : -4000000000000000000<=s/\s<=4000000000000000000) (hm:0<=m/\m<=1000000000000000):decide (I6.wrap (s+m)>1000000000000000)=decide (m>I6.wrap (1000000000000000-s)):=by
 rw[IntWalk.i64_in _ (by omega),IntWalk.i64_in _ (by omega)];exact udf.2 (by omega)
def NC {a:aN.den} (h:gD a=true):0<=a.2.2.1/\a.2.2.1<=1000000000000000:=by
 unfold gD vU at h;simp only[l5,jE] at h;have e:∀ a b c,(fM.f (a,b,c,())).1=dA a b c:=λ_ _ _=>rfl;simp only[e,dA,cond_eq_ite] at h
 grind
def zcm (o k:Bool):(bif (bif o then k else false) then true else bif !o then !k else false)=(o==k):=by cases o<;>cases k<;>rfl
def LO (g:aB.den) (a:aN.den):Fr (ae [aB,i64]):=
 Jb (bif bif (p8 g).2.2.2.2.2.1 then a.2.1==5 else false then true else bif !(p8 g).2.2.2.2.2.1 then a.2.1 != 5 else false) (Jv (oU,10,()))
  (Jb (bif bif a.2.1==2 then decide (I6.wrap ((p8 g).2.1+a.2.2.1)>1000000000000000) else false then true else bif a.2.1==3 then decide (I6.wrap ((p8 g).2.2.2.1+a.2.2.1)>1000000000000000) else false) (Jv (oU,5,()))
   (Jd ((List.nil (α:=aN.den)).length+List.length (α:=aN.den) g.2.1<=maxLen/\((List.nil (α:=aN.den)).length+List.length (α:=aN.den) g.2.1)*24<=140737488355328)
    (Jd (List.length (α:=aN.den) ([]++g.2.1) + [a].length<=maxLen/\(List.length (α:=aN.den) ([]++g.2.1) + [a].length)*24<=140737488355328) (Jv ((g.1,[]++g.2.1++[a],()),0,())))))
def LP (g:aB.den) (a:aN.den):aB.den×Int:=bif (cL g).2.2.2.2.2.1==(a.2.1==5) then (oU,10) else bif sm g a then (oU,5) else ((g.1,g.2.1++[a],()),0)
def zdg {g:aB.den} {a:aN.den} (hg:q8 g) (ha:gD a=true) (hl:List.length (α:=aN.den) g.2.1<2000):(LO g a).ok/\(LO g a).get=((LP g a).1,(LP g a).2,()):=by
 have hm:=NC ha;unfold LO LP sm;rw[zck,show(a.2.1 != 5) = !(a.2.1==5) from rfl,zcm,Tt hg.1 hm,Tt hg.2 hm,BV];cases (cL g).2.2.2.2.2.1==(a.2.1==5)
 ·refine ax rfl ?_;generalize ((bif a.2.1==2 then decide (a.2.2.1>I6.wrap (1000000000000000-(cL g).2.1)) else false) || (bif a.2.1==3 then decide (a.2.2.1>I6.wrap (1000000000000000-(cL g).2.2.2.1)) else false))=c;cases c
  ·refine ax rfl (au ?_ (au ?_ ⟨uT,rfl⟩))
   ·unfold maxLen; simp only[udj]; omega
   ·unfold maxLen; simp only[udk,ua5]; omega
  ·exact ay rfl ⟨uT,rfl⟩
 ·exact ay rfl ⟨uT,rfl⟩
def qpz (g:aB.den) (hb:((List.length (α:=aN.den) g.2.1:Nat):Int)<=9223372036854775807):(List.length (α:=aN.den) g.2.1=0/\lQ g=g.1.2.2.2.2.1)\/(0<List.length (α:=aN.den) g.2.1/\lQ g=(List.getD (α:=aN.den) g.2.1 (I6.wrap (((List.length (α:=aN.den) g.2.1:Nat):Int)-1)).toNat aN.dflt).1):=by
 obtain⟨c,l,_⟩:=g;have hb:((List.length (α:=aN.den) l:Nat):Int)<=9223372036854775807:=hb;show(l.length=0/\lQ (c,l,())=c.2.2.2.2.1)\/(0<l.length/\lQ (c,l,())=(l.getD (I6.wrap ((l.length:Int)-1)).toNat aN.dflt).1);unfold lQ;by_cases h:l=[]
 ·subst h;exact .inl ⟨rfl,rfl⟩
 ·have hl:0<l.length:=ubx.2 h;refine .inr ⟨hl,?_⟩;rw[IntWalk.i64_in _ (by omega),show((l.length:Int)-1).toNat=l.length-1 by omega];show(match l.getLast? with|some a=>a.1|none=>c.2.2.2.2.1)=_;rw[uan,uah,uap (by omega)];rfl
def yp:Ct:=⟨[.d aB,.d aN],[aB,i64],λx=>((jj x.1 x.2.1).1,(jj x.1 x.2.1).2,()),λx=>[q8 x.1]⟩
def qev:aa prog 132 yp:=conv qjb _ _ (λw F x vs hr hg=>by
 obtain⟨g,a,_⟩:=x;have hg:q8 g:=hg;obtain⟨v,vs',rfl,hv,_⟩:=hr;have hb:=zp hv;show _/\_=((jj g a).1,(jj g a).2,());unfold jj;cases h1:gD a
 ·exact ay (by show(!(gD a))=true; rw[h1]; rfl) ⟨uT,rfl⟩
 refine ax (by show(!(gD a))=false; rw[h1]; rfl) ?_;cases h2:decide (((List.length (α:=aN.den) g.2.1:Nat):Int)>=2000)
 rotate_left
 ·exact ay rfl ⟨uT,rfl⟩
 refine ax rfl ?_;have hl:List.length (α:=aN.den) g.2.1<2000:=by have:=ucf h2; omega
 have ht:=zdg hg h1 hl;rcases qpz g hb with ⟨h0,h3⟩|⟨h0,h3⟩
 ·refine ax (udt (by show ¬ ((List.length (α:=aN.den) g.2.1:Nat):Int)>0; omega)) ?_;rw[h3];cases h4:decide (a.1<g.1.2.2.2.2.1)
  ·exact ax rfl ht
  ·exact ay rfl ⟨uT,rfl⟩
 ·refine ay (ud8 (by show((List.length (α:=aN.den) g.2.1:Nat):Int)>0; omega)) (au ?_ ?_)
  ·show 0<=I6.wrap (((List.length (α:=aN.den) g.2.1:Nat):Int)-1)/\I6.wrap (((List.length (α:=aN.den) g.2.1:Nat):Int)-1)<((List.length (α:=aN.den) g.2.1:Nat):Int);rw[IntWalk.i64_in _ (by omega)];omega
  ·rw[h3];cases h4:decide (a.1<(List.getD (α:=aN.den) g.2.1 (I6.wrap (((List.length (α:=aN.den) g.2.1:Nat):Int)-1)).toNat aN.dflt).1)
   ·exact ax rfl ht
   ·exact ay rfl ⟨uT,rfl⟩)
end Go.Proofs.YtgieagiaagoogaaGreat
