/-
  Parts of the proof, one behind the other.
-/
import Derived.Test.YtdadnmgajcfkfaaGreatMh
import Derived.Maps.OwnIn
import Derived.RegionTactic
import Derived.Deep.MidRow
set_option linter.all false
set_option maxRecDepth 100000
set_option maxHeartbeats 4000000
noncomputable section
open Option renaming some->U,none->V
open Bool renaming true->Z,false->Y
open Decidable renaming decide->J
open List renaming replicate->Lrp
open BitVec renaming ofInt->Bvo
open Go Go.RowKit
variable {T α σ ρ β:Type} {P:Program} {ad:Addr} {arr cs cur:Array Value} {f:FuncId} {x a y day:Int} {k:IntKind} {l:List Int} {xs vs news:List Value} {off i n b c d B m len:Nat} {F F' K:Nat->Prop} {R g R':Nat->Value->Prop} {o:Oper} {p:Prop} {e ety t ty el:TypeId} {v u vx:Value} {w w' W' W:World}
namespace Go.Proofs.YtdadnmgajcfkfaaGreat
open Go Go.Ab Go.RowKit Go.Proofs Tryz
open Go.Ab.Fr renaming val->Jv,need->Jd,br->Jb
def mC:Code->Code
 |.seq _ c=>c
 |_=>.skip
def ur:Code->Code
 |.seq c _=>c
 |_=>.skip
def Oq:Code->Array Oper
 |.region _ a _=>a
 |_=>#[]
def wH:Code:=(f128.body.map λc=>mC (mC c)).getD .skip
def Ac:Cx:=cx [(187,lg)] [(80,fy),(141,gg),(79,iF)]
def Ad:CxOK prog Ac:=aQ aH ⟨OQ,uT⟩ ⟨TG,NU,qdq,uT⟩
def qas:St->Option Tr:=
 vS (cQ prog Ac 0 bK (ur wH) 0) (vS (cQ prog Ac 0 bK (ur (mC wH)) 0)
  (vS (OG prog Ac 0 (Oq (ur (mC (mC wH)))).toList) (cQ prog Ac 0 bK (mC (mC (mC wH))) 0)))
def Mu(a b:Bool)(c d:PV)(v:Int):Fr (aa [i64,i64]):=
 Jb a (Jd (a=Y->a=Y) (Jd (a=Z->True/\c=c) (Jd (b=Y->b=Y) (Jd (b=Z->True/\d=c) (Jd (inR .i64 c.n) (Jv (0,c.n,())))))))
  (Jb b (Jd (a=Y->a=Y) (Jd (a=Z->True/\c=d) (Jd (b=Y->b=Y) (Jd (b=Z->True/\d=d) (Jd (inR .i64 d.n) (Jv (0,d.n,())))))))
   (Jd (a=Y) (Jd (b=Y) (Jv (v,0,())))))
def Vn(f:bG.q)(a b:Int):Fr (aa [i64,i64]):=
 Mu (iF.bad (f,b,())) (iF.bad (f,a,())) (iF.pv (f,b,())) (iF.pv (f,a,())) (I6.wrap ((iF.f (f,b,())).1-(iF.f (f,a,())).1))
def Vm(x:ap [.d eK,.d cK]):Fr (aa [i64,i64]):=
 let c:=gg.pv (1,());let b:=fy.pv (x.1,());let a:=Vn (fy.f (x.1,())).1 x.2.1.1 x.2.1.2.1;Jb (fy.bad (x.1,())) (Jd (inR .i64 b.n) (Jv (0,b.n,())))
  (Jb (!(lg.f (x.2.1,())).1)
   (Jb (gg.bad (1,())) (Jd (inR .i64 c.n) (Jv (0,c.n,()))) a)
   a)
def zly(E:Env):nI prog E wH qas:=
 D6 (xl Ad (bm _ 0)) (D6 (xl Ad (bm _ 0))
  (D6 (zkl Ad) (xl Ad (bm _ 0))))
def qel:ag prog 128 (bg [.d eK,.d cK] [i64,i64] Vm):=
 qrk Ad (run:=qas) (fn:=f128) (A:=ur (f128.body.getD .skip)) (c:=wH) (rid:=1) (ops:=Oq (ur (mC (f128.body.getD .skip)))) (tp:=5) (fr:=Vm) (ps:=[.d eK,.d cK]) (rs:=[i64,i64]) ([],(0,0,()),()) (by kernel_rfl) (by kernel_rfl) (by kernel_rfl) qc2 zly (λx=>by kernel_rfl)
def zjh{a b:Int×Int}{d e:Bool}{v:Int}(g:d=!(a.2==0))(h:e=!(b.2==0)):
  (if d=Z then ((0:Int),a.2,())else if e=Z then ((0:Int),b.2,())else (v,(0:Int),())) =
   ((if a.2≠0 then ((0:Int),a.2)else if b.2≠0 then ((0:Int),b.2)else (v,(0:Int))).1,(if a.2≠0 then ((0:Int),a.2)else if b.2≠0 then ((0:Int),b.2)else (v,(0:Int))).2,()):=by
 subst g;subst h;by_cases c:a.2=0;by_cases f:b.2=0;simp[c,f];simp[c,f];simp[c]
def ql7{b:Int}(c:0<=a/\a<=4000000000000000000)(d:0<=b/\b<=4000000000000000000): -9223372036854775808<=a-b/\a-b<=9223372036854775807:=by omega
def qw0{a b:Bool}{c d:PV}{v:Int}(h:a=Z->b=Z->d=c)(e:inR .i64 c.n)(f:inR .i64 d.n):
  (Mu a b c d v).ok/\(Mu a b c d v).get=if a=Z then (0,c.n,())else if b=Z then (0,d.n,())else (v,0,()):=by
 cases a with
 |true=>exact⟨⟨λ_=>⟨λh=>(by cases h),λ_=>⟨uT,rfl⟩,λh=>h,λg=>⟨uT,h rfl g⟩,e,uT⟩,λh=>(by cases h)⟩,rfl⟩
 |false=>
  cases b with
  |true=>exact⟨⟨λh=>(by cases h),λ_=>⟨λ_=>⟨λh=>h,λh=>(by cases h),λh=>(by cases h),λ_=>⟨uT,rfl⟩,f,uT⟩,λh=>(by cases h)⟩⟩,rfl⟩
  |false=>exact⟨⟨λh=>(by cases h),λ_=>⟨λh=>(by cases h),λ_=>⟨rfl,rfl,uT⟩⟩⟩,rfl⟩
def gM(l:List aF.q)(s:cK.q):Int×Int:=
 if (iY l).isNone=Z\/mw s=Y then (0,1)
 else if (cu (cB l) s.2.1).2≠0 then (0,(cu (cB l) s.2.1).2)
 else if (cu (cB l) s.1).2≠0 then (0,(cu (cB l) s.1).2)
 else ((cu (cB l) s.2.1).1-(cu (cB l) s.1).1,0)
def JO:Ct:=⟨[.d eK,.d cK],[i64,i64],λx=>((gM x.1 x.2.1).1,(gM x.1 x.2.1).2,()),λ_=>[]⟩
def ql6:ag prog 128 JO:=
 conv qel _ _ λw F A D B _=>by
  obtain⟨l,s,_⟩:=A;by_cases k:(iY l).isNone=Z;have b:fy.bad (l,())=true:=k;refine⟨⟨λ_=>⟨xx Lv,uT⟩,λh=>(by have a:fy.bad (l,())=false:=h;rw[b]at a;cases a)⟩,?_⟩;show(if fy.bad (l,())=Z then ((0:Int),(1:Int),())else _)=((gM l s).1,(gM l s).2,());unfold gM;rw[b,ufw rfl,ufw (.inl k)];have e:=ucz.2 k;have b:fy.bad (l,())=false:=e;have x:=TH e;by_cases m:mw s=Z;have g:(!(lg.f (s,())).1)=false:=by show(!(mw s))=Y;rw[m];rfl
  have o:iF.bad (cB l,s.2.1,())=Z->iF.bad (cB l,s.1,())=Z->iF.pv (cB l,s.1,())=iF.pv (cB l,s.2.1,()):=by
   intro p r;have i:∀ d,iF.bad (cB l,d,())=Z->(cu (cB l) d).2=5:=λd v=>by have c:(!((cu (cB l) d).2==0))=true:=v;rw[PZ x]at c |-;split;rename_i n;rw[ufw n]at c;cases c;rfl
   show(⟨_,_,(cu (cB l) s.1).2⟩:PV)=⟨_,_,(cu (cB l) s.2.1).2⟩;rw[i _ p,i _ r]
  obtain⟨z,C⟩:=qw0 o (xx (Qa (cB l) s.2.1)) (xx (Qa (cB l) s.1));refine⟨⟨λh=>(by have a:fy.bad (l,())=true:=h;rw[b]at a;cases a),λ_=>⟨λh=>(by have a:(!(lg.f (s,())).1)=true:=h;rw[g]at a;cases a),λ_=>z⟩⟩,?_⟩;show(if fy.bad (l,())=Z then _ else if (!(lg.f (s,())).1)=Z then _ else (Vn (cB l) s.1 s.2.1).get)=((gM l s).1,(gM l s).2,());rw[b,ufx (by decide),g,ufx (by decide)];have y:=cV (ql7 (Qb (cB l) s.2.1) (Qb (cB l) s.1));have u:gM l s=if (cu (cB l) s.2.1).2≠0 then (0,(cu (cB l) s.2.1).2)else if (cu (cB l) s.1).2≠0 then (0,(cu (cB l) s.1).2)else ((cu (cB l) s.2.1).1-(cu (cB l) s.1).1,0):=ufx (λh=>h.elim k (λh=>by rw[m]at h;cases h))
  rw[u,<- y];exact zjh rfl rfl;have g:(!(lg.f (s,())).1)=true:=by show(!(mw s))=Z;simpa using m
  refine⟨⟨λh=>(by have a:fy.bad (l,())=true:=h;rw[b]at a;cases a),λ_=>⟨λ_=>⟨λ_=>⟨xx Lv,uT⟩,λh=>(by cases h)⟩,λh=>(by have a:(!(lg.f (s,())).1)=false:=h;rw[g]at a;cases a)⟩⟩,?_⟩;show(if fy.bad (l,())=Z then _ else if (!(lg.f (s,())).1)=Z then ((0:Int),(1:Int),())else _)=((gM l s).1,(gM l s).2,());have t:gM l s=(0,1):=ufw (.inr (by simpa using m));rw[b,ufx (by decide),g,ufw rfl,t]
def CKp:Cx:=cx [(37,iE),(126,t8),(127,Ew),(128,JO),(129,kv)] []
def qfj:CxOK prog CKp:=aQ aH ⟨GP,zq1,qpb,ql6,Aw,uT⟩ trivial
def uW(h:aD.q)(a:Int):List (List ay.q):=
 [List.take (a-0).toNat (List.drop (0:Int).toNat (aO h)),List.take (((aO h).length:Int)-I6.wrap (a+1)).toNat (List.drop (I6.wrap (a+1)).toNat (aO h))]
def CZ(h:aD.q)(l:List ay.q):aD.q:=(h.1,h.2.1,h.2.2.1,l,())
def M9(h x:aD.q)(t:bh.q)(d:Int):Fr (aa [i64,i64]):=
 let c:=iE.f (x,t,());let a:=JO.f (c.1,(d,h.2.2.1.1.2.1,()),());let b:=kv.f (a.1,1000,());Jd (cj x) (Jd (bf t)
  (Jb (c.2.1 != 0) (Jv (0,c.2.1,()))
   (Jb (a.2.1 != 0) (Jv (0,a.2.1,()))
    (Jv (b.1,b.2.1,())))))
def M8(x:ap [.d aD,.d bh]):Fr (aa [i64,i64]):=
 let h:aD.q:=x.1;let t:bh.q:=x.2.1
 let a:Int:=(t8.f (h,())).1;let b:Bool:=(t8.f (h,())).2.1
 Jd (cj h) (Jd (bf t) (Jb ((iE.f (h,t,())).2.1 != 0) (Jv (0,(iE.f (h,t,())).2.1,()))
  (Jd (((aO h).length:Int)<=1000000)
   (Jd ((!b)=Y->0<=a/\a<((aO h).length:Int))
    (Jd ((bif !b then Z else ((aO h).getD a.toNat ay.j).2.2.1 != 3)=Y->0<=a/\a<((aO h).length:Int))
     (Jb (bif bif !b then Z else ((aO h).getD a.toNat ay.j).2.2.1 != 3 then Z else ((aO h).getD a.toNat ay.j).2.2.2.2.2.1 != 1) (Jv (0,0,()))
      (Jd (0<=a/\a<((aO h).length:Int))
       (Jd (0<=(none:Option Int).getD 0/\(none:Option Int).getD 0<=a/\a<=((aO h).length:Int))
        (Jd (0<=I6.wrap (a+1)/\I6.wrap (a+1)<=((aO h).length:Int)/\((aO h).length:Int)<=((aO h).length:Int))
         (Jd ((uW h a).flatten.length<=1000000)
          (M9 h (CZ h (Ew.f (uW h a,())).1) t ((aO h).getD a.toNat ay.j).2.1)))))))))))
def za8:ag prog 72 (bg [.d aD,.d bh] [i64,i64] M8):=
 aT qfj f72
def sO(h:aD.q)(a:Nat):aD.q:=CZ h ((aO h).take a++(aO h).drop (a+1))
def xZ(h:aD.q)(t:bh.q)(a:Int):Int×Int:=
 if (cw h a).2.2.1=3/\(cw h a).2.2.2.2.2.1=1 then
  (if (c9 (sO h a.toNat) t).2=0 then
   (if (gM (c9 (sO h a.toNat) t).1 ((cw h a).2.1,h.2.2.1.1.2.1,())).2=0 then iq (gM (c9 (sO h a.toNat) t).1 ((cw h a).2.1,h.2.2.1.1.2.1,())).1 1000
    else (0,(gM (c9 (sO h a.toNat) t).1 ((cw h a).2.1,h.2.2.1.1.2.1,())).2))
   else (0,(c9 (sO h a.toNat) t).2))
 else (0,0)
def gm(h:aD.q)(t:bh.q):Int×Int:=
 if (c9 h t).2=0 then (match pb h with|none=>(0,0)|some a=>xZ h t a)else (0,(c9 h t).2)
def qU:Ct:=⟨[.d aD,.d bh],[i64,i64],λx=>((gm x.1 x.2.1).1,(gm x.1 x.2.1).2,()),λx=>[cj x.1,bf x.2.1]⟩
def qdb(h:aD.q)(l:List Int):(k:Nat)->k<=l.length->∀ v,j8 h l k=U v->v∈l/\mX (cw h v)=Z
 |0,_,_,a=>by cases a
 |k+1,c,v,a=>by
  unfold j8 at a;split at a;rename_i b;cases a;refine⟨?_,b⟩;have:l.getD k 0=l[k]:=by rw[uah,uaq (by omega)];rfl
  rw[this];exact udi _;exact qdb h l k (by omega) v a
def zq0{h:aD.q}(d:pb h=U a):(0<=a/\a<((aO h).length:Int))/\mX (cw h a)=true:=by obtain⟨b,c⟩:=qdb h (bV h) _ (ufb _) a d;exact⟨Cp b,c⟩
def zjg{h:aD.q}{a:Nat}(b:a<(aO h).length)(c:(aO h).length<=1000000):I6.wrap ((a:Int)+1)=((a+1:Nat):Int)/\(uW h a).flatten=(aO h).take a++(aO h).drop (a+1):=by
 have w:I6.wrap ((a:Int)+1)=((a+1:Nat):Int):=by rw[cV (by omega)];omega
 refine⟨w,?_⟩;unfold uW;rw[w,ues,uc0,uc0,show(((aO h).length:Int)-((a+1:Nat):Int)).toNat=(aO h).length-(a+1) by omega];have e:List.take ((aO h).length-(a+1)) (List.drop (a+1) (aO h))=List.drop (a+1) (aO h):=ua3 (by rw[uc6];exact ufb _);rw[e];simp
def zr0{h:aD.q}(d:cj h)(a:Nat):cj (sO h a):=by
 have b:List.Sublist ((aO h).take a++(aO h).drop (a+1)) (aO h):=by
  conv=>rhs;rw[<- uba a (aO h)]
  refine List.Sublist.append (List.Sublist.refl _) ?_;rw[<- List.drop_drop];exact List.drop_sublist 1 _
 refine⟨uep (List.Sublist.length_le b) d.1,d.2.1,λc e=>d.2.2 c (b.subset e)⟩
def Ss{b:Bool}:(bif bif !b then Z else x != 3 then Z else y != 1)=Y↔b=Z/\x=3/\y=1:=by
 cases b with
 |false=>simp
 |true=>by_cases a:x=3;by_cases c:y=1;simp[a];simp[a];simp
def zbe{h x:aD.q}{t:bh.q}(d:cj x)(c:bf t):(M9 h x t day).ok/\(M9 h x t day).get =
  (let r:Int×Int:=if (c9 x t).2=0 then (if (gM (c9 x t).1 (day,h.2.2.1.1.2.1,())).2=0 then iq (gM (c9 x t).1 (day,h.2.2.1.1.2.1,())).1 1000 else (0,(gM (c9 x t).1 (day,h.2.2.1.1.2.1,())).2))else (0,(c9 x t).2)
   (r.1,r.2,())):=by
 refine aw d (aw c ?_);by_cases a:(c9 x t).2=0;refine aN (by show((c9 x t).2 != 0)=Y;simp[a]) ?_;simp only[a];by_cases b:(gM (c9 x t).1 (day,h.2.2.1.1.2.1,())).2=0;refine aN (by show((gM (c9 x t).1 (day,h.2.2.1.1.2.1,())).2 != 0)=Y;simp[b]) ⟨uT,?_⟩;simp only[b];rfl;refine aV (by show((gM (c9 x t).1 (day,h.2.2.1.1.2.1,())).2 != 0)=Z;simp[b]) ⟨uT,?_⟩;simp only[b];rfl;refine aV (by show((c9 x t).2 != 0)=Z;simp[a]) ⟨uT,?_⟩;simp only[a];rfl
def za5(h:aD.q)(t:bh.q)(p:cj h)(s:bf t):(M8 (h,t,())).ok/\(M8 (h,t,())).get=((gm h t).1,(gm h t).2,()):=by
 have D:=p.1;refine aw p (aw s ?_);unfold gm;by_cases l:(c9 h t).2=0;refine aN (by show((c9 h t).2 != 0)=Y;simp[l]) (aw (show((aO h).length:Int)<=1000000 by omega) ?_);rw[ufw l];cases m:pb h with
 |none=>
  have o:(t8.f (h,())).2.1=false:=by show(pb h).isSome=Y;rw[m];rfl
  rw[o];exact aw (λd=>by cases d) (aw (λd=>by cases d) (aV rfl ⟨uT,rfl⟩))
 |some a=>
  obtain⟨⟨i,k⟩,C⟩:=zq0 m;have v:(t8.f (h,())).1=a:=by show(pb h).getD 0=a;rw[m];rfl
  have o:(t8.f (h,())).2.1=true:=by show(pb h).isSome=Z;rw[m];rfl
  rw[v,o];refine aw (λ_=>⟨i,k⟩) (aw (λ_=>⟨i,k⟩) ?_);show _/\_=((xZ h t a).1,(xZ h t a).2,());cases r:(bif bif !Z then Z else ((aO h).getD a.toNat ay.j).2.2.1 != 3 then Z else ((aO h).getD a.toNat ay.j).2.2.2.2.2.1 != 1)with
  |true=>
   refine aV rfl ⟨uT,?_⟩;have y:¬ ((cw h a).2.2.1=3/\(cw h a).2.2.2.2.2.1=1):=λd=>by have b:(bif bif !Z then Z else (cw h a).2.2.1 != 3 then Z else (cw h a).2.2.2.2.2.1 != 1)=true:=r;rw[Ss.2 ⟨rfl,d⟩]at b;cases b
   unfold xZ;rw[ufx y];rfl
  |false=>
   obtain⟨_,A,B⟩:=Ss.1 r;obtain⟨n,rfl⟩:∃ n:Nat,a=n:=⟨a.toNat,by omega⟩;obtain⟨w,c⟩:=zjg (h:=h) (a:=n) (by omega) (by omega);have g:=zr0 p n;have e:((uW h n).flatten).length<=1000000:=by rw[c];have:(aO (sO h n)).length<=500000:=g.1;exact uep this (by decide)
   have u:0<=I6.wrap ((n:Int)+1)/\I6.wrap ((n:Int)+1)<=((aO h).length:Int):=by rw[w];omega
   refine aN rfl (aw ⟨i,k⟩ (aw ⟨ufc _,i,ueu k⟩ (aw ⟨u.1,u.2,ufc _⟩ (aw e ?_))));have z:CZ h (Ew.f (uW h n,())).1=sO h n:=by show CZ h (List.flatten (uW h n))=CZ h _;rw[c]
   rw[z];have:=zbe (h:=h) (day:=(cw h n).2.1) g s;refine⟨this.1,this.2.trans ?_⟩;unfold xZ;have x:(cw h n).2.2.1=3/\(cw h n).2.2.2.2.2.1=1:=⟨A,B⟩;rw[ufw x,uc0]
 refine aV (by show((c9 h t).2 != 0)=Z;simp[l]) ⟨uT,?_⟩;rw[ufx l];rfl
def Xp:ag prog 72 qU:=
 dz za8 _ _ (λw F x c b a=>by obtain⟨h,t,_⟩:=x;exact za5 h t a.1 a.2)
def Xo(h:aD.q)(t:bh.q):0<=(gm h t).1/\(gm h t).1<=4000000000000000000:=by
 have z:(0:Int)<=0/\(0:Int)<=4000000000000000000:=by decide
 unfold gm;split;split;exact z;unfold xZ;split;split;split;exact U2 _ _ _ (by decide);exact z;exact z;exact z;exact z
def qj4(l:List aF.q)(d:Int):0<=(eq l d).1/\(eq l d).1<=4000000000000000000:=by unfold eq;split;exact I3;exact Qb _ _
def ziq{b:Int}:a>4000000000000000000-b↔4000000000000000000<a+b:=by omega
def Lm(w k:Int):Int×Int:=if 4000000000000000000<w+k then (0,5)else (w+k,0)
def fT(h:aD.q)(t:bh.q):Int×Int:=
 if (gm h t).2=0 then (if (eq (c9 h t).1 292195).2=0 then Lm (eq (c9 h t).1 292195).1 (gm h t).1 else (0,(eq (c9 h t).1 292195).2))else (0,(gm h t).2)
def E1:Ct:=⟨[.d aD,.d bh],[i64,i64],λx=>((fT x.1 x.2.1).1,(fT x.1 x.2.1).2,()),λx=>[cj x.1,bf x.2.1]⟩
def zuh(h:aD.q)(t:bh.q):0<=(fT h t).1/\(fT h t).1<=4000000000000000000:=by
 have z:(0:Int)<=0/\(0:Int)<=4000000000000000000:=by decide
 have k:=Xo h t;have u:=qj4 (c9 h t).1 292195;unfold fT;split;split;unfold Lm;split;exact z;exact⟨by show 0<=_+_;omega,by show _+_<=(4000000000000000000:Int);omega⟩;exact z;exact z
def CDu:Cx:=cx [(72,qU),(37,iE),(73,EG)] []
def qer:CxOK prog CDu:=aQ aH ⟨Xp,GP,qj5,uT⟩ trivial
def M6(h:aD.q)(t:bh.q)(a:Bool):Fr (aa [i64,i64]):=
 let K:aa [i64,i64]:=qU.f (h,t,());let W:aa [i64,i64]:=EG.f ((iE.f (h,t,())).1,())
 Jd (cj h) (Jd (bf t) (Jb (K.2.1 != 0) (Jv (0,K.2.1,()))
  (Jd (cj h) (Jd (bf t) (Jb (W.2.1 != 0) (Jv (0,W.2.1,()))
   (Jb a (Jv (0,5,())) (Jv (I6.wrap (W.1+K.1),0,()))))))))
def qw4(x:ap [.d aD,.d bh]):Fr (aa [i64,i64]):=
 let a:=(x.1,x.2.1,());M6 x.1 x.2.1 (J ((EG.f ((iE.f a).1,())).1>I6.wrap (4000000000000000000-(qU.f a).1)))
def qri:ag prog 36 (bg [.d aD,.d bh] [i64,i64] qw4):=
 aT qer f36
def qrh{h:aD.q}{t:bh.q}{a:Bool}(e:cj h)(g:bf t)(f:a=J (4000000000000000000<(eq (c9 h t).1 292195).1+(gm h t).1)):
  (M6 h t a).ok/\(M6 h t a).get=((fT h t).1,(fT h t).2,()):=by
 have k:=Xo h t;have u:=qj4 (c9 h t).1 292195;refine aw e (aw g ?_);unfold fT;by_cases b:(gm h t).2=0;rw[ufw b];refine aN (by show((gm h t).2 != 0)=Y;simp[b]) (aw e (aw g ?_));by_cases c:(eq (c9 h t).1 292195).2=0;rw[ufw c];refine aN (by show((eq (c9 h t).1 292195).2 != 0)=Y;simp[c]) ?_;unfold Lm;by_cases d:4000000000000000000<(eq (c9 h t).1 292195).1+(gm h t).1;rw[ufw d];exact aV (f.trans (ueb d)) ⟨uT,rfl⟩;rw[ufx d];refine aN (f.trans (udw d)) ⟨uT,?_⟩;show(I6.wrap ((eq (c9 h t).1 292195).1+(gm h t).1),(0:Int),())=_;rw[cV (by omega)];rw[ufx c];exact aV (by show((eq (c9 h t).1 292195).2 != 0)=Z;simp[c]) ⟨uT,rfl⟩;rw[ufx b];exact aV (by show((gm h t).2 != 0)=Z;simp[b]) ⟨uT,rfl⟩
def TZ:ag prog 36 E1:=
 dz qri _ _ (λw F x c b a=>by obtain⟨h,t,_⟩:=x;have k:=Xo h t;refine qrh a.1 a.2 ?_;show J ((eq (c9 h t).1 292195).1>I6.wrap (4000000000000000000-(gm h t).1))=_;rw[cV (by omega)];exact udh.2 ziq)
def ztj(h:aD.q)(t:bh.q)(c:ay.q):Int×Int:=
 if (kV h c).2=0 then (if (fT h t).2=0 then (if (fT (kV h c).1 t).2=0 then ((fT h t).1-(fT (kV h c).1 t).1,0)else (0,(fT (kV h c).1 t).2))else (0,(fT h t).2))else (0,(kV h c).2)
def zu7:Ct:=⟨[.d aD,.d bh,.d ay],[i64,i64],λx=>((ztj x.1 x.2.1 x.2.2.1).1,(ztj x.1 x.2.1 x.2.2.1).2,()),λx=>[cj x.1,bf x.2.1]⟩
def CGv:Cx:=cx [(81,SM),(36,E1)] []
def zwn:CxOK prog CGv:=aQ aH ⟨zj2,TZ,uT⟩ trivial
def ztx(x:ap [.d aD,.d bh,.d ay]):Fr (aa [i64,i64]):=
 let h:aD.q:=x.1;let t:bh.q:=x.2.1;let c:ay.q:=x.2.2.1
 let p:aa [aD,i64]:=SM.f (h,c,());let a:aa [i64,i64]:=E1.f (h,t,());let b:aa [i64,i64]:=E1.f (p.1,t,())
 Jd (cj h) ((Jb (p.2.1 != 0) (Jv (0,p.2.1,()))
  (Jd (cj h) (Jd (bf t) (Jb (a.2.1 != 0) (Jv (0,a.2.1,()))
   (Jd (cj p.1) (Jd (bf t) (Jb (b.2.1 != 0) (Jv (0,b.2.1,())) (Jv (I6.wrap (a.1-b.1),0,()))))))))))
def zyc:ag prog 39 (bg [.d aD,.d bh,.d ay] [i64,i64] ztx):=
 aT zwn f39 (fr:=ztx) (ps:=[.d aD,.d bh,.d ay]) (rs:=[i64,i64])
def qkk{h:aD.q}{c:ay.q}(b:cj h)(g:(aO h).length<2000)(f:c.2.2.2.2.1.length<=1000000):cj (pm h c):=by
 have e:aO (pm h c)=([]++aO h)++[c]:=rfl;refine⟨?_,b.2.1,λd a=>?_⟩;rw[e,udn,ub6];show _+1<=500000;omega;rw[e,udn,udt]at a;rcases a with a|a
 exact b.2.2 d a;cases ucf.1 a;exact f
def ZC{h:aD.q}{c:ay.q}(d:cj h):cj (kV h c).1:=by have z:cj iy:=⟨by decide,by decide,λc b=>by cases b⟩;unfold kV;split;rename_i a;split;exact z;split;exact z;exact qkk d (by omega) (Th a.1);exact z
def zya(h:aD.q)(t:bh.q)(c:ay.q)(e:cj h)(f:bf t):(ztx (h,t,c,())).ok/\(ztx (h,t,c,())).get=((ztj h t c).1,(ztj h t c).2,()):=by have g:=zuh h t;have i:=zuh (kV h c).1 t;refine aw e ?_;unfold ztj;by_cases a:(kV h c).2=0;rw[ufw a];refine aN (by show((kV h c).2 != 0)=Y;simp[a]) (aw e (aw f ?_));by_cases b:(fT h t).2=0;rw[ufw b];refine aN (by show((fT h t).2 != 0)=Y;simp[b]) (aw (ZC e) (aw f ?_));by_cases d:(fT (kV h c).1 t).2=0;rw[ufw d];refine aN (by show((fT (kV h c).1 t).2 != 0)=Y;simp[d]) ⟨uT,?_⟩;show(I6.wrap ((fT h t).1-(fT (kV h c).1 t).1),(0:Int),())=_;rw[cV (by omega)];rw[ufx d];exact aV (by show((fT (kV h c).1 t).2 != 0)=Z;simp[d]) ⟨uT,rfl⟩;rw[ufx b];exact aV (by show((fT h t).2 != 0)=Z;simp[b]) ⟨uT,rfl⟩;rw[ufx a];exact aV (by show((kV h c).2 != 0)=Z;simp[a]) ⟨uT,rfl⟩
def zyb:ag prog 39 zu7:=
 dz zyc _ _ (λw F x d b a=>by obtain⟨h,t,c,_⟩:=x;exact zya h t c a.1 a.2)
section
open Go.Shelf
attribute [local go_sem] Oper.semAt_some
structure ChC where
 p:Nat->Int
 A:Option Addr
 l:Nat
 c:Nat
def dZ(d:ChC):Array Value:=#[.int .i64 (d.p 0),.int .i64 (d.p 1),.int .i64 (d.p 2),.int .i64 (d.p 3),.int .i64 (d.p 4),.int .i64 (d.p 5),.int .i64 (d.p 6),.slice d.A d.l d.c,.int .i64 (d.p 7)]
def rc(d:ChC):Value:=.agg (dZ d)
abbrev dh:Type:=Option Addr×Nat×Nat
def ChC.set(d:ChC)(s:dh):ChC:=⟨d.p,s.1,s.2.1,s.2.2⟩
def qn2{x:ay.q}(h:aG w F ay x g):
  ∃ d:ChC,(∀ j u,(dZ d)[j]?= U u->g j u)/\d.p 0=x.1/\aG w F (.sl ar) x.2.2.2.2.1 (λ_ u=>u=.slice d.A d.l d.c) /\
   ∀ (s:dh) (C:World) (F2:Nat->Prop),aG C F2 (.sl ar) x.2.2.2.2.1 (λ_ u=>u=.slice s.1 s.2.1 s.2.2)->bJ C F2 ay x (rc (d.set s)):=by
 obtain⟨n,o,r,⟨f,i,k,m,_⟩,⟨A,c,z,b⟩,t,_⟩:=h;refine⟨⟨λj=>match j with|0=>x.1|1=>x.2.1|2=>x.2.2.1|3=>x.2.2.2.1.1|4=>x.2.2.2.1.2.1|5=>x.2.2.2.1.2.2.1|6=>x.2.2.2.1.2.2.2.1|_=>x.2.2.2.2.2.1,A,x.2.2.2.2.1.length,c⟩,λj u a=>?_,rfl,⟨A,c,rfl,b⟩,λs C F2 B=>⟨rfl,⟨λ_=>⟨_,rfl⟩,λ_=>rfl⟩,⟨rfl,n.2⟩,⟨rfl,o.2⟩,⟨rfl,r.2⟩,⟨⟨rfl,f.2⟩,⟨rfl,i.2⟩,⟨rfl,k.2⟩,⟨rfl,m.2⟩,uT⟩,?_,⟨rfl,t.2⟩,uT⟩⟩
 rotate_left
 obtain⟨v,y,e,h⟩:=B;refine⟨v,y,?_,h⟩;show U (Value.slice s.1 s.2.1 s.2.2)=_;rw[e]
 match j,a with
 |0,a=>cases a;exact n.1
 |1,a=>cases a;exact o.1
 |2,a=>cases a;exact r.1
 |3,a=>cases a;exact f.1
 |4,a=>cases a;exact i.1
 |5,a=>cases a;exact k.1
 |6,a=>cases a;exact m.1
 |7,a=>cases a;exact z
 |8,a=>cases a;exact t.1
 |j+9,a=>simp[dZ]at a
def lT(c:Nat->ChC)(a:Int)(k:Nat):List Nat:=(List.range k).filter λi=>J ((c i).p 0<=a)
def qo9{c:Nat->ChC}{k:Nat}(h:(c k).p 0<=day):lT c day (k+1)=lT c day k++[k]:=by simp[lT,ud2,ucj,h]
def qo8{c:Nat->ChC}{k:Nat}(h:¬ (c k).p 0<=day):lT c day (k+1)=lT c day k:=by simp[lT,ud2,ucj];omega
def qo7(c:Nat->ChC)(a:Int)(k:Nat):(lT c a k).length<=k:=by have:=List.length_filter_le (λi=>J ((c i).p 0<=a)) (List.range k);rw[List.length_range]at this;exact this
def pD(c:Nat->ChC)(x:Fin len×dh):Value:=rc ((c x.1.1).set x.2)
def zrh (n:Nat) (hn:1<=n) (l Bh oh Bd od n₀ b off len cap:Nat) (day:Int) (c:Nat->ChC) (hreach:len<=1000000) (A:Option Addr) (hA:0<len->A=some ⟨b,off,none⟩/\b<n₀) (E:Fin len×dh->World->World->Prop) (J:List (Fin len×dh)->World->Prop)
  (hJ:∀ pre X Y,J pre X->Below X.heap.size X Y->J pre Y)
  (W:World) (hn₀:n₀<=W.heap.size)
  (hclone:∀ (k:Fin len) X,cU n₀ Bh Bd W X->Calls prog 145 #[.slice (c k.1).A (c k.1).l (c k.1).c] X λe w'=>∃ s:dh,e=.returned (.slice s.1 s.2.1 s.2.2)/\Below X.heap.size X w' /\
   ∀ (Bx:Nat) (X0 Y:World),n₀<=Bx->Bx<X.heap.size->X0.heap.size<=X.heap.size->(∀ q,q≠Bx->Y.heap[q]?= w'.heap[q]?)->E (k,s) X0 Y)
  (hY:∀ pre (x:Fin len×dh) X0 X,J pre X0->Below X0.heap.size X0 X->E x X0 X->pre.length<len->YieldAt Fence.wide (n-1) prog l #[pD c x] X λe W'=>e=.returned (.bool true)/\J (pre++[x]) W'/\cU n₀ Bh Bd X W')
  (hBh:W.cell? ⟨Bh,oh+9,none⟩=some (.slice A len cap)) (hBd:W.cell? ⟨Bd,od,none⟩=some (.int .i64 day))
  (hc:∀ k j u,k<len->(dZ (c k))[j]?= some u->W.cell? ⟨b,off+(k*9+j),none⟩=some u) (h0:J [] W) :
  CallsIn Fence.wide n prog 218 #[.func (.yield l) #[] #[],.pointer (some ⟨Bh,oh,none⟩),.pointer (some ⟨Bd,od,none⟩)] W λe W'=>(∃ v,e=.returned v) /\
   ∃ xs:List (Fin len×dh),xs.map (λx=>x.1.1)=lT c day len/\J xs W':=by
 have hro:Fence.wide.round=none:=rfl;refine callsIn_of_wp func218 rfl trivial ?_ hro;simp only[ntmps218,ucq,uc9,udm,Nat.reduceAdd,Nat.reduceSub,ubn,ubo,ucy,ubx,udn,uc4];have hl1:Bh<W.heap.size:=by
  obtain⟨_,_,_,h⟩:=K8 hBh;exact(uaf.1 h).1
 have hl2:Bd<W.heap.size:=by
  obtain⟨_,_,_,h⟩:=K8 hBd;exact(uaf.1 h).1
 gi_wp2
 gi_loopw [9] (λi wr=>∃ (k:Nat) (pre:List (Fin len×dh)),k<=len/\i=.int .i64 (k:Int)/\pre.map (λx=>x.1.1)=lT c day k/\J pre wr/\cU n₀ Bh Bd W wr)
  (λi _=>((len:Int)-intOf i).toNat)
 case atStart=>exact⟨0,[],ufh _,by simp,rfl,h0,cU.refl _ _ _ _⟩
 case round=>
  obtain⟨k,pre,hk,rfl,hpre,hJs,hnx⟩:=hrel;have e0:=(ubd hnx.2.2).trans hBd;by_cases hlt:k<len
  ·obtain⟨rfl,hb⟩:=hA (by omega);have hlen:pre.length<len:=by
    have:=ufu List.length hpre;have h2:=qo7 c day k;rw[ud3]at this;omega
   have hcx:∀ j u,(dZ (c k))[j]?= some u->wr.cell? ⟨b,off+k*9+j,none⟩=some u:=λj u hj=>by
    rw[uei];exact(hnx.1.cell hb).trans (hc _ j u hlt hj)
   have x0:=hcx 0 (.int .i64 ((c k).p 0)) rfl;have x1:=hcx 1 (.int .i64 ((c k).p 1)) rfl;have x2:=hcx 2 (.int .i64 ((c k).p 2)) rfl;have x3:=hcx 3 (.int .i64 ((c k).p 3)) rfl;have x4:=hcx 4 (.int .i64 ((c k).p 4)) rfl;have x5:=hcx 5 (.int .i64 ((c k).p 5)) rfl;have x6:=hcx 6 (.int .i64 ((c k).p 6)) rfl;have x7:=hcx 7 (.slice (c k).A (c k).l (c k).c) rfl;have x8:=hcx 8 (.int .i64 ((c k).p 7)) rfl;rw[uez]at x0;have hBdl:=ucb hl2 hnx.1.size;have hBhl:=ucb hl1 hnx.1.size;have hBb:Below wr.heap.size wr (wr.alloc (.cells (dZ (c k)) 67)):=(ufk _ wr).alloc (ufb _) _;have e1:=(hBb.cell hBdl).trans e0;have hKb:cU n₀ Bh Bd W (wr.alloc (.cells (dZ (c k)) 67)):=hnx.trans (cU.below hBb (uep hn₀ hnx.1.size) hBhl hBdl);have HK:=Lib.hid hKb;have HB:=Lib.hid hBb
   gi_wp2
   ·have hno':day<(c k).p 0:=by assumption
    have hno:¬ (c k).p 0<=day:=by omega
    exact⟨⟨k+1,pre,by omega,by simp,by rw[qo8 hno,hpre],hJ _ _ _ hJs HB.out,HK.out⟩,by simp[intOf];omega⟩
   ·have hyes:(c k).p 0<=day:=by assumption
    refine⟨uT,?_⟩;refine(callsIn_wide.2 (hclone ⟨k,hlt⟩ _ HK.out)).mono ?_;rintro e w1 ⟨s,rfl,hb1,hE⟩;have hszb:wr.heap.size<(wr.alloc (.cells (dZ (c k)) 67)).heap.size:=by simp
    have z4:=(hb1.block wr.heap.size hszb).trans (World.alloc_heap_new wr (.cells (dZ (c k)) 67));unfold dZ at z4;obtain⟨u0,u1,u2,u3,u4,u5,u6,u7,u8⟩:=uM λj _=>cn z4 j;have ff:∀ j,w1.frozen? ⟨wr.heap.size,j,none⟩=false:=λj=>by simp[World.frozen?,z4]
    have hW3:Below wr.heap.size wr (w1.setCell ⟨wr.heap.size,7,none⟩ (.slice s.1 s.2.1 s.2.2)):=(HB.out.trans (hb1.mono (ue7 hszb))).setCell (ufb _) _;have hk3:=cU.below hW3 (uep hn₀ hnx.1.size) hBhl hBdl;have hE3:=hE wr.heap.size wr (w1.setCell ⟨wr.heap.size,7,none⟩ (.slice s.1 s.2.1 s.2.2)) (uep hn₀ hnx.1.size) hszb (ue7 hszb) (λq hq=>uck _ _ q _ hq);obtain⟨fn,tmps,assign,body,hy,hR⟩:=hY pre (⟨k,hlt⟩,s) wr _ hJs hW3 hE3 hlen;dsimp only[pD,rc,dZ,ChC.set]at hy
    gi_wp2
    refine hR.mono ?_;rintro e W4 ⟨rfl,hJ4,hk4⟩
    gi_wp2
    go_roundw
    case rel=>exact⟨k+1,pre++[(⟨k,hlt⟩,s)],by omega,by simp,by rw[qo9 hyes,udx,hpre];rfl,hJ4,hnx.trans (hk3.trans hk4)⟩
    case measure=>simp[intOf];omega
  ·obtain rfl:k=len:=by omega
   gi_wp2
   go_end0
   exact⟨⟨_,rfl⟩,_,hpre,hJs⟩
end
section
open Go.Shelf Go.Maps
attribute [local go_sem] Oper.semAt_some
def lS(c:Nat->ChC):List (Fin len×dh)->List Value
 |[]=>[]
 |x::l=>(dZ ((c x.1.1).set x.2)).toList++lS c l
def KB(c:Nat->ChC):(a b:List (Fin len×dh))->lS c (a++b)=lS c a++lS c b
 |[],_=>rfl
 |x::a,b=>by simp[lS,KB c a b]
def Tm(c:Nat->ChC):(a:List (Fin len×dh))->(lS c a).length=a.length*9
 |[]=>rfl
 |x::a=>by simp[lS,dZ,Tm c a];omega
def Ak(c:Nat->ChC)(F:Nat->Prop)(y:Nat->ay.q)(x:Fin len×dh)(X e:World):Prop:=
 ∃ b,bJ e b ay (y x.1.1) (pD c x)/\∀ q,b q->(F q\/X.heap.size<=q)/\∃ a d p,e.heap[q]?= U (.cells a d p)
def Je(w:World)(c:Nat->ChC)(F:Nat->Prop)(y:Nat->ay.q)(a b:List (Fin len×dh))(W:World)(v:Value)(e:Nat->Prop):Prop:=
 W.heap[w.heap.size]?= U (.cells #[v] 78 (0,0))/\W.ownsRow w.heap.size 67 9 v b.length (lS c b)/\cy W e ay (a.map λx=>y x.1.1) (lS c a) /\
  ∀ q,e q->(F q\/w.heap.size<=q)/\v.ownBlock≠U q/\q≠w.heap.size/\∃ d f p,W.heap[q]?= U (.cells d f p)
structure CoI (w:World) (c:Nat->ChC) (F:Nat->Prop) (y:Nat->ay.q) (els pre:List (Fin len×dh)) (W:World):Prop where
 row:∃ v F',Je w c F y els pre W v F'
 bel:Below w.heap.size w W
def yA{a:Nat}{size:Nat}{k:Nat}(h:W.ownsRow a e size v k xs){j:Nat}(c:v.ownBlock=U j):a<=j/\∃ cur,W.heap[j]?= U (.cells cur e (0,0)):=by
 rcases h.2 with ⟨rfl,_⟩|⟨g,d,cur,rfl,f,b,_⟩
 simp[Value.ownBlock]at c;have:g=j:=by simpa[Value.ownBlock]using c
 subst this;exact⟨f,_,b⟩
def Zg{a:Nat}{size:Nat}{k:Nat}(h:W.ownsRow a e size v k xs){j:Nat}{o:Obj}(f:W.heap[j]?= U o)(b:∀ cur,o ≠ .cells cur e (0,0)):v.ownBlock=V\/v.ownBlock≠U j:=by by_cases d:v.ownBlock=U j;obtain⟨_,cur,c⟩:=yA h d;rw[f]at c;cases c;exact absurd rfl (b cur);exact .inr d
def qo3{c:Nat->ChC}{y:Nat->ay.q}{k m:List (Fin len×dh)}{f:Option Nat}(h:Je w c F y k m W v F')(A:W.grownBy W' f)(B:∀ r,f=U r->∃ o:Obj,W.heap[r]?= U o/\o.isCells=Y):Je w c F y k m W' v F':=by
 obtain⟨u,x,H,z⟩:=h;have a:∀ q b n p,W.heap[q]?= U (Obj.cells b n p)->W'.heap[q]?= W.heap[q]? := λq b n p i=>A.block q (uaf.1 i).1 (λe=>by obtain⟨o,s,g⟩:=B q e.symm;rw[i]at s;cases s;cases g)
 refine⟨(a _ _ _ _ u).trans u,x.kept A ?_,H.mono (λ_ h=>h) (λq i=>?_),λq i=>?_⟩;by_cases t:v.ownBlock=f;cases d:f with
 |none=>exact .inl (t.trans d)
 |some r=>obtain⟨o,s,g⟩:=B r d;obtain⟨_,G,l⟩:=yA x (t.trans d);rw[s]at l;cases l;cases g
 exact .inr t;obtain⟨_,_,_,b,n,p,g⟩:=z q i;exact a _ _ _ _ g;obtain⟨C,D,E,b,n,p,g⟩:=z q i;exact⟨C,D,E,b,n,p,(a _ _ _ _ g).trans g⟩
def KM{c:Nat->ChC}{y:Nat->ay.q}(m:w.heap.size<=B)(a d:List (Fin len×dh)){X n:World}{f:Option Nat}(h:CoI w c F y a d X)(g:X.grownBy n f)(i:∀ r,f=U r->B<=r/\∃ o:Obj,X.heap[r]?= U o/\o.isCells=Y):CoI w c F y a d n:=by obtain⟨v,l,b⟩:=h.row;exact⟨⟨v,l,qo3 b g λr e=>(i r e).2⟩,h.bel.grown g h.bel.size (λk e=>uep m (i k e).1)⟩
def zlw{x:ay.q}{d:ChC}(h:bJ W F ay x (rc d)):cy W F ay [x] (dZ d).toList:=λi z a=>by
 cases i with
 |zero=>simp at a;subst a;refine h.2.2.mono (λ_ h=>h) (λ_ _=>rfl) λj u _ b=>?_;have:(dZ d)[j]?= U u:=b;simpa using this
 |succ i=>simp at a
def qo2{c:Nat->ChC}{y:Nat->ay.q}{i:List (Fin len×dh)}{x:Fin len×dh}{X Q:World}(h:CoI w c F y i i X)(l:Below X.heap.size X Q)(A:∀ q,F q->q<w.heap.size)(K:Ak c F y x X Q):CoI w c F y (i++[x]) i Q:=by
 obtain⟨v,B,t,u,H,z⟩:=h.row;obtain⟨C,O,r⟩:=K;have P:=(uaf.1 t).1;have b:∀ q o,X.heap[q]?= U o->Q.heap[q]?= U o:=λq o d=>(l.block q (uaf.1 d).1).trans d;refine⟨⟨v,λq=>B q\/C q,b _ _ t,u.kept (row:=V) ⟨l.os,l.tape,l.output,l.size,λk M _=>l.block k M⟩ ?_,?_,λq d=>?_⟩,h.bel.trans (l.mono (ue7 P))⟩;cases v.ownBlock with
 |none=>exact .inl rfl
 |some g=>exact .inr (by simp)
 rw[udx,KB];refine cy.append (H.mono (λ_ h=>.inl h) λq d=>?_) ?_ ?_;obtain⟨_,_,_,f,n,p,m⟩:=z q d;exact(b _ _ m).trans m.symm;rw[Tm,ud3];rfl;have:=zlw O;exact this.mono (λ_ h=>.inr h) (λ_ _=>rfl);rcases d with d|d
 obtain⟨a,D,E,f,n,p,m⟩:=z q d;exact⟨a,D,E,f,n,p,b _ _ m⟩;obtain⟨a,f,n,p,m⟩:=r q d;refine⟨a.elim .inl (λh=>.inr (by omega)),λe=>?_,λe=>?_,f,n,p,m⟩;obtain⟨L,G,s⟩:=yA u e;have N:=(uaf.1 s).1;rcases a with a|a
 have:=A q a;omega;omega;rcases a with a|a
 have:=A q a;omega;omega
def Re(w:World)(c:Nat->ChC)(F:Nat->Prop)(y:Nat->ay.q)(a:Fin len×dh->Nat->Act)(b:List (Fin len×dh))(x:Fin len×dh)(e:Act)(W:World):Prop:=
 CoI w c F y (b++[x]) b W/\∃ d,w.heap.size<d/\W.heap[d]?= U (.cells (dZ ((c x.1.1).set x.2)) 67 (0,0))/\e=a x d
def qo1{c:Nat->ChC}{y:Nat->ay.q}{a:Fin len×dh->Nat->Act}(m:w.heap.size<=B)(b:List (Fin len×dh))(x:Fin len×dh)(g:Act):OwnFrom B (λ(_:Unit) W=>Re w c F y a b x g W):=λ_ X p o n d e=>by obtain⟨h,f,i,k,l⟩:=n;exact⟨KM m _ _ h d e,f,i,tu k d e,l⟩
def qn1:(prog.info? 67).map (λi=>(i.zero,i.size,i.bytes))=U (U (.agg #[.int .i64 0,.int .i64 0,.int .i64 0,.int .i64 0,.int .i64 0,.int .i64 0,.int .i64 0,.slice V 0 0,.int .i64 0]),9,88):=by kernel_rfl
def K9(h:W.heap[B]?= U (.cells #[v] t (0,0))):W.cell? ⟨B,0,V⟩=U v/\W.frozen? ⟨B,0,V⟩=false:=by constructor<;>simp[World.cell?,World.frozen?,h]
def zgr(W:World)(a:Array Value)(t:TypeId)(j:Nat)(u:Value)(h:a.toList[j]?= U u):(W.alloc (.cells a t)).cell? ((⟨W.heap.size,0,V⟩:Addr).add j)=U u:=by
 have b:=cn (World.alloc_heap_new W (.cells a t)) j;have c:(⟨W.heap.size,0,V⟩:Addr).add j=⟨W.heap.size,j,V⟩:=by unfold Addr.add;split<;>simp_all
 rw[c,b];simpa using h
def qy6{X g:World}{a:Option Nat}(d:X.grownBy g a)(h:∀ r,a=U r->∃ arr t p,X.heap[r]?= U (Obj.cells arr t p)):KeepsOthers X g:=
 ⟨d.size,λk o b f=>(d.block k (uaf.1 b).1 (λe=>by obtain⟨arr,t,p,c⟩:=h k e.symm;rw[b]at c;cases c;cases f)).trans b⟩
def so(a:Value)(h:W.heap[B]?= U (.cells #[v] t (0,0))):(W.setCell ⟨B,0,V⟩ a).heap[B]?= U (.cells #[a] t (0,0)):=uc1 W B 0 _ t a h
def zix{b:Nat}{t:Ty}{l:List t.q}(h:W.ownsRow b e t.size v l.length xs)(s:cy W F t l xs):aG W (λq=>F q\/v.ownBlock=U q) (.sl t) l (λ_ u=>u=v):=by
 rcases h.2 with ⟨rfl,r⟩|⟨g,c,k,rfl,z,d,m,n,y,o⟩
 exact⟨V,0,by rw[r],by omega,ufh _,λi x f=>by have:=(uak.1 f).1;omega⟩;refine⟨U ⟨g,0,V⟩,c,rfl,m,n,λi x f=>⟨⟨g,0,V⟩,rfl,.inr rfl,(s i x f).mono (λ_ h=>.inl h) (λ_ _=>rfl) λj u _ w=>?_⟩⟩;have p:(⟨g,0,V⟩:Addr).add (i*t.size+j)=⟨g,i*t.size+j,V⟩:=by unfold Addr.add;split<;>simp_all
 rw[p,cn d];have a:=w;rw[<- o,ub2]at a;split at a;simpa using a;cases a
def qld(n : Nat)(hn : 2 <= n)(c : Nat -> ChC)(F : Nat -> Prop)(y : Nat -> ay.q)(len : Nat)(hlen : len <= 1000000)(gf : Nat)(lb : Array Value)(eg : ∀ args w, (callFunc gf args).run prog w=.ok (.enter gf args) w)(w : World)(hF : ∀ q, F q -> q < w.heap.size)(S : List (Fin len × dh) -> Prop)(hseq : ∀ w0, Below w.heap.size w w0 -> DZ Fence.wide (n - 1) prog gf lb (λx : Fin len × dh => #[pD c x]) (Ak c F y) (Below w.heap.size) S len w0):
    CallsIn Fence.wide n prog 217 #[.slice none 0 0, .func (.func gf) #[] lb] w λe w' => ∃ v xs F', e=.returned v /\ S xs /\ Below w.heap.size w w' /\
      aG w' F' (.sl ay) (xs.map λx => y x.1.1) (λ_ u => u = v) /\ ∀ q, F' q -> (F q \/ w.heap.size <= q) /\ q < w'.heap.size := by
  refine callsIn_of_wp_marks func217 rfl trivial ?_ rfl
  simp only[ntmps217, ucq, uc9, udm, Nat.reduceAdd, Nat.reduceSub, ubn, ubo, ucy, ubx, udn, uc4]
  gi_wp2
  have hbel : Below w.heap.size w (w.alloc (.cells #[.slice none 0 0] 78)) := (ufk _ w).alloc (ufb _) _
  have hbx := World.alloc_heap_new w (.cells #[.slice none 0 0] 78)
  have hsz : (w.alloc (.cells #[.slice none 0 0] 78)).heap.size = w.heap.size + 1 := by simp
  obtain⟨W0, hW0⟩ : ∃ W0, w.alloc (.cells #[.slice none 0 0] 78) = W0 := ⟨_, rfl⟩
  rw[hW0]at hbel hbx hsz |-
  have hI0 : CoI w c F y ([] : List (Fin len × dh)) [] W0 := ⟨⟨_, λ_ => False, hbx, ⟨rfl, .inl ⟨rfl, rfl⟩⟩, λi z hz => by simp at hz, λq hq => hq.elim⟩, hbel⟩
  refine zr1 rfl (by omega) rfl trivial eg (hseq W0 hbel)
    (λh k => h.trans k) (λW l o o' hl ho hoc => ⟨rfl, rfl, rfl, by simp, λk hk => World.putObj_heap_other (by omega)⟩) (λ_ => rfl)
    (λpre W => CoI w c F y pre pre W) (λpre X Y row h hg hr => KM hbel.size _ _ h hg hr) hI0
    (λpre x a' W => Re w c F y (λx Bx => { tmps := #[.slice none 0 0, .func (.func gf) #[] lb, .pointer (some ⟨w.heap.size, 0, none⟩), undef, .slice none 0 0, .pointer (some ⟨Bx, 0, none⟩), .func (.func gf) #[] lb, pD c x, undef, undef, undef, undef, undef], defers := [] }) pre x a' W)
    (λpre x a' => qo1 hbel.size pre x a') ?assign ?body ?done
  case assign =>
    rintro l pre x X W K hi hb hE hK
    have hi2 := qo2 hi hb hF hE
    unfold pD rc dZ
    gi_wp2
    obtain⟨v, F', r1, _⟩ := hi2.row
    have hlt := (uaf.1 r1).1
    exact hK _ _ ((KeepsOthers.alloc _ _).from _) ((ufk _ W).alloc (ue7 hlt) _)
      ⟨KM hbel.size _ _ hi2 (ubv W _ none) (λr e => nomatch e), W.heap.size, hlt, World.alloc_heap_new W _, rfl⟩
  case body =>
    rintro l pre x a' W ⟨hi, Bx, hBx, bX, rfl⟩ hlt
    obtain⟨v, F', r1, r2, r3, r4⟩ := hi.row
    obtain⟨i0, hi0, hz0, hz1, hz2⟩ := ufo qn1
    have bX' := bX
    unfold dZ at bX'
    obtain⟨y0, y1, y2, y3, y4, y5, y6, y7, y8⟩ := uM λj _ => cn bX' j
    obtain⟨hc1, hf1⟩ := K9 r1
    have hlt0 := (uaf.1 r1).1
    have hnew := zgr W (dZ ((c x.1.1).set x.2)) 67
    have HR := Lib.hid r3
    have HF := Lib.hid r4
    have hbelI := hi.bel
    have hv3f : ∀ (arr : Array Value) (w3 : World), (W.alloc (.cells arr 67)).grownBy w3 v.ownBlock -> w3.heap[w.heap.size]?= some (.cells #[v] 78 (0, 0)) := λarr w3 hg =>
      (hg.block _ (by simp;omega) (λe => (Zg r2 r1 (λcur e => by cases e)).elim (λh => by rw[h]at e;cases e) (λh => h e.symm))).trans ((udb _ _ _ hlt0).trans r1)
    unfold dZ at hnew
    gi_wp2_with (first
      | (gi_at_builtin;refine wpListIn_append_own_at _ rfl _ _ 78 rfl w.heap.size 67 i0 _ 9 88 underlying78 hi0 hz0 hz1 hz2 rfl (by decide) _ _ _ rfl (r2.alloc _) ⟨W.heap.size, 0, none⟩ 1 1 _ rfl rfl hnew (by simp[Value.oneCell']) (by simp only[maxLen];omega) (by omega) (by simp;omega) ?_;intro v' w3 hown' hg3 hnil3 hat3
         have hv3 : w3.heap[w.heap.size]?= some (.cells #[v] 78 (0, 0)) := hv3f _ _ hg3
         obtain⟨hc3, hf3⟩ := K9 hv3
         obtain⟨g', cap', cur', rfl, hbase', hgb', hr1, hr2, hr3, hr4⟩ : ∃ g' cap' cur', v'=.slice (some ⟨g', 0, none⟩) (pre.length + 1) cap' /\ w.heap.size <= g' /\ w3.heap[g']?= some (.cells cur' 67 (0, 0)) /\ pre.length + 1 <= cap' /\ cap' <= maxLen /\ cur'.size = cap' * 9 /\ cur'.toList.take ((pre.length + 1) * 9) = lS c pre ++ _ := by
           rcases hown'.2 with ⟨_, h0⟩ | h'
           · exact absurd h0 (by omega)
           · exact h'
         go_frame)
      | gi_in)
    have hownX := r2.alloc (.cells (dZ ((c x.1.1).set x.2)) 67)
    have hgX : (W.alloc (.cells (dZ ((c x.1.1).set x.2)) 67)).grownBy w3 v.ownBlock := hg3
    have hg4 := grownBy_setCell' w3 w.heap.size (.slice (some ⟨g', 0, none⟩) (pre.length + 1) cap')
    have hb3 := ((ufk _ W).alloc (ue7 hlt0) _).grown hgX (by simp;omega) (λk e => (yA hownX e).1)
    have hb4 := hb3.setCell (p := ⟨w.heap.size, 0, none⟩) (ufb _) (.slice (some ⟨g', 0, none⟩) (pre.length + 1) cap')
    have hsame : ∀ q, F' q -> (w3.setCell ⟨w.heap.size, 0, none⟩ (.slice (some ⟨g', 0, none⟩) (pre.length + 1) cap')).heap[q]?= W.heap[q]? := λq hq => by
      obtain⟨_, a2, a3, arr, ty, p, hc⟩ := HF.out q hq
      have hq2 := (uaf.1 hc).1
      exact(uck _ _ q _ a3).trans ((hgX.block q (by simp;omega) (λe => a2 e.symm)).trans (udb _ _ _ hq2))
    refine⟨rfl, (((KeepsOthers.alloc W _).trans (qy6 hgX λr e => ?_)).trans (KeepsOthers.setCell w3 _ _)).from _, hb4, ⟨_, F', so _ hv3, ?_, HR.out.mono (λ_ h => h) hsame, λq hq => ?_⟩, hbelI.trans hb4⟩
    · obtain⟨_, cur, hc⟩ := yA hownX e
      exact⟨_, _, _, hc⟩
    · have h5 := hown'.kept hg4 (Zg hown' hv3 (λcur e => by cases e))
      simpa[KB, lS, dZ]using h5
    · obtain⟨a1, a2, a3, arr, ty, p, hc⟩ := HF.out q hq
      refine⟨a1, λe => ?_, a3, arr, ty, p, (hsame q hq).trans hc⟩
      have hq2 := (uaf.1 hc).1
      rcases hat3 with h | h
      · exact a2 (h.symm.trans e)
      · rw[h]at e
        simp at e
        omega
  case done =>
    rintro D zs W hD hzs hi hK
    obtain⟨v, F', r1, r2, r3, r4⟩ := hi.row
    obtain⟨hc1, hf1⟩ := K9 r1
    have HR := Lib.hid r3
    have HF := Lib.hid r4
    gi_wp2
    refine⟨by simp, .inl ⟨_, _, rfl, run_takeDeferred hK, ?_⟩⟩
    have hs : ∀ q arr ty p, W.heap[q]?= some (Obj.cells arr ty p) -> (W.putObj D (.deferred none)).heap[q]?= W.heap[q]? := λq arr ty p hq => World.putObj_heap_other (λe => by subst e;rw[hK]at hq;cases hq)
    have r2' : W.ownsRow w.heap.size 67 ay.size v (zs.map λx => y x.1.1).length (lS c zs) := by rw[ud3];exact r2
    have hd := zix r2' HR.out
    have hcl : ∀ q, (F' q \/ v.ownBlock = some q) -> (F q \/ w.heap.size <= q) /\ ∃ arr ty p, W.heap[q]?= some (Obj.cells arr ty p) := λq hq => by
      rcases hq with hq | hq
      · obtain⟨a1, _, _, a4⟩ := HF.out q hq
        exact⟨a1, a4⟩
      · obtain⟨b1, cur, b2⟩ := yA r2 hq
        exact⟨.inr b1, _, _, _, b2⟩
    refine⟨_, results_tmp rfl _ _ _, v, zs, _, rfl, hzs, ⟨hi.bel.os, hi.bel.tape, hi.bel.output, by simpa using hi.bel.size, λk hk => (World.putObj_heap_other (by have := hbel.size;omega)).trans (hi.bel.block k hk)⟩, aG.mono (λ_ h => h) (λq hq => ?_) (λ_ _ _ h => h) hd, λq hq => ?_⟩
    · obtain⟨_, arr, ty, p, hc⟩ := hcl q hq
      exact hs q arr ty p hc
    · obtain⟨a1, arr, ty, p, hc⟩ := hcl q hq
      have := (uaf.1 hc).1
      exact⟨a1, by simpa using this⟩
def qou{l:List ar.q}(r:∀ b,F b->b<w.heap.size)(o:Below w.heap.size w W)(K:aG w F (.sl ar) l (λ_ u=>u=v))(E:l.length<=1000000):
  Calls prog 145 #[v] W λe w'=>∃ s:dh,e=.returned (.slice s.1 s.2.1 s.2.2)/\Below W.heap.size W w' /\
   ∃ F',aG w' F' (.sl ar) l (λ_ u=>u=.slice s.1 s.2.1 s.2.2)/\∀ q,F' q->(F q\/W.heap.size<=q)/\∃ arr ty p,w'.heap[q]?= U (.cells arr ty p):=by
 obtain⟨A,c,rfl,d,f,y⟩:=K;have H:bJ w F (.sl ar) l (.slice A l.length c):=⟨rfl,⟨λh=>(by cases h),λ⟨L,h⟩=>(by cases h)⟩,A,c,rfl,d,f,y⟩;have k:=H.mono (λ_ h=>h) (λb h=>o.block b (r b h));refine(AW.2 W F (l,()) [.slice A l.length c] (λb h=>ucb (r b h) o.size) ⟨_,[],rfl,k,rfl⟩ E).mono ?_;rintro e w' ⟨u,F',rfl,a,M,d,f⟩;have g:=f;have i:=g.only (G:=λb=>F' b/\∃ arr ty p,w'.heap[b]?= U (.cells arr ty p)) (λb h D=>⟨h,D⟩) rfl;have z:aK prog w' (λb=>F' b/\∃ arr ty p,w'.heap[b]?= U (.cells arr ty p)) (λ_ _=>True) (eR (.sl ar) l) u:=iH i;have B:=z.2;obtain⟨m,n,x,C⟩:=B;subst x;exact⟨(m,l.length,n),rfl,a,(λb=>F' b/\∃ arr ty p,w'.heap[b]?= U (.cells arr ty p)),⟨m,n,rfl,C⟩,λq t=>⟨(d q t.1).1,t.2⟩⟩
def Tn{l:List ay.q}(h:aG w F (.sl ay) l (λ_ u=>u=v)):
  ∃ (A:Option Addr) (f:Nat) (b off:Nat) (c:Nat->ChC),v=.slice A l.length f/\(0<l.length->A=U ⟨b,off,V⟩/\F b) /\
   (∀ k j u,k<l.length->(dZ (c k))[j]?= U u->w.cell? ⟨b,off+(k*9+j),V⟩=U u) /\
   ∀ k x,l[k]?= U x->(c k).p 0=x.1/\aG w F (.sl ar) x.2.2.2.2.1 (λ_ u=>u=.slice (c k).A (c k).l (c k).c) /\
    ∀ (s:dh) (W:World) (F2:Nat->Prop),aG W F2 (.sl ar) x.2.2.2.2.1 (λ_ u=>u=.slice s.1 s.2.1 s.2.2)->bJ W F2 ay x (rc ((c k).set s)):=by
 obtain⟨A,f,D,R,S,E⟩:=h;by_cases H:0<l.length;obtain⟨i,G,L,M⟩:=E 0 l[0] (uaq H);have g:i.spot=none:=by
  have a:w.cell? (i.add (0*ay.size+0))=U (.int .i64 l[0].1):=M.1.1;have O:i.add (0*ay.size+0)=i:=by simp[Addr.add]
  rw[O]at a;unfold World.cell? at a;split at a;split at a;cases a;rename_i g;cases t:i.spot with
  |none=>rfl
  |some _=>rw[t]at g;exact absurd rfl g
  cases a
 obtain⟨b,off,T⟩:=i;subst g;have n:∀ k,∃ d:ChC,∀ x,l[k]?= U x->(∀ j u,(dZ d)[j]?= U u->w.cell? ⟨b,off+(k*9+j),V⟩=U u)/\d.p 0=x.1/\aG w F (.sl ar) x.2.2.2.2.1 (λ_ u=>u=.slice d.A d.l d.c) /\
   ∀ (s:dh) (W:World) (F2:Nat->Prop),aG W F2 (.sl ar) x.2.2.2.2.1 (λ_ u=>u=.slice s.1 s.2.1 s.2.2)->bJ W F2 ay x (rc (d.set s)):=by
  intro k;cases r:l[k]? with
  |none=>exact⟨⟨λ_=>0,V,0,0⟩,λx z=>by cases z⟩
  |some x=>
   obtain⟨K,m,_,P⟩:=E k x r;rw[G]at m;cases m;obtain⟨d,N,B⟩:=qn2 P;refine⟨d,λy Q=>?_⟩;cases Q;refine⟨λj u C=>?_,B⟩;have:=N j u C;rw[show ay.size=9 from rfl]at this;have e:(⟨b,off,V⟩:Addr).add (k*9+j)=⟨b,off+(k*9+j),V⟩:=by unfold Addr.add;split<;>simp_all
   rw[e]at this;exact this
 obtain⟨c,o⟩:=Classical.axiomOfChoice n;exact⟨A,f,b,off,c,D.symm,λ_=>⟨G,L⟩,λk j u r C=>(o k l[k] (uaq r)).1 j u C,λk x z=>(o k x z).2⟩;refine⟨A,f,0,0,λ_=>⟨λ_=>0,V,0,0⟩,D.symm,λh=>absurd h H,λk j u r=>absurd r (by omega),λk x z=>?_⟩;have:=(uak.1 z).1;omega
def lF(a:Int)(l:List ay.q):List ay.q:=l.filter λx=>J (x.1<=a)
def qpa{c:Nat->ChC}{l:List ay.q}(d:∀ k x,l[k]?= U x->(c k).p 0=x.1):(lT c day l.length).map (λk=>l.getD k ay.j)=lF day l:=by
 have f:l=(List.range l.length).map (λk=>l.getD k ay.j):=by apply List.ext_getElem;simp;intro i b g;simp[uaq b]
 unfold lF
 conv=>rhs;rw[f]
 rw[List.filter_map];congr 1;apply List.filter_congr;intro k e;have a:=uea.1 e;have b:=d k l[k] (uaq a);simp only[Function.comp_apply,uah,uaq a,udd];rw[b]
def qo6(n:Nat)(s:3<=n)(c:Nat->ChC)(F:Nat->Prop)(y:Nat->ay.q)(a:Nat)(f:a<=1000000)(d:Nat)(h:Array Value)(k:∀ b w,(callFunc d b).run prog w=.ok (.enter d b) w)(w:World)(l:∀ q,F q->q<w.heap.size)(S:List (Fin a×dh)->Prop)(g:∀ i,Below w.heap.size w i->DZ Fence.wide (n-1-1) prog d h (λx:Fin a×dh=>#[pD c x]) (Ak c F y) (Below w.heap.size) S a i):
  CallsIn Fence.wide n prog 161 #[.func (.func d) #[] h] w λe w'=>∃ v xs F',e=.returned v/\S xs/\Below w.heap.size w w' /\
   aG w' F' (.sl ay) (xs.map λx=>y x.1.1) (λ_ u=>u=v)/\∀ q,F' q->(F q\/w.heap.size<=q)/\q<w'.heap.size:=by
 refine callsIn_of_wp func161 rfl trivial ?_ rfl;simp only[ntmps161,ucq,uc9,udm,Nat.reduceAdd,Nat.reduceSub,ubn,ubo,ucy,ubx,udn,uc4]
 gi_wp2
 refine⟨uT,λ_=>by omega,?_⟩;refine(qld (n-1) (by omega) c F y a f d h k w l S g).mono ?_;rintro e w' ⟨v,xs,F',rfl,m,o,r,p⟩
 gi_wp2
 go_ret
 exact⟨v,xs,F',rfl,m,o,r,p⟩
def zri (n:Nat) (hn:1<=n) (B:∀ q,F q->q<w.heap.size) {l:List ay.q} {o oh m od:Nat} (z:o<w.heap.size) (y:m<w.heap.size) (hv:w.cell? ⟨o,oh+9,V⟩=U v) (D:w.cell? ⟨m,od,V⟩=U (.int .i64 day)) (hl:l.length<=1000000) (E:∀ x∈l,x.2.2.2.2.1.length<=1000000)
  {A:Option Addr} {t b i:Nat} {c:Nat->ChC} (e0:v=.slice A l.length t) (Q:0<l.length->A=U ⟨b,i,V⟩/\F b) (hc:∀ k j u,k<l.length->(dZ (c k))[j]?= U u->w.cell? ⟨b,i+(k*9+j),V⟩=U u)
  (hx:∀ k x,l[k]?= U x->(c k).p 0=x.1/\aG w F (.sl ar) x.2.2.2.2.1 (λ_ u=>u=.slice (c k).A (c k).l (c k).c) /\
    ∀ (s:dh) (Y:World) (F2:Nat->Prop),aG Y F2 (.sl ar) x.2.2.2.2.1 (λ_ u=>u=.slice s.1 s.2.1 s.2.2)->bJ Y F2 ay x (rc ((c k).set s)))
  (w0:World) (K:Below w.heap.size w w0) :
  DZ Fence.wide n prog 218 #[.pointer (U ⟨o,oh,V⟩),.pointer (U ⟨m,od,V⟩)] (λx:Fin l.length×dh=>#[pD c x]) (Ak c F λk=>l.getD k ay.j) (Below w.heap.size) (λxs=>xs.map (λx=>x.1.1)=lT c day l.length) l.length w0:=by
 intro lp J W hW hJ hY h0;have a:=K.trans (hW.mono K.size);refine zrh n hn lp o oh m od w.heap.size b i l.length t day c hl A (λh=>⟨(Q h).1,B b (Q h).2⟩) (Ak c F λk=>l.getD k ay.j) J (λL X Y G C=>Ee hJ G C) W a.size ?_ ?_
  ((ubd (a.block o z)).trans (hv.trans (by rw[e0]))) ((ubd (a.block m y)).trans D) (λk j u N G=>(ubd (a.block b (B _ (Q (by omega)).2))).trans (hc k j u N G)) h0
 intro k X hX;have N:=uaq k.2;obtain⟨_,hr,H⟩:=hx k.1 _ N;refine(qou B (a.trans hX.1) hr (E _ (udi k.2))).mono ?_;rintro e w' ⟨s,rfl,C,O,hr2,hq⟩;refine⟨s,rfl,C,λBx X0 Y h1 h2 h3 h4=>⟨O,?_,λq g=>?_⟩⟩;have hg:(l.getD k.1 ay.j)=l[k.1]:=by rw[uah,N];rfl
 show bJ Y O ay (l.getD k.1 ay.j) (pD c (k,s));rw[hg];refine H s Y O (aG.mono (λ_ h=>h) (λq g=>h4 q λe=>?_) (λ_ _ _ h=>h) hr2);rcases(hq q g).1 with h|h
 have:=B q h;omega;omega;obtain⟨a1,P,ty,p,R⟩:=hq q g;refine⟨a1.elim .inl λh=>.inr (uep h3 h),P,ty,p,(h4 q λe=>?_).trans R⟩;rcases a1 with h|h
 have:=B q h;omega;omega;intro L x X0 X G C hE T;obtain⟨fn,M,d,r,hy,hR⟩:=hY L x X0 X G C hE T;refine⟨fn,M,d,r,hy,hR.mono ?_⟩;rintro e W' ⟨rfl,S,f⟩;exact⟨rfl,S,f,f.block _ z,f.block _ y⟩
def qo5(r:∀ q,F q->q<w.heap.size){l:List ay.q}{g f:Nat}(m:g<w.heap.size)(i:f<w.heap.size)(K:w.cell? ⟨g,9,V⟩=U v)(H:aG w F (.sl ay) l (λ_ u=>u=v))(a:w.cell? ⟨f,0,V⟩=U (.int .i64 day))(s:l.length<=1000000)(d:∀ x∈l,x.2.2.2.2.1.length<=1000000):
  Calls prog 161 #[.func (.func 218) #[] #[.pointer (U ⟨g,0,V⟩),.pointer (U ⟨f,0,V⟩)]] w λe w'=>∃ u F',e=.returned u/\Below w.heap.size w w' /\
   aG w' F' (.sl ay) (lF day l) (λ_ M=>M=u)/\∀ q,F' q->(F q\/w.heap.size<=q)/\q<w'.heap.size:=by
 obtain⟨A,y,b,L,c,z,B,E,t⟩:=Tn H;refine(callsIn_wide.1 (qo6 4 (by omega) c F (λk=>l.getD k ay.j) l.length s 218 _ (enters_of func218 (by kernel_rfl) rfl) w r (λp=>p.map (λx=>x.1.1)=lT c day l.length)
  (λN o=>zri 2 (by omega) r m i (oh:=0) K a s d z B E t N o))).mono ?_
 rintro e w' ⟨u,p,F',rfl,C,D,n,G⟩;refine⟨u,F',rfl,D,?_,G⟩;have:(p.map λx=>l.getD x.1.1 ay.j)=lF day l:=by rw[<- qpa (c:=c) λk x h=>(t k x h).1,<- C,List.map_map];rfl
 rw[<- this];exact n
end
def UC(l:List ay.q):Prop:=l.length<=1000000/\∀ x∈l,x.2.2.2.2.1.length<=1000000
def KN(_:Nat)(g:FuncId)(a:List AV)(s:St):Option Tr:=
 if g=161 then match a with
  |[.c (.fn f [.ptr i 0,.ptr k 0])]=>match s.mem i,s.mem k with
   |some (.box _ [_,_,_,_,_,_,_,_,_,.sl t l]),U (.box _ [.int .i64 b])=>if h:t=ay then if f=218 then U (needL [UC (cY h l)] (.leaf (.val (.c (.sl ay (lF b (cY h l))))) s))else V else V
   |_,_=>V
  |_=>V
 else V
def qo4:jC prog KN:=by
 intro d g args s t r;unfold KN at r;split at r<;>try trivial
 rename_i hg;subst hg;split at r<;>try trivial
 rename_i f i k;split at r<;>try trivial
 rename_i ty1 c0 c1 c2 c3 c4 c5 c6 c7 c8 t l ty2 x G H;split at r<;>try trivial
 rename_i h;subst h;split at r<;>try trivial
 rename_i hf;subst hf;cases r;refine⟨enters_of func161 (by kernel_rfl) rfl,λE a w F O vs Q m hr hq=>?_⟩;obtain⟨⟨hf1,hf2⟩,hqv⟩:=hq
 match vs,hr with
 |[v1],⟨⟨_,hv1⟩,_⟩=>
  obtain⟨v,rfl,hsz,p⟩:=hv1;obtain⟨⟨u0,L,_,b1,T,rfl⟩,⟨u1,hu1,_,R,W,rfl⟩,_⟩:=p;have g1 : .pointer (U ⟨b1,0,V⟩)=O i:=by have:=T;unfold av at this;rw[G]at this;exact this
  have g2 : .pointer (U ⟨R,0,V⟩)=O k:=by have:=W;unfold av at this;rw[H]at this;exact this
  have ha:v = #[.pointer (U ⟨b1,0,V⟩),.pointer (U ⟨R,0,V⟩)]:=by
   apply ufp;exact hsz;intro i h1 h2;have o:v[1]?= U (.pointer (U ⟨R,0,V⟩)):=hu1
   match i,h2 with
   |0,_=>rw[uam h1]at L;exact ud4 L
   |1,_=>rw[uam h1]at o;exact ud4 o
  subst ha;obtain⟨d1,ar1,N,y,_,_,hs1,hcl⟩:=m.mem.ob i _ G;obtain⟨d2,ar2,e2,z,_,_,hs2,B⟩:=m.mem.ob k _ H;rw[<- g1]at N;rw[<- g2]at e2;cases N;cases e2;obtain⟨_,_,_,_,_,_,_,_,_,⟨x9,hx9,_,hr9⟩,_⟩:=hcl;obtain⟨⟨y0,hy0,_,hd0⟩,_⟩:=B;have C:y0=.int .i64 x:=hd0.1;subst C;refine(qo5 (eE m) (uaf.1 y).1 (uaf.1 z).1 ((cn y 9).trans hx9) hr9 ((cn z 0).trans hy0) hf1 hf2).mono λe w2 hp=>?_;obtain⟨u,P,rfl,hb,K,hq2⟩:=hp;have S:=qA m;obtain⟨M,m1⟩:=Step.below m.mem S (eE m) (F':=λq=>F q\/P q) hb (λ_ h=>.inl h) (λb hb'=>hb'.elim (λh=>⟨.inl h,ucb (eE m b h) hb.size⟩) (λh=>hq2 b h));have D:InvG prog E s a w2 [] (λq=>F q\/P q) O:=by refine⟨m.n,m.df,?_,m1,λt=>(m.sl t).mono M.hF M.hw M.hR,m.hg,λt=>M.repA (m.gh t)⟩;obtain⟨γ0,h0⟩:=m.step;exact⟨γ0,h0.trans M⟩
  have hr3:aG w2 (λq=>F q\/P q) (.sl ay) (lF x (cY rfl l)) (λ_ u'=>u'=u):=aG.mono (t:=.sl ay) (λ_ h=>Or.inr h) (λ_ _=>rfl) (λ_ _ _ h=>h) K;refine⟨_,_,_,O,hqv,D,u,rfl,?_,hr3⟩;obtain⟨A,c,N,_⟩:=K;rw[<- N];rfl
def Jm:FuncId->Option (Func×(Nat->St->Option Tr)):=cR [(162,(f162,bK))]
def qka:∀ f fn a,Jm f=U (fn,a)->prog.funcs[f]?= U fn/\∀ c b,fn.body=U c->co prog b a c 0:=λf fn a h=>by simp only[Jm,cR]at h;split at h;rename_i d;subst d;cases h;exact⟨by kernel_rfl,λc b _=>bm c 0⟩;cases h
def CKn:Cx:=dI [(145,mK ar)] [] (kR (iJ prog eN Jm) KN)
def qfh:CxOK prog CKn:=dP (ps:=[]) aH ⟨AW,uT⟩ trivial (mj (jt aL qka) qo4)
def Yw:aD.q:=(0,0,((0,0,()),(0,0,0,0,()),[],()),[],())
def ip(h:aD.q)(d:Int):aD.q×Int:=if d<h.2.1 then (Yw,7)else ((h.1,h.2.1,h.2.2.1,lF d h.2.2.2.1,()),0)
def t4:Ct:=⟨[.d aD,.d i64],[aD,i64],λx=>((ip x.1 x.2.1).1,(ip x.1 x.2.1).2,()),λx=>[cj x.1]⟩
def FT(x:ap [.d aD,.d i64]):Fr (aa [aD,i64]):=
 let h:aD.q:=x.1;let d:Int:=x.2.1
 Jb (J (h.2.1>d)) (Jv (Yw,7,()))
  (Jd (List.length (α:=ar.q) h.2.2.1.2.2.1<=1000000)
   (Jd (UC h.2.2.2.1)
    (Jv ((h.1,h.2.1,((h.2.2.1.1.1,h.2.2.1.1.2.1,()),(h.2.2.1.2.1.1,h.2.2.1.2.1.2.1,h.2.2.1.2.1.2.2.1,h.2.2.1.2.1.2.2.2.1,()),((mK ar).f (h.2.2.1.2.2.1,())).1,()),lF d h.2.2.2.1,()),0,()))))
def zax:ag prog 95 (bg [.d aD,.d i64] [aD,i64] FT):=
 aT qfh f95 (fr:=FT) (ps:=[.d aD,.d i64]) (rs:=[aD,i64])
def zav(h:aD.q)(d:Int)(b:cj h):(FT (h,d,())).ok/\(FT (h,d,())).get=((ip h d).1,(ip h d).2,()):=by unfold ip;by_cases a:d<h.2.1;rw[ufw a];exact aV (by simpa using a) ⟨uT,rfl⟩;rw[ufx a];exact aN (by simpa using a) (aw b.2.1 (aw ⟨uep b.1 (by decide),b.2.2⟩ ⟨uT,rfl⟩))
def zaw:ag prog 95 t4:=
 dz zax _ _ (λw F x c b a=>by obtain⟨h,d,_⟩:=x;exact zav h d a)
def qlk{h:aD.q}(b:cj h)(d:Int):cj (ip h d).1:=by unfold ip;split;exact⟨by decide,by decide,λc a=>by cases a⟩;refine⟨uep (List.length_filter_le _ _) b.1,b.2.1,λc a=>b.2.2 c (List.mem_filter.1 a).1⟩
def fG(h:aD.q)(t:bh.q)(d:Int):List aF.q×Int:=if (ip h d).2=0 then c9 (ip h d).1 t else ([],(ip h d).2)
def qT:Ct:=⟨[.d aD,.d bh,.d i64],[eK,i64],λx=>((fG x.1 x.2.1 x.2.2.1).1,(fG x.1 x.2.1 x.2.2.1).2,()),λx=>[cj x.1,bf x.2.1]⟩
def CKs:Cx:=cx [(95,t4),(37,iE)] []
def qfl:CxOK prog CKs:=aQ (ps:=[]) aH ⟨zaw,GP,uT⟩ trivial
abbrev o8:Pt:=⟨21,0,⟨[(10,.d i64),(9,.d i64),(8,.d (.sl ar)),(1,.d i64)],[.x 4 47 ar,.r 4 4 0]⟩,⟨[],[.x 4 47 ar,.r 4 4 0]⟩,⟨[(5,.d .bool)],[.x 4 47 ar,.r 4 4 0]⟩⟩
def U7(z:o8.M.X):Fr o8.Out:=
 let i:Int:=z.1.1;let n:Int:=z.1.2.1;let l:List ar.q:=z.1.2.2.1;let p:Int:=z.1.2.2.2.1;let o:ar.q:=z.2.1
 let e:ar.q:=l.getD i.toNat ar.j
 Jb (J (i<n))
  (Jd (0<=i/\i<(l.length:Int)) (Jb (e.1==p) (Jv (Rd.back ((Z,()),(e,())))) (Jv (Rd.next ((I6.wrap (i+1),n,l,p,()),(o,()))))))
  (Jv (Rd.out ((),(o,()))))
def zmq:af prog (au f60 0) o8.M o8 U7:=af.of_run aL (bs:=0) rfl rfl rfl (λ_=>bm _ 0) (λx=>by kernel_rfl)
def mi:ar.q:=(0,0,0,0,0,())
def em(p:Int):List ar.q->ar.q×Bool
 |[]=>(mi,Y)
 |c::l=>if c.1=p then (c,Z)else em p l
def Vd{p:Int}:{l:List ar.q}->(em p l).2=Y->(em p l).1=mi
 |[],_=>rfl
 |c::l,h=>by unfold em at h |-;split at h;cases h;rename_i a;rw[ufx a];exact Vd h
structure InFi (i n:Int) (l:List ar.q):Prop where
 i0:0<=i
 il:i<=n
 nl:n=l.length
 big:n<=9223372036854775807
def YS(o:ar.q)(r:ar.q×Bool):Fr o8.Out:=Jb r.2 (Jv (Rd.back ((Z,()),(r.1,())))) (Jv (Rd.out ((),(o,()))))
def Rh(z:o8.M.X):Fr o8.Out:=Jd (InFi z.1.1 z.1.2.1 z.1.2.2.1) (YS z.2.1 (em z.1.2.2.2.1 (z.1.2.2.1.drop z.1.1.toNat)))
def zby(i n:Int)(l:List ar.q)(p:Int)(o:ar.q)(d:InFi i n l)(Q:o8.Out->Prop)(a:(YS o (em p (l.drop i.toNat))).s7 Q):
  (U7 ((i,n,l,p,()),(o,()))).s7 λ
   |.next c=>InFi c.1.1 c.1.2.1 c.1.2.2.1/\((c.1.2.1:Int)-c.1.1).toNat<(n-i).toNat/\(Rh c).s7 Q
   |.out y=>Q (.out y)
   |.back z=>Q (.back z)
   |.pan p=>Q (.pan p):=by
 obtain⟨x,A,rfl,u⟩:=d;refine⟨λg=>?_,λg=>?_⟩;have h:i<(l.length:Int):=ucx g;obtain⟨k,rfl⟩:∃ n:Nat,i=n:=⟨i.toNat,by omega⟩;have s:k<l.length:=by omega
 have r:(k:Int).toNat=k:=by omega
 have v:((k:Int)+1).toNat=k+1:=by omega
 rw[r]at a;have w:I6.wrap ((k:Int)+1)=k+1:=IntWalk.i64_in _ (by omega);have t:l.getD (k:Int).toNat ar.j=l[k]:=by rw[r,uah,uaq s];rfl
 rw[ual s]at a;rw[t,w];refine⟨⟨by omega,by omega⟩,λf=>?_,λf=>?_⟩;have b:=ufj.1 f;have e:em p (l[k]::l.drop (k+1))=(l[k],Z):=ufw b;rw[e]at a;exact a.1 rfl;have b:=ubw.1 f;have e:em p (l[k]::l.drop (k+1))=em p (l.drop (k+1)):=ufx b;rw[e]at a;have m:InFi ((k:Int)+1) (l.length:Int) l:=⟨by omega,by omega,rfl,u⟩;refine⟨m,by show((l.length:Int)-((k:Int)+1)).toNat<((l.length:Int)-(k:Int)).toNat;omega,m,?_⟩;exact a;have h:¬ i<(l.length:Int):=uch g;have:l.drop i.toNat=[]:=ua2 (by omega);rw[this]at a;exact a.2 rfl
def zc7:af prog (.loop (au f60 0)) o8.M o8 Rh:=by refine af.loop zmq (μ:=λx=>((x.1.2.1:Int)-x.1.1).toNat) ?_ (λx Q h=>h.1);rintro⟨⟨i,n,l,p,_⟩,o,_⟩ a Q b;exact zby i n l p o a Q b.2
def E6:Ct:=⟨[.d (.sl ar),.d i64],[ar,.bool],λx=>((em x.2.1 x.1).1,(em x.2.1 x.1).2,()),λ_=>[]⟩
def qw5(x:ap [.d (.sl ar),.d i64]):Fr (aa [ar,.bool]):=
 let l:List ar.q:=x.1;let p:Int:=x.2.1
 Jd (InFi 0 l.length l) (Jb (em p (l.drop (0:Int).toNat)).2 (Jv ((em p (l.drop (0:Int).toNat)).1,Z,())) (Jv (mi,Y,())))
def qwm:ag prog 60 E6:=
 dz (cZ aL zc7 (fr:=qw5)) _ _
  (λw F x h e _=>by
   obtain⟨l,p,_⟩:=x;obtain⟨g,f,rfl,b,_⟩:=e;have a:=pg b;have c:InFi 0 (l.length:Int) l:=⟨ufc _,ub4 _,rfl,a⟩;refine aw c ?_;show(Jb (em p l).2 (Jv ((em p l).1,Z,())) (Jv (mi,Y,())):Fr (aa [ar,.bool])).ok/\(Jb (em p l).2 (Jv ((em p l).1,Z,())) (Jv (mi,Y,())):Fr (aa [ar,.bool])).get=((em p l).1,(em p l).2,());cases d:(em p l).2 with
   |true=>exact aV rfl ⟨uT,rfl⟩
   |false=>rw[Vd d];exact aN rfl ⟨uT,rfl⟩)
def AE:Pc:=⟨[.d .bool,.d i64],[],λ_=>(),λx=>!x.1,λx=>⟨165+1000000,.i64,x.2.1⟩,λ_=>[]⟩
def zra:lM prog 56 AE:=by
 refine⟨enters (fn:=f56) (by kernel_rfl) rfl rfl,λw F o r g k _=>?_⟩;obtain⟨v,m,rfl,l,e,f,rfl,d,i⟩:=k;cases i;obtain⟨s,n,_⟩:=o;have c:v=.bool s:=by have h:aK prog w F (λ_ _=>True) (eR .bool s) v:=iH l;exact h.2
 have a:e=.int .i64 n:=by have h:aK prog w F (λ_ _=>True) (eR i64 n) e:=iH d;exact h.2.1
 subst c;subst a;cases s
 ·go_enter func56,ntmps56
  go_wp2
  refine⟨rfl,.inr ⟨rfl,?_,ufk _ _⟩⟩;show Ending.panicked _=Ending.panicked [{ v:=PV.val ⟨165+1000000,.i64,n⟩,recovered:=Y }];rw[qd8 (p:=⟨165+1000000,.i64,n⟩) (T:=165) rfl]
 ·go_enter func56,ntmps56
  go_wp2
  go_end0
  refine .inl ⟨rfl,.tuple #[],F,rfl,ufk _ _,λ_ h=>h,λb h=>⟨.inl h,g b h⟩,#[],rfl,rfl⟩
def qwn{d g:Nat}{o D:TypeId}{E t r n k c e f h m p:Value}(l:d≠g)(M:w.heap[d]?= U (.cells #[E,t,r,n,k] o (0,0)))(N:w.heap[g]?= U (.cells #[c] D (0,0))):
  DY (((((((w.setCell ⟨d,0,V⟩ e).setCell ⟨d,1,V⟩ f).setCell ⟨d,2,V⟩ h).setCell ⟨d,3,V⟩ m).setCell ⟨d,4,V⟩ p).setCell ⟨g,0,V⟩ u).drew) ((w.setRow d #[e,f,h,m,p]).setRow g #[u]):=by
 have x:∀ X:World,X.drew.os=X.os/\X.drew.tape=X.tape/\X.drew.output=X.output/\X.drew.heap=X.heap:=λ_=>⟨rfl,rfl,rfl,rfl⟩;have y:∀ (X:World) (a:Addr) (v:Value),(X.setCell a v).os=X.os/\(X.setCell a v).tape=X.tape/\(X.setCell a v).output=X.output:=λ_ _ _=>⟨rfl,rfl,rfl⟩;have z:∀ (X:World) (b:Nat) (v:Array Value),(X.setRow b v).os=X.os/\(X.setRow b v).tape=X.tape/\(X.setRow b v).output=X.output:=λ_ _ _=>⟨rfl,rfl,rfl⟩;unfold DY;simp only[(x _).1,(x _).2.1,(x _).2.2.1,(y _ _ _).1,(y _ _ _).2.1,(y _ _ _).2.2,(z _ _ _).1,(z _ _ _).2.1,(z _ _ _).2.2,ufs,and_true];have F:=uc1 w d 0 _ o e M;rw[show(#[E,t,r,n,k]:Array Value).setIfInBounds 0 e = #[e,t,r,n,k] from rfl]at F;have G:=uc1 _ d 1 _ o f F;rw[show(#[e,t,r,n,k]:Array Value).setIfInBounds 1 f = #[e,f,r,n,k] from rfl]at G;have H:=uc1 _ d 2 _ o h G;rw[show(#[e,f,r,n,k]:Array Value).setIfInBounds 2 h = #[e,f,h,n,k] from rfl]at H;have K:=uc1 _ d 3 _ o m H;rw[show(#[e,f,h,n,k]:Array Value).setIfInBounds 3 m = #[e,f,h,m,k] from rfl]at K;have L:=uc1 _ d 4 _ o p K;have C:∀ i,i≠d->(((((w.setCell ⟨d,0,V⟩ e).setCell ⟨d,1,V⟩ f).setCell ⟨d,2,V⟩ h).setCell ⟨d,3,V⟩ m).setCell ⟨d,4,V⟩ p).heap[i]?= w.heap[i]? := λi s=>(uck _ _ i _ s).trans ((uck _ _ i _ s).trans ((uck _ _ i _ s).trans ((uck _ _ i _ s).trans (uck _ _ i _ s))))
 generalize ((((w.setCell ⟨d,0,V⟩ e).setCell ⟨d,1,V⟩ f).setCell ⟨d,2,V⟩ h).setCell ⟨d,3,V⟩ m).setCell ⟨d,4,V⟩ p=X at L C;have O:=uc1 X g 0 _ D u ((C g (Ne.symm l)).trans N);have P:=ufe w d _ #[e,f,h,m,p] o (0,0) M;have Q:=ufe (w.setRow d #[e,f,h,m,p]) g _ #[u] D (0,0) ((ue0 w d g _ (Ne.symm l)).trans N);apply uci;intro i;by_cases A:i=d;subst A;exact((uck _ _ i _ l).trans L).trans ((ue0 _ g i _ l).trans P).symm;by_cases B:i=g;subst B;exact O.trans Q.symm;exact((uck _ _ i _ B).trans (C i A)).trans ((ue0 _ g i _ B).trans (ue0 _ d i _ A)).symm
def zqf:ToldTwo prog 55 165 .i64 5:=by
 refine⟨enters (fn:=f55) (by kernel_rfl) rfl rfl,λp q w=>?_,λr s H K o1 G n w d b e c f=>?_⟩
 ·refine callsD_of_wpS func55 rfl λa t g=>?_;simp only[ntmps55,ucq,uc9,udm,Nat.reduceAdd,Nat.reduceSub,ubn,ubo,ucy,ubx,udn,uc4];apply wpS_seq;apply wpS_region;simp[wpOpsS,go_sem,recoverD,g,Exit.thenS];refine wpS_of_wp ?_
  go_wp2
  cases a
  simp_all[bodyPostS,results,results55]
 ·have v:∀ w,(Instr.typeAssert (.iface 165 (.agg #[.int .i64 n])) 20 165 Y).run prog w=.ok (.agg #[.int .i64 n]) w:=λ_=>by kernel_rfl
  have u:∀ w,(Instr.field 165 (.agg #[.int .i64 n]) 0).run prog w=.ok (.int .i64 n) w:=λ_=>by kernel_rfl
  obtain⟨h,k,l,m,o,rfl⟩:∃ h k l m o,o1 = #[h,k,l,m,o]:=⟨o1[0],o1[1],o1[2],o1[3],o1[4],by
   apply ufp;exact e;intro i b c
   match i,c with
   |0,_|1,_|2,_|3,_|4,_=>rfl⟩
  obtain⟨D,rfl⟩:=Ok f;have x:=cn b 0;have y:=cn b 1;have z:=cn b 2;have A:=cn b 3;have B:=cn b 4;have C:=cn c 0;simp at x y z A B C;have E:∀ j,w.frozen? ⟨r,j,V⟩=false:=λj=>by simp[World.frozen?,b]
  have F:w.frozen? ⟨s,0,V⟩=false:=by simp[World.frozen?,c]
  refine callsD_of_wpS func55 rfl λa t g=>?_;simp only[ntmps55,ucq,uc9,udm,Nat.reduceAdd,Nat.reduceSub,ubn,ubo,ucy,ubx,udn,uc4];apply wpS_seq;apply wpS_region;simp[wpOpsS,go_sem,recoverD,g,Exit.thenS];refine wpS_of_wp ?_
  go_wp2
  go_region
  go_wp2
  simp[bodyPostS,results,results55];exact qwn d b c
def M7(x:ap [.d aD,.d bh,.d i64]):Fr (aa [eK,i64]):=
 let h:aD.q:=x.1;let t:bh.q:=x.2.1;let d:Int:=x.2.2.1
 Jd (cj h) (Jb ((t4.f (h,d,())).2.1 != 0) (Jv ([],(t4.f (h,d,())).2.1,()))
  (Jd (cj (t4.f (h,d,())).1) (Jd (bf t) (Jv ((iE.f ((t4.f (h,d,())).1,t,())).1,(iE.f ((t4.f (h,d,())).1,t,())).2.1,())))))
def za1:ag prog 58 (bg [.d aD,.d bh,.d i64] [eK,i64] M7):=
 aT qfl f58
def zaz(h:aD.q)(t:bh.q)(d:Int)(b:cj h)(c:bf t):(M7 (h,t,d,())).ok/\(M7 (h,t,d,())).get=((fG h t d).1,(fG h t d).2,()):=by refine aw b ?_;unfold fG;by_cases a:(ip h d).2=0;rw[ufw a];exact aN (by show((ip h d).2 != 0)=Y;simp[a]) (aw (qlk b d) (aw c ⟨uT,rfl⟩));rw[ufx a];exact aV (by show((ip h d).2 != 0)=Z;simp[a]) ⟨uT,rfl⟩
def za0:ag prog 58 qT:=
 dz za1 _ _ (λw F x c b a=>by obtain⟨h,t,d,_⟩:=x;exact zaz h t d a.1 a.2)
def Er(e:Int):Prop:=0<=e/\e<=20
def kD:Er 0:=⟨by decide,by decide⟩
def mQ:Er 1:=⟨by decide,by decide⟩
def mR:Er 5:=⟨by decide,by decide⟩
def mS:Er 6:=⟨by decide,by decide⟩
def lX:Er 7:=⟨by decide,by decide⟩
def qr8(a b c:Int):Er (du a b c).2:=by
 unfold du;split
 first|exact kD|exact mQ|exact mR|exact mS|exact lX
 split
 first|exact kD|exact mQ|exact mR|exact mS|exact lX
 split<;>first|exact kD|exact mQ|exact mR|exact mS|exact lX
def S1:(l:List Int)->(m:Int)->Er (gR l m).2
 |[],_=>kD
 |b::r,m=>by unfold gR;split;exact S1 r _;exact qr8 _ _ _
def zh1(v:aU.q)(r:eV.q)(c:ar.q):Er (fa v r c).2:=by
 unfold fa;split;split
 first|exact kD|exact mQ|exact mR|exact mS|exact lX
 split
 first|exact kD|exact mQ|exact mR|exact mS|exact lX
 exact S1 _ _
 first|exact kD|exact mQ|exact mR|exact mS|exact lX
def I7(v:aU.q)(r:eV.q):(l:List ar.q)->(q:Int)->(b:Bool)->Er (iR v r l q b).2.2
 |[],_,_=>kD
 |c::l,q,b=>by unfold iR;split;split;split;exact I7 v r l _ _;exact I7 v r l _ _;exact I7 v r l _ _;exact zh1 _ _ _
def zr5(v:aU.q)(r:eV.q)(l:List ar.q):Er (zS v r l).2:=by
 unfold zS;split;split<;>first|exact kD|exact mQ|exact mR|exact mS|exact lX
 exact I7 _ _ _ _ _
def Lw(v:aU.q):(l:List aF.q)->Er (dJ v l)
 |[]=>kD
 |s::l=>by unfold dJ;split;split;exact Lw v l;exact zr5 _ _ _;exact Lw v l
def qdv(d:Int):(l:List aU.q)->Er (cE d l).2
 |[]=>lX
 |v::r=>by
  unfold cE;split
  first|exact kD|exact mQ|exact mR|exact mS|exact lX
  exact qdv d r
def zg2(h:aD.q)(t:bh.q):Er (c9 h t).2:=by
 unfold c9;split;split;split
 first|exact kD|exact mQ|exact mR|exact mS|exact lX
 exact Lw _ _;exact qdv _ _
 first|exact kD|exact mQ|exact mR|exact mS|exact lX
def zbc(h:aD.q)(t:bh.q)(d:Int):Er (fG h t d).2:=by unfold fG;split;exact zg2 _ _;unfold ip;split<;>first|exact kD|exact mQ|exact mR|exact mS|exact lX
def Er.inR{e:Int}(h:Er e):inR .i64 e:=by
 obtain⟨c,d⟩:=h;have a:IntKind.i64.min=-9223372036854775808:=by decide
 have b:IntKind.i64.max=9223372036854775807:=by decide
 unfold Go.Ab.inR;rw[a,b];omega
def Tp(c:dx.q):Bool:=Fd c.1 c.2.1 c.2.2.1 c.2.2.2.1 c.2.2.2.2.1 c.2.2.2.2.2.1
def Fh(l:List aF.q)(c:dx.q):ar.q×Int:=
 if ((cz l c.2.2.2.1).2&&(cz l c.2.2.2.1).1.2.1)=Z then
  (if (em c.2.2.1 (cz l c.2.2.2.1).1.2.2.2.1).2=Z then ((em c.2.2.1 (cz l c.2.2.2.1).1.2.2.2.1).1,0)else (mi,11))
 else (mi,11)
def fz(h:aD.q)(t:bh.q)(c:dx.q):ar.q×Int:=
 if Tp c=Z then
  (if c.2.2.2.1<=c.2.2.2.2.1 then
   (if c.2.1=h.1 then (if (fG h t c.2.2.2.2.1).2=0 then Fh (fG h t c.2.2.2.2.1).1 c else (mi,(fG h t c.2.2.2.2.1).2))else (mi,7))
  else (mi,4))
 else (mi,1)
def Ex:Ct:=⟨[.d aD,.d bh,.d dx],[ar,i64],λx=>((fz x.1 x.2.1 x.2.2.1).1,(fz x.1 x.2.1 x.2.2.1).2,()),λx=>[cj x.1,bf x.2.1]⟩
def Qo:Cx:=cx [(57,JT),(58,qT),(59,wJ),(60,E6)] [(56,AE)]
def Qp:CxOK prog Qo:=aQ aH ⟨zgq,za0,zn7,qwm,uT⟩ ⟨zra,uT⟩
def pd(b:Bool)(e:Int)(k:Fr (aa [ar,i64])):Fr (aa [ar,i64]):=
 Jb (AE.bad (b,e,())) (Jd (inR .i64 (AE.pv (b,e,())).n) (Jv ((0,0,0,0,0,()),(AE.pv (b,e,())).n,()))) k
def FN(x:ap [.d aD,.d bh,.d dx]):Fr (aa [ar,i64]):=
 let h:aD.q:=x.1;let t:bh.q:=x.2.1;let c:dx.q:=x.2.2.1
 pd (JT.f (c,())).1 1 (pd (J (c.2.2.2.2.1>=c.2.2.2.1)) 4 (pd (c.2.1==h.1) 7 (Jd (cj h) (Jd (bf t)
  (pd ((qT.f (h,t,c.2.2.2.2.1,())).2.1==0) (qT.f (h,t,c.2.2.2.2.1,())).2.1
   (pd (bif (wJ.f ((qT.f (h,t,c.2.2.2.2.1,())).1,c.2.2.2.1,())).2.1 then (wJ.f ((qT.f (h,t,c.2.2.2.2.1,())).1,c.2.2.2.1,())).1.2.1 else Y) 11
    (pd (E6.f ((wJ.f ((qT.f (h,t,c.2.2.2.2.1,())).1,c.2.2.2.1,())).1.2.2.2.1,c.2.2.1,())).2.1 11
     (Jv ((E6.f ((wJ.f ((qT.f (h,t,c.2.2.2.2.1,())).1,c.2.2.2.1,())).1.2.2.2.1,c.2.2.1,())).1,0,())))))))))
def Tx:Code:=(f25.body.map λc=>mC (mC c)).getD .skip
def qpl:ag prog 25 (bg [.d aD,.d bh,.d dx] [ar,i64] FN):=
 qrg Qp (run:=λs=>cQ prog Qo 0 bK Tx 0 s) (T:=165) (k:=.i64) (m:=5) (fn:=f25) (A:=ur (f25.body.getD .skip)) (c:=Tx) (rid:=1) (ops:=Oq (ur (mC (f25.body.getD .skip)))) (td:=12) (ta:=6) (tb:=7) (fr:=FN) (ps:=[.d aD,.d bh,.d dx]) (rs:=[ar,i64]) (aD.j,bh.j,dx.j,())
  (by kernel_rfl) (by kernel_rfl) (by kernel_rfl) zqf (λE=>xl Qp (bm _ 0)) (λx=>by kernel_rfl)
def zQ{b:Bool}{e:Int}{k:Fr (aa [ar,i64])}{y:aa [ar,i64]}(a:b=Z)(c:k.ok/\k.get=y):(pd b e k).ok/\(pd b e k).get=y:=aN (by show(!b)=Y;rw[a];rfl) c
def zP{b:Bool}{e:Int}{k:Fr (aa [ar,i64])}(a:b=Y)(c:inR .i64 e):(pd b e k).ok/\(pd b e k).get=(mi,e,()):=aV (by show(!b)=Z;rw[a];rfl) (aw c ⟨uT,rfl⟩)
def qpk(h:aD.q)(t:bh.q)(c:dx.q)(i:cj h)(k:bf t):(FN (h,t,c,())).ok/\(FN (h,t,c,())).get=((fz h t c).1,(fz h t c).2,()):=by unfold fz;by_cases a:Tp c=Z;rw[ufw a];refine zQ a ?_;by_cases b:c.2.2.2.1<=c.2.2.2.2.1;rw[ufw b];refine zQ (by simpa using b) ?_;by_cases d:c.2.1=h.1;rw[ufw d];refine zQ (by simpa using d) (aw i (aw k ?_));by_cases e:(fG h t c.2.2.2.2.1).2=0;rw[ufw e];refine zQ (by show((fG h t c.2.2.2.2.1).2==0)=Z;simpa using e) ?_;unfold Fh;by_cases f:((cz (fG h t c.2.2.2.2.1).1 c.2.2.2.1).2&&(cz (fG h t c.2.2.2.2.1).1 c.2.2.2.1).1.2.1)=Z;rw[ufw f];refine zQ ((qO _ _).trans f) ?_;by_cases g:(em c.2.2.1 (cz (fG h t c.2.2.2.2.1).1 c.2.2.2.1).1.2.2.2.1).2=Z;rw[ufw g];exact zQ g ⟨uT,rfl⟩;rw[ufx g];exact zP (ucz.2 g) ⟨by decide,by decide⟩;rw[ufx f];exact zP ((qO _ _).trans (ucz.2 f)) ⟨by decide,by decide⟩;rw[ufx e];exact zP (by show((fG h t c.2.2.2.2.1).2==0)=Y;simpa using e) (zbc h t _).inR;rw[ufx d];exact zP (by simpa using d) ⟨by decide,by decide⟩;rw[ufx b];exact zP (by simpa using b) ⟨by decide,by decide⟩;rw[ufx a];exact zP (ucz.2 a) ⟨by decide,by decide⟩
def Tz:ag prog 25 Ex:=
 dz qpl _ _ (λw F x d b a=>by obtain⟨h,t,c,_⟩:=x;exact qpk h t c a.1 a.2)
def qge:Cx:=cx [(189,wL),(131,t7),(146,EA)] []
def qgf:CxOK prog qge:=aQ aH ⟨TL,PH,Zd,uT⟩ trivial
def qtm(x:ap [.d i64,.d i64,.d dF]):Fr (aa [aD,i64]):=
 Jb (bif bif bif J (x.1<1)then Z else J (x.1>1000000000)then Z else !(wL.f (x.2.1,())).1 then Z else !(t7.f (x.2.2.1,())).1) (Jv ((0,0,((0,0,()),(0,0,0,0,()),[],()),[],()),1,())) (Jd (List.length x.2.2.1.2.2.1<=1000000) (Jv ((x.1,x.2.1,(EA.f (x.2.2.1,())).1,[],()),0,())))
def qtn:ag prog 279 (bg [.d i64,.d i64,.d dF] [aD,i64] qtm):=
 aT qgf f279
def wD(id a:Int)(t:dF.q):Bool:=bif bif bif J (id<1)then Z else J (id>1000000000)then Z else !(jo a)then Z else !(i9 t)
def mH(id a:Int)(t:dF.q):aD.q×Int:=bif wD id a t then (iy,1)else ((id,a,t,[],()),0)
def S4:Ct:=⟨[.d i64,.d i64,.d dF],[aD,i64],λx=>((mH x.1 x.2.1 x.2.2.1).1,(mH x.1 x.2.1 x.2.2.1).2,()),λ_=>[]⟩
def qct{t:dF.q}(h:i9 t=Z):t.2.2.1.length<=1000000:=by unfold i9 at h;rw[udc,udc,udc]at h;have a:ky t.2.2.1=true:=h.2.2.2;unfold ky at a;rw[udc]at a;have:=ucx a.1;exact uep this.2 (by decide)
def Sm{id a:Int}{t:dF.q}(h:wD id a t=Y):i9 t=true:=by
 unfold wD at h;cases c:i9 t;rw[c]at h;cases b:(bif bif J (id<1)then Z else J (id>1000000000)then Z else !(jo a))<;>rw[b]at h<;>cases h
 rfl
def ql9:ag prog 279 S4:=conv qtn _ _ (λ_ _ x _ _ _=>by obtain⟨id,a,t,_⟩:=x;show _/\_=((mH id a t).1,(mH id a t).2,());unfold mH;cases h:wD id a t;exact aN h (aw (qct (Sm h)) ⟨uT,rfl⟩);exact aV h ⟨uT,rfl⟩)
def Sx(id b:Int)(t:dF.q):cj (mH id b t).1:=by unfold mH;cases h:wD id b t;exact⟨by show 0<=500000;omega,qct (Sm h),λc a=>by cases a⟩;have z:cj iy:=⟨by decide,by decide,λc a=>by cases a⟩;exact z
def JN:Ct:=⟨[.d bn],[i64],λx=>(ev x.1,()),λ_=>[]⟩
def Ki:Ct:=⟨[.d aq],[i64],λx=>(kK x.1,()),λ_=>[]⟩
def lO(f:ae.q)(g:aq.q):Bool:=bif g.1.2.1==iw f then J (g.1.2.2.2.2.1>=bF f)else Y
def JL:Ct:=⟨[.d aq,.ptr ae],[.bool],λx=>(lO x.2.1 x.1,()),λ_=>[]⟩
def ql5:ag prog 281 JN:=
 conv (aT aL f281 (fr:=λx=>Jv (ev x.1,())) (ps:=JN.ps) (rs:=[i64])) _ _ (λ_ _ _ _ _ _=>⟨uT,rfl⟩)
def zf2:ag prog 296 Ki:=
 conv (aT aL f296 (fr:=λx=>Jv (kK x.1,())) (ps:=Ki.ps) (rs:=[i64])) _ _ (λ_ _ _ _ _ _=>⟨uT,rfl⟩)
def qkv:ag prog 290 JL:=
 conv (aT aL f290 (fr:=λx=>Jv (lO x.2.1 x.1,())) (ps:=JL.ps) (rs:=[.bool])) _ _ (λ_ _ _ _ _ _=>⟨uT,rfl⟩)
def qf1:Cx:=cx [(317,Ko),(96,iD)] []
def qf2:CxOK prog qf1:=aQ aH ⟨zjc,rC,uT⟩ trivial
abbrev rU:Pt:=⟨28,2,⟨[(14,.d i64),(13,.d i64),(12,.d (.sl ah)),(6,.d i64),(1,.d i64),(5,.d i64),(9,.d i64),(0,.d (.sl ah))],[]⟩,⟨[(6,.d i64),(1,.d i64),(9,.d i64),(0,.d (.sl ah))],[]⟩,⟨[],[]⟩⟩
def WF:Code:=((eP (au f313 0) 0).getD .skip)
abbrev HJ:Type:=ap [.d i64,.d i64,.d i64,.d i64,.d (.sl ah)]×dj []
def zC(e:ah.q)(s:HJ):Fr HJ:=
 let a:=s.1.2;Jd (¬a.2.1<0) (Jv ((I6.wrap (s.1.1+(Ko.f (e,a.1,a.2.1,())).1),a.1,a.2.1,a.2.2.1,a.2.2.2.1,()),()))
def PQ(x:rU.M.X):Int×List ah.q×HJ:=(x.1.1,x.1.2.2.1,x.1.2.2.2,x.2)
def MZ(x:rU.M.X):Prop:=x.1.2.1=(x.1.2.2.1.length:Int)
def YV(s:HJ):rU.E.X:=((s.1.1,s.1.2.1,s.1.2.2.2.1,s.1.2.2.2.2.1,()),())
def zec:af prog (.loop WF) rU.M rU (FF zC PQ MZ YV):=
 zT qf2 (λ_ _=>.n .o) ah.j (λx=>x.1.2.1) (λx s=>((I6.wrap (x.1.1+1),x.1.2.1,x.1.2.2.1,s.1),s.2)) (λ_ h=>h)
def zsr(a:Gm):St->Option Tr:=rU.han a rU.M (FF zC PQ MZ YV)
abbrev yV:Pt:=⟨33,0,⟨[(15,.d i64),(14,.d i64),(13,.d (.sl ah))],[.x 3 73 ah,.r 3 3 0,.y 5 30 [(U 73,ah)],.r 5 5 0]⟩,⟨[],[.x 3 73 ah,.r 3 3 0,.y 5 30 [(U 73,ah)],.r 5 5 0]⟩,⟨[],[]⟩⟩
abbrev De:Type:=ap []×dj [.x 3 73 ah,.r 3 3 0,.y 5 30 [(U 73,ah)],.r 5 5 0]
def zH(e:ah.q)(s:De):Fr De:=
 let b:=s.2.2.1.1;let a:=(e.1,e.2.1,e.2.2.1,e.2.2.2.1,e.2.2.2.2.1,e.2.2.2.2.2.1,e.2.2.2.2.2.2.1,I6.wrap ((Bvo I6.bits e.2.2.2.2.2.2.2.1 &&& Bvo I6.bits s.2.1.2.2.2.2.2.2.2.1).toNat:Int),());Jd (b.length + [a].length<=maxLen/\(b.length + [a].length)*72<=140737488355328) (Jv ((),s.2.1,(b++[a],()),()))
def qdh(x:yV.M.X):Int×List ah.q×De:=(x.1.1,x.1.2.2.1,x.1.2.2.2,x.2)
def Wb(x:yV.M.X):Prop:=x.1.2.1=(x.1.2.2.1.length:Int)
def zih(s:De):yV.E.X:=((),s.2.1,(s.2.2.1.1,()),())
def ze7:af prog (.loop (au f310 0)) yV.M yV (FF zH qdh Wb zih):=
 zT aL (λ_ _=>.n .o) ah.j (λx=>x.1.2.1) (λx s=>((I6.wrap (x.1.1+1),x.1.2.1,x.1.2.2.1,s.1),s.2)) (λ_ h=>h)
abbrev vg:Pt:=⟨22,0,⟨[(9,.d i64),(8,.d i64),(7,.d (.sl ae)),(3,.d i64)],[]⟩,⟨[(3,.d i64)],[]⟩,⟨[],[]⟩⟩
abbrev Db:Type:=ap [.d i64]×dj []
def oV(e:ae.q)(s:Db):Fr Db:=
 Jb (e.2.1==7) (Jv ((if s.1.1<e.2.2.2.2.1 then e.2.2.2.2.1 else s.1.1,()),())) (Jv ((s.1.1,()),()))
def s9(x:vg.M.X):Int×List ae.q×Db:=(x.1.1,x.1.2.2.1,x.1.2.2.2,x.2)
def VW(x:vg.M.X):Prop:=x.1.2.1=(x.1.2.2.1.length:Int)
def YU(s:Db):vg.E.X:=((s.1.1,()),())
def zd8:af prog (.loop (au f86 0)) vg.M vg (FF oV s9 VW YU):=
 zT aL (λ_ _=>.n .o) ae.j (λx=>x.1.2.1) (λx s=>((I6.wrap (x.1.1+1),x.1.2.1,x.1.2.2.1,s.1),s.2)) (λ_ h=>h)
def zky(y:vg.M.X):Db:=ft oV ((s9 y).2.1.drop (s9 y).1.toNat) (s9 y).2.2
def zhq(y:vg.M.X):Prop:=kQ oV ((s9 y).2.1.drop (s9 y).1.toNat) (s9 y).2.2
abbrev oB:Pt:=⟨28,0,⟨[(9,.d i64),(0,.d (.sl ah)),(1,.d i64)],[]⟩,⟨[],[]⟩,⟨[(4,.d .bool)],[]⟩⟩
def zM(b a:Int)(l:List ah.q)(s:Int):Int:=l.foldl (λs t=>I6.wrap (s+cS t b a)) s
def T5(a p i:Int)(b:List ah.q):(l:List ah.q)->(s:Int)->ft zC l ((s,a,p,i,b,()),())=((zM a p l s,a,p,i,b,()),())
 |[],_=>rfl
 |t::l,s=>T5 a p i b l (I6.wrap (s+cS t a p))
def T6(a p i:Int)(b:¬ p<0)(c:List ah.q):(l:List ah.q)->(s:Int)->kQ zC l ((s,a,p,i,c,()),())
 |[],_=>trivial
 |t::l,s=>⟨⟨b,uT⟩,T6 a p i b c l (I6.wrap (s+cS t a p))⟩
abbrev qrx(i:Int)(l:List ah.q)(a:Int):rU.M.X:=((0,((List.length l:Nat):Int),l,0,a,i,i,l,()),())
def Vy(x:oB.M.X):Fr oB.Out:=
 let b:=qrx x.1.1 x.1.2.1 x.1.2.2.1;let a:=ft zC (List.drop 0 x.1.2.1) ((0,x.1.2.2.1,x.1.1,x.1.1,x.1.2.1,()),());Jb (J (x.1.1<8)) (Jd (InL (MZ b) (PQ b))
  (Jd (kQ zC (List.drop 0 x.1.2.1) ((0,x.1.2.2.1,x.1.1,x.1.1,x.1.2.1,()),()))
   (Jb (J (a.1.1>10000)) (Jv (Rd.back ((Z,()),())))
    (Jv (Rd.next ((I6.wrap (a.1.2.2.2.1+1),a.1.2.2.2.2.1,a.1.2.1,()),()))))))
  (Jv (Rd.out ((),())))
def zm2:af prog (au f313 0) oB.M oB Vy:=
 af.of_run aL (bs:=0) (Λ:=λ_=>zsr eN.Γ) rfl rfl rfl (λE=>rI _ 0 λi b a=>by
  match i,a with
  |0,a=>
   have e:U WF=U b:=by rw[<- a];kernel_rfl
   cases e;exact af.han aL rfl zec
  |i+1,a=>exact absurd (qR a) (by
   have:cD (au f313 0)=1:=by kernel_rfl
   omega)) (λx=>by kernel_rfl)
def tH(l:List ah.q)(a:Int):Nat->Int->Bool
 |0,_=>Y
 |n+1,p=>J (zM a p l 0>10000) || tH l a n (p+1)
def xm(l:List ah.q)(a:Int):Bool:=tH l a 8 0
def Al(i:Int)(l:List ah.q):Prop:=0<=i/\i<=8/\((List.length l:Nat):Int)<=9223372036854775807
def Rs(x:oB.M.X):Fr oB.Out:=
 Jd (Al x.1.1 x.1.2.1) (Jb (tH x.1.2.1 x.1.2.2.1 (8-x.1.1).toNat x.1.1) (Jv (Rd.back ((Z,()),()))) (Jv (Rd.out ((),()))))
def zch (i:Int) (l:List ah.q) (b:Int) (d:Al i l) (Q:oB.Out->Prop) (a:(Jb (tH l b (8-i).toNat i) (Jv (Rd.back ((Z,()),()))) (Jv (Rd.out ((),()))):Fr oB.Out).s7 Q) :
  (Vy ((i,l,b,()),())).s7 λ
   |.next e=>Al e.1.1 e.1.2.1/\(8-e.1.1).toNat<(8-i).toNat/\(Rs e).s7 Q
   |.out y=>Q (.out y)
   |.back z=>Q (.back z)
   |.pan p=>Q (.pan p):=by
 obtain⟨s,t,k⟩:=d;by_cases n:i<8;refine⟨λ_=>⟨⟨rfl,ufc _,ub4 _,k⟩,T6 b i i (by omega) l (List.drop 0 l) 0,?_⟩,λh=>absurd n (uch h)⟩;have r:I6.wrap (i+1)=i+1:=IntWalk.i64_in _ (by omega);rw[T5,ueg];have g:(8-i).toNat=(8-(i+1)).toNat+1:=by omega
 rw[g]at a;dsimp only[tH]at a;refine⟨λf=>?_,λf=>?_⟩;have c:=f;rw[c]at a;exact a.1 rfl;have c:=f;rw[c,Bool.false_or]at a;rw[r];have m:Al (i+1) l:=⟨by omega,by omega,k⟩;have o:(8-(i+1)).toNat<(8-i).toNat:=by omega
 exact⟨m,o,m,a⟩;refine⟨λh=>absurd (ucx h) n,λ_=>?_⟩;have g:(8-i).toNat=0:=by omega
 rw[g]at a;exact a.2 rfl
def zeb:af prog (.loop (au f313 0)) oB.M oB Rs:=by refine af.loop zm2 (μ:=λx=>(8-x.1.1).toNat) ?_ (λx Q h=>h.1);rintro⟨⟨i,l,b,_⟩,_⟩ a Q c;exact zch i l b a Q c.2
def S6:Ct:=⟨[.d (.sl ah),.d i64],[.bool],λx=>(xm x.1 x.2.1,()),λ_=>[]⟩
def qpu:ag prog 313 S6:=
 conv (cZ aL zeb (ps:=[.d (.sl ah),.d i64]) (fr:=λx=>Jd (Al 0 x.1) (Jb (tH x.1 x.2.1 (8-(0:Int)).toNat 0) (Jv (Z,())) (Jv (Y,()))))) _ _ (λw F x h e _=>by obtain⟨l,b,_⟩:=x;obtain⟨v,g,rfl,f,_⟩:=e;have a:((List.length l:Nat):Int)<=9223372036854775807:=pg f;refine aw ⟨by omega,by omega,a⟩ ?_;cases c:xm l b;exact aN c ⟨uT,rfl⟩;exact aV c ⟨uT,rfl⟩)
def qf(x t:ah.q)(all:List ah.q):Bool:=bif (iD.f (t.2.2.1,x.2.2.1.1,())).1 then xm all x.2.2.1.1 else Y
def Kn:Ct:=⟨[.d ah,.ptr ah,.ptr (.sl ah)],[.bool],λx=>(qf x.1 x.2.1 x.2.2.1,()),λ_=>[]⟩
def qf3:Cx:=cx [(313,S6),(96,iD)] []
def qf4:CxOK prog qf3:=aQ aH ⟨qpu,rC,uT⟩ trivial
def zin:ag prog 312 Kn:=
 conv (aT qf4 f312 (fr:=λx=>Jv (qf x.1 x.2.1 x.2.2.1,())) (ps:=Kn.ps)) _ _ (λ_ _ _ _ _ _=>⟨uT,rfl⟩)
def jh(t x:ah.q):ah.q:=(x.1,x.2.1,x.2.2.1,x.2.2.2.1,x.2.2.2.2.1,x.2.2.2.2.2.1,x.2.2.2.2.2.2.1,I6.wrap ((Bvo I6.bits x.2.2.2.2.2.2.2.1 &&& Bvo I6.bits t.2.2.2.2.2.2.2.1).toNat:Int),())
def jH(l:List ah.q)(t:ah.q):List ah.q:=[t]++l.map (jh t)
def jV(l:List ah.q)(t:ah.q):Bool:=bif t.2.1 != 1 then Y else (jH l t).any λx=>qf x t (jH l t)
def YZ(t:ah.q):(l a:List ah.q)->ft zH l ((),t,(a,()),())=((),t,(a++l.map (jh t),()),())
 |[],a=>by rw[List.map_nil,uds];rfl
 |x::l,a=>by have h:=YZ t l (a++[jh t x]);rw[ucr]at h;exact h
def Za(t:ah.q):(l a:List ah.q)->a.length+l.length<=1000000->kQ zH l ((),t,(a,()),())
 |[],_,_=>trivial
 |x::l,a,h=>by rw[uc9]at h;refine⟨⟨⟨?_,?_⟩,uT⟩,Za t l (a++[jh t x]) (by rw[ub6,ua7];omega)⟩;show a.length+1<=maxLen;unfold maxLen;omega;show(a.length+1)*72<=140737488355328;omega
abbrev Un(l:List ah.q)(t:ah.q):yV.M.X:=((0,((List.length l:Nat):Int),l,()),t,([t],()),())
abbrev uh(l:List ah.q)(t:ah.q):De:=ft zH (List.drop 0 l) ((),t,([t],()),())
def qf5:Cx:=cx [(112,ir ah),(312,Kn)] []
def qf6:CxOK prog qf5:=aQ aH ⟨Ju,zin,uT⟩ trivial
abbrev RK:List PT:=[.d (.sl ah),.d ah]
def SK:Ct:=⟨RK,[.bool],λx=>(jV x.1 x.2.1,()),λx=>[x.1.length<=100000]⟩
def zis:ag prog 310 SK:=
 conv (cZ qf6 ze7 (ps:=RK) (rs:=[.bool]) (fr:=λx=>Jb (x.2.1.2.1 != 1) (Jv (Y,())) (Jd (InL (Wb (Un x.1 x.2.1)) (qdh (Un x.1 x.2.1))) (Jd (kQ zH (List.drop 0 x.1) ((),x.2.1,([x.2.1],()),())) (Jd (∀ y:aa [ah],gN [ah] y->az ([]:List Prop)) (Jv ((uh x.1 x.2.1).2.2.1.1.any (λn=>qf n (uh x.1 x.2.1).2.1 (uh x.1 x.2.1).2.2.1.1),()))))))) _ _ (λw F x d c h=>by
  obtain⟨l,t,_⟩:=x;have b:List.length (α:=ah.q) l<=100000:=h;show _/\_=(jV l t,());unfold jV;cases a:t.2.1 != 1
  ·refine aN a (aw ⟨rfl,ufc _,ub4 _,?_⟩ (aw (Za t (List.drop 0 l) [t] (by rw[ueg,ua7];omega)) (aw (λ_ _=>uT) ⟨uT,?_⟩)));show((List.length (α:=ah.q) l:Nat):Int)<=_;omega
   ·show((uh l t).2.2.1.1.any (λn=>qf n (uh l t).2.1 (uh l t).2.2.1.1),())=_;have e:uh l t=((),t,(jH l t,()),()):=by show ft zH (List.drop 0 l) _=_;rw[ueg,YZ];rfl
    rw[e];rfl
  exact aV a ⟨uT,rfl⟩)
def oZ(s:ak.q)(t:ah.q):Bool:=(bT s).any λx=>x.1==t.1
def qdz(s:ak.q)(l:List ah.q):ak.q:=(s.1,s.2.1,s.2.2.1,l,s.2.2.2.2.1,())
def fE(s:ak.q)(f:ae.q):ak.q×Int:=
 bif oZ s (dB f)then (s,8)else bif J (((List.length (bT s):Nat):Int)>=100)then (s,2)else bif jV (bT s) (dB f)then (s,13)
  else (qdz s (gt (λt=>t.1) (bT s) (dB f)),0)
abbrev jE:List PT:=[.d ae,.d ak]
def ED:Ct:=⟨[.d ah],[i64],λx=>(x.1.1,()),λ_=>[]⟩
def Kt:Ct:=⟨[.d ah,.pk 308,.ptr ae],[.bool],λx=>(x.1.1==(dB x.2.2.1).1,()),λ_=>[]⟩
def qc6:ag prog 308 ED:=
 conv (aT aL f308 (fr:=λx=>Jv (x.1.1,())) (ps:=ED.ps) (rs:=[i64])) _ _ (λ_ _ _ _ _ _=>⟨uT,rfl⟩)
def qf7:Cx:=cx [(308,ED)] []
def qf8:CxOK prog qf7:=aQ aH ⟨qc6,uT⟩ trivial
def zqo:ag prog 309 Kt:=
 conv (aT qf8 f309 (fr:=λx=>Jv (x.1.1==(dB x.2.2.1).1,())) (ps:=Kt.ps) (rs:=[.bool])) _ _ (λ_ _ _ _ _ _=>⟨uT,rfl⟩)
def qf9:Cx:=cx [(112,ir ah),(308,ED),(309,Kt),(310,SK),(311,wP ah)] []
def qga:CxOK prog qf9:=aQ aH ⟨Ju,qc6,zqo,zis,zjt,uT⟩ trivial
def SD:Ct:=⟨jE,[ak,i64],λx=>((fE x.2.1 x.1).1,(fE x.2.1 x.1).2,()),λ_=>[]⟩
def qw3(x:ap jE):Fr (aa [ak,i64]):=
 let c:=([]:List Prop);let b:=dB x.1;let a:=bT x.2.1;Jd (∀ y:aa [ah],gN [ah] y->az c) (Jb (oZ x.2.1 b) (Jv (x.2.1,8,())) (Jb (J (((List.length a:Nat):Int)>=100)) (Jv (x.2.1,2,()))
  (Jd (a.length<=100000) (Jb (jV a b) (Jv (x.2.1,13,()))
   (Jd (∀ y:aa [ah],gN [ah] y->az c) (Jd (a.length<=100000) (Jv (qdz x.2.1 (gt (λt=>t.1) a b),0,()))))))))
def qq5:ag prog 307 SD:=
 conv (aT qga f307 (fr:=qw3) (ps:=jE) (rs:=[ak,i64])) _ _ (λ_ _ x _ _ _=>by
  obtain⟨f,s,_⟩:=x;show _/\_=((fE s f).1,(fE s f).2,());unfold fE;refine aw (λ_ _=>uT) ?_;cases c:oZ s (dB f);refine aN rfl ?_;cases b:J (((List.length (bT s):Nat):Int)>=100);have a:(bT s).length<=100000:=by have:=uch b;omega
  refine aN rfl (aw a ?_);cases d:jV (bT s) (dB f);exact aN rfl (aw (λ_ _=>uT) (aw a ⟨uT,rfl⟩));exact aV rfl ⟨uT,rfl⟩;exact aV rfl ⟨uT,rfl⟩;exact aV rfl ⟨uT,rfl⟩)
def gi(s:ak.q)(f:ae.q):ak.q×Int:=bif J (dA f<=kg s)then (s,12)else ((s.1,s.2.1,s.2.2.1,s.2.2.2.1,dA f,()),0)
def SA:Ct:=⟨jE,[ak,i64],λx=>((gi x.2.1 x.1).1,(gi x.2.1 x.1).2,()),λ_=>[]⟩
def qq0:ag prog 322 SA:=
 conv (aT aL f322 (fr:=λx=>Jb (J (dA x.1<=kg x.2.1)) (Jv (x.2.1,12,())) (Jv ((x.2.1.1,x.2.1.2.1,x.2.1.2.2.1,x.2.1.2.2.2.1,dA x.1,()),0,()))) (ps:=jE) (rs:=[ak,i64])) _ _ (λ_ _ x _ _ _=>by obtain⟨f,s,_⟩:=x;show _/\_=((gi s f).1,(gi s f).2,());unfold gi;cases a:J (dA f<=kg s);exact aN a ⟨uT,rfl⟩;exact aV a ⟨uT,rfl⟩)
def qpv:List (FuncId×Ct):=[(54,JK),(294,Kd),(24,wI),(279,S4),(36,E1),(81,SM),(25,Ex),(244,E9),(245,tw),(280,(wP bn)),(295,(wP aq)),(291,(EF bn)),(306,(EF aq)),(221,(ir aq)),(281,JN),(296,Ki),(290,JL)]
def qgg:Cx:=cx qpv []
def Af:CxOK prog qgg:=aQ aH ⟨RT,UW,RV,ql9,TZ,zj2,Tz,YN,T4,zjr,zjs,zrx,zrz,Sb,ql5,zf2,qkv,uT⟩ trivial
abbrev mE(s:ak.q)(l:List bn.q):ak.q:=(s.1,l,s.2.2.1,s.2.2.2.1,s.2.2.2.2.1,())
abbrev I4(s:ak.q)(l:List aq.q):ak.q:=(s.1,s.2.1,l,s.2.2.2.1,s.2.2.2.2.1,())
def bi(s:ak.q):Prop:=bf s.1/\(bW s).length<=100000/\(aJ s).length<=100000/\∀ a∈bW s,cj a.1
abbrev gc(s:ak.q)(i:Int):bn.q:=(bW s).getD i.toNat bn.j
abbrev FH(s:ak.q)(i:Int):aq.q:=(aJ s).getD i.toNat aq.j
abbrev bH(f:ae.q):aD.q×Int:=mH (iw f) (bF f) (ma f)
abbrev aI(s:ak.q)(f:ae.q):Int:=dw s (iw f)
abbrev gI(s:ak.q)(f:ae.q):Int:=eS s (iw f)
abbrev pH(s:ak.q)(f:ae.q):aD.q×Int:=kV (gc s (aI s f)).1 (iv f)
def fB(s:ak.q)(f:ae.q):ak.q×Int:=
 bif J (aI s f>=0)then (s,8)else bif J (((List.length (bW s):Nat):Int)>=2000)then (s,2)
  else (mE s (gt ev (bW s) ((bH f).1,0,())),bif (bH f).2==0 then (fT (bH f).1 s.1).2 else (bH f).2)
def fA(s:ak.q)(f:ae.q):ak.q×Int:=
 bif J (aI s f<0)then (s,7)else bif (aJ s).any (lO f)then (s,10)
  else (mE s ((bW s).set (aI s f).toNat ((pH s f).1,(gc s (aI s f)).2.1,())),bif (pH s f).2==0 then (fT (pH s f).1 s.1).2 else (pH s f).2)
def fD(s:ak.q)(f:ae.q):ak.q×Int:=
 bif J (aI s f<0)then (s,7)else bif J (ej f>I6.wrap (4000000000000000000-(gc s (aI s f)).2.1))then (s,5)
  else (mE s ((bW s).set (aI s f).toNat ((gc s (aI s f)).1,I6.wrap ((gc s (aI s f)).2.1+ej f),())),0)
abbrev lA(s:ak.q)(f:ae.q):bn.q×Bool:=gO s (dk f).2.1
def fl(s:ak.q)(f:ae.q):ak.q×Int:=
 bif J (eS s (dk f).1>=0)then (s,8)else bif J (((List.length (aJ s):Nat):Int)>=2000)then (s,2)else bif !(lA s f).2 then (s,7)
  else (I4 s (gt kK (aJ s) (dk f,[],())),(fz (lA s f).1.1 s.1 (dk f)).2)
abbrev pG(s:ak.q)(f:ae.q):aq.q×Int:=eX (FH s (gI s f)) (lu f)
def eY(s:ak.q)(f:ae.q):ak.q×Int:=
 bif J (gI s f<0)then (s,7)else (I4 s ((aJ s).set (gI s f).toNat (pG s f).1),(pG s f).2)
def eT{l:List α}{i:Int}{d:α}(h:0<=i/\i<(l.length:Int)):l.getD i.toNat d∈l:=by
 have a:i.toNat<l.length:=by omega
 rw[uah,uaq a];exact udi a
def wA{s:ak.q}{id:Int}(h:¬ dw s id<0):0<=dw s id/\dw s id<((bW s).length:Int):=⟨by omega,(pY (by unfold dw at h;omega)).1⟩
def FI{s:ak.q}{id:Int}(h:¬ eS s id<0):0<=eS s id/\eS s id<((aJ s).length:Int):=⟨by omega,(pY (by unfold eS at h;omega)).1⟩
def Bi{s:ak.q}(a:bi s){id:Int}(h:¬ dw s id<0):cj (gc s (dw s id)).1:=a.2.2.2 _ (eT (wA h))
def qsz:cj iy:=⟨by decide,by decide,λc a=>by cases a⟩
def RU{s:ak.q}(a:bi s)(id:Int):cj (gO s id).1.1:=by unfold gO;split;rename_i h;exact Bi a (by omega);exact qsz
abbrev nA:Prop:=∀ y:aa [bn],gN [bn] y->az ([]:List Prop)
abbrev nF:Prop:=∀ y:aa [aq],gN [aq] y->az ([]:List Prop)
def S9:Ct:=⟨jE,[ak,i64],λx=>((fB x.2.1 x.1).1,(fB x.2.1 x.1).2,()),λx=>[bi x.2.1]⟩
def M3(s:ak.q)(f:ae.q):Fr (aa [ak,i64]):=
 let a:=gt ev (bW s) ((bH f).1,0,());Jb (J (aI s f>=0)) (Jv (s,8,())) (Jb (J (((List.length (bW s):Nat):Int)>=2000)) (Jv (s,2,())) (Jb ((bH f).2==0)
  (Jd (cj (bH f).1) (Jd (bf s.1) (Jd nA (Jd ((bW s).length<=100000) (Jv (mE s a,(fT (bH f).1 s.1).2,()))))))
  (Jd nA (Jd ((bW s).length<=100000) (Jv (mE s a,(bH f).2,()))))))
def qqy(s:ak.q)(f:ae.q)(a:bi s):(M3 s f).ok/\(M3 s f).get=((fB s f).1,(fB s f).2,()):=by unfold fB;cases b:J (aI s f>=0);refine aN b ?_;cases c:J (((List.length (bW s):Nat):Int)>=2000);refine aN rfl ?_;cases d:(bH f).2==0;refine aN rfl ?_;exact aw (λ_ _=>uT) (aw a.2.1 ⟨uT,rfl⟩);refine aV rfl ?_;exact aw (Sx _ _ _) (aw a.1 (aw (λ_ _=>uT) (aw a.2.1 ⟨uT,rfl⟩)));exact aV rfl ⟨uT,rfl⟩;exact aV b ⟨uT,rfl⟩
def qqz:ag prog 278 S9:=
 conv (aT Af f278 (fr:=λx=>M3 x.2.1 x.1) (ps:=jE)) _ _ (λ_ _ x _ _ h=>qqy x.2.1 x.1 h)
def S8:Ct:=⟨jE,[ak,i64],λx=>((fA x.2.1 x.1).1,(fA x.2.1 x.1).2,()),λx=>[bi x.2.1]⟩
def M2(s:ak.q)(f:ae.q):Fr (aa [ak,i64]):=
 let b:=((bW s).length:Int);let a:=(bW s).set (aI s f).toNat ((pH s f).1,(gc s (aI s f)).2.1,());Jb (J (aI s f<0)) (Jv (s,7,())) (Jd nF (Jb ((aJ s).any (lO f)) (Jv (s,10,())) (Jd (0<=aI s f/\aI s f<b) (Jd (cj (gc s (aI s f)).1)
  (Jb ((pH s f).2==0)
   (Jd (cj (pH s f).1) (Jd (bf s.1) (Jd ((bW s).length<=100000) (Jd (0<=aI s f/\aI s f<b) (Jv (mE s a,(fT (pH s f).1 s.1).2,()))))))
   (Jd ((bW s).length<=100000) (Jd (0<=aI s f/\aI s f<b) (Jv (mE s a,(pH s f).2,())))))))))
def qqw(s:ak.q)(f:ae.q)(b:bi s):(M2 s f).ok/\(M2 s f).get=((fA s f).1,(fA s f).2,()):=by unfold fA;cases c:J (aI s f<0);refine aN c ?_;have a:=uch c;refine aw (λ_ _=>uT) ?_;cases d:(aJ s).any (lO f);refine aN rfl ?_;refine aw (wA a) (aw (Bi b a) ?_);cases e:(pH s f).2==0;refine aN rfl ?_;exact aw b.2.1 (aw (wA a) ⟨uT,rfl⟩);refine aV rfl ?_;exact aw (ZC (Bi b a)) (aw b.1 (aw b.2.1 (aw (wA a) ⟨uT,rfl⟩)));exact aV rfl ⟨uT,rfl⟩;exact aV c ⟨uT,rfl⟩
def qqx:ag prog 289 S8:=
 conv (aT Af f289 (fr:=λx=>M2 x.2.1 x.1) (ps:=jE)) _ _ (λ_ _ x _ _ h=>qqw x.2.1 x.1 h)
def SC:Ct:=⟨jE,[ak,i64],λx=>((fD x.2.1 x.1).1,(fD x.2.1 x.1).2,()),λx=>[bi x.2.1]⟩
def M5(s:ak.q)(f:ae.q):Fr (aa [ak,i64]):=
 let b:=((bW s).length:Int);let a:=gc s (aI s f);Jb (J (aI s f<0)) (Jv (s,7,())) (Jd (0<=aI s f/\aI s f<b) (Jb (J (ej f>I6.wrap (4000000000000000000-a.2.1))) (Jv (s,5,()))
  (Jd ((bW s).length<=100000) (Jd (0<=aI s f/\aI s f<b) (Jv (mE s ((bW s).set (aI s f).toNat (a.1,I6.wrap (a.2.1+ej f),())),0,()))))))
def qq3(s:ak.q)(f:ae.q)(c:bi s):(M5 s f).ok/\(M5 s f).get=((fD s f).1,(fD s f).2,()):=by unfold fD;cases a:J (aI s f<0);refine aN a ?_;have b:=uch a;refine aw (wA b) ?_;cases d:J (ej f>I6.wrap (4000000000000000000-(gc s (aI s f)).2.1));refine aN rfl ?_;exact aw c.2.1 (aw (wA b) ⟨uT,rfl⟩);exact aV rfl ⟨uT,rfl⟩;exact aV a ⟨uT,rfl⟩
def qq4:ag prog 292 SC:=
 conv (aT Af f292 (fr:=λx=>M5 x.2.1 x.1) (ps:=jE)) _ _ (λ_ _ x _ _ h=>qq3 x.2.1 x.1 h)
def SB:Ct:=⟨jE,[ak,i64],λx=>((fl x.2.1 x.1).1,(fl x.2.1 x.1).2,()),λx=>[bi x.2.1]⟩
def M4(s:ak.q)(f:ae.q):Fr (aa [ak,i64]):=
 Jb (J (eS s (dk f).1>=0)) (Jv (s,8,())) (Jb (J (((List.length (aJ s):Nat):Int)>=2000)) (Jv (s,2,())) (Jb (!(lA s f).2) (Jv (s,7,()))
  (Jd (cj (lA s f).1.1) (Jd (bf s.1) (Jd nF (Jd ((aJ s).length<=100000) (Jv (I4 s (gt kK (aJ s) (dk f,[],())),(fz (lA s f).1.1 s.1 (dk f)).2,()))))))))
def qq1(s:ak.q)(f:ae.q)(a:bi s):(M4 s f).ok/\(M4 s f).get=((fl s f).1,(fl s f).2,()):=by unfold fl;cases b:J (eS s (dk f).1>=0);refine aN b ?_;cases c:J (((List.length (aJ s):Nat):Int)>=2000);refine aN rfl ?_;cases d : !(lA s f).2;refine aN rfl ?_;exact aw (RU a _) (aw a.1 (aw (λ_ _=>uT) (aw a.2.2.1 ⟨uT,rfl⟩)));exact aV rfl ⟨uT,rfl⟩;exact aV rfl ⟨uT,rfl⟩;exact aV b ⟨uT,rfl⟩
def qq2:ag prog 293 SB:=
 conv (aT Af f293 (fr:=λx=>M4 x.2.1 x.1) (ps:=jE)) _ _ (λ_ _ x _ _ h=>qq1 x.2.1 x.1 h)
def S7:Ct:=⟨jE,[ak,i64],λx=>((eY x.2.1 x.1).1,(eY x.2.1 x.1).2,()),λx=>[bi x.2.1]⟩
def M1(s:ak.q)(f:ae.q):Fr (aa [ak,i64]):=
 let a:=((aJ s).length:Int);Jb (J (gI s f<0)) (Jv (s,7,())) (Jd (0<=gI s f/\gI s f<a) (Jd ((aJ s).length<=100000) (Jd (0<=gI s f/\gI s f<a) (Jv (I4 s ((aJ s).set (gI s f).toNat (pG s f).1),(pG s f).2,())))))
def qqu(s:ak.q)(f:ae.q)(c:bi s):(M1 s f).ok/\(M1 s f).get=((eY s f).1,(eY s f).2,()):=by unfold eY;cases a:J (gI s f<0);refine aN a ?_;have b:=uch a;exact aw (FI b) (aw c.2.2.1 (aw (FI b) ⟨uT,rfl⟩));exact aV a ⟨uT,rfl⟩
def qqv:ag prog 305 S7:=
 conv (aT Af f305 (fr:=λx=>M1 x.2.1 x.1) (ps:=jE)) _ _ (λ_ _ x _ _ h=>qqu x.2.1 x.1 h)
abbrev ko:List PT:=[.d .unit,.d ae]
def OI(f:ae.q):ae.q:=(bF f,aM f,0,ej f,dA f,((0,0,()),(0,0,0,0,()),[],()),iv f,dk f,lu f,dB f,())
def wQ:Ct:=⟨ko,[ae],λx=>(OI x.2.1,()),λ_=>[]⟩
def zk5:ag prog 328 wQ:=
 conv (aT aL f328 (fr:=λx=>Jv (OI x.2.1,())) (ps:=ko) (rs:=[ae])) _ _ (λ_ _ _ _ _ _=>⟨uT,rfl⟩)
def OJ(f:ae.q):ae.q:=(bF f,aM f,0,ej f,dA f,ma f,(0,0,0,(0,0,0,0,()),[],0,()),dk f,lu f,dB f,())
def wR:Ct:=⟨ko,[ae],λx=>(OJ x.2.1,()),λ_=>[]⟩
def zk6:ag prog 329 wR:=
 conv (aT aL f329 (fr:=λx=>Jv (OJ x.2.1,())) (ps:=ko) (rs:=[ae])) _ _ (λ_ _ _ _ _ _=>⟨uT,rfl⟩)
def OK(f:ae.q):ae.q:=(bF f,aM f,0,0,dA f,ma f,iv f,dk f,lu f,dB f,())
def wS:Ct:=⟨ko,[ae],λx=>(OK x.2.1,()),λ_=>[]⟩
def zk7:ag prog 330 wS:=
 conv (aT aL f330 (fr:=λx=>Jv (OK x.2.1,())) (ps:=ko) (rs:=[ae])) _ _ (λ_ _ _ _ _ _=>⟨uT,rfl⟩)
def OL(f:ae.q):ae.q:=(bF f,aM f,iw f,ej f,dA f,ma f,iv f,(0,0,0,0,0,0,()),lu f,dB f,())
def wT:Ct:=⟨ko,[ae],λx=>(OL x.2.1,()),λ_=>[]⟩
def zk8:ag prog 331 wT:=
 conv (aT aL f331 (fr:=λx=>Jv (OL x.2.1,())) (ps:=ko) (rs:=[ae])) _ _ (λ_ _ _ _ _ _=>⟨uT,rfl⟩)
def OM(f:ae.q):ae.q:=(bF f,aM f,0,ej f,dA f,ma f,iv f,dk f,(0,0,0,()),dB f,())
def wV:Ct:=⟨ko,[ae],λx=>(OM x.2.1,()),λ_=>[]⟩
def zk9:ag prog 332 wV:=
 conv (aT aL f332 (fr:=λx=>Jv (OM x.2.1,())) (ps:=ko) (rs:=[ae])) _ _ (λ_ _ _ _ _ _=>⟨uT,rfl⟩)
def ON(f:ae.q):ae.q:=(bF f,aM f,iw f,ej f,dA f,ma f,iv f,dk f,lu f,(0,0,(0,0,()),0,0,0,0,0,()),())
def wW:Ct:=⟨ko,[ae],λx=>(ON x.2.1,()),λ_=>[]⟩
def zla:ag prog 333 wW:=
 conv (aT aL f333 (fr:=λx=>Jv (ON x.2.1,())) (ps:=ko) (rs:=[ae])) _ _ (λ_ _ _ _ _ _=>⟨uT,rfl⟩)
def OO(f:ae.q):ae.q:=(bF f,aM f,iw f,ej f,0,ma f,iv f,dk f,lu f,dB f,())
def wX:Ct:=⟨ko,[ae],λx=>(OO x.2.1,()),λ_=>[]⟩
def zlb:ag prog 334 wX:=
 conv (aT aL f334 (fr:=λx=>Jv (OO x.2.1,())) (ps:=ko) (rs:=[ae])) _ _ (λ_ _ _ _ _ _=>⟨uT,rfl⟩)
def qpw:List (FuncId×Ct):=[(154,Kl),(155,Ev),(131,t7),(130,qS),(156,Ay),(157,wK),(109,kw),(328,wQ),(329,wR),(330,wS),(331,wT),(332,wV),(333,wW),(334,wX)]
def qgh:Cx:=cx qpw []
def qgi:CxOK prog qgh:=aQ aH ⟨qwp,ql4,PH,KA,SG,SN,zh,zk5,zk6,zk7,zk8,zk9,zla,zlb,uT⟩ trivial
def Bj(x:ap [.d ae]):Fr (aa [.bool]):=
 let c:=x.1.2.2;let h:=c.2.2.2.2;let b:=((),x.1,());let a:=Kl.f (x.1.2.1,());let g:=bif bif (dd jb a.1.1).isNone then Z else J (x.1.1<1)then Z else J (x.1.1>292194);Jd (g=Y->a.1.1=1->az ([]++([]++[])++wQ.ok b)) (Jd (g=Y->a.1.1≠1->az [a.1.1=2->az ([]++([]++[])++wR.ok b),a.1.1≠2->az [a.1.1=3->az ([]++([]++[])++wS.ok b),a.1.1≠3->az [a.1.1=4->az ([]++([]++[])++wT.ok b),a.1.1≠4->az [a.1.1=5->az ([]++([]++[])++wV.ok b),a.1.1≠5->az [a.1.1=6->az ([]++([]++[])++wW.ok b),a.1.1≠6->az ((a.1.1=7)::([]++([]++[])++wX.ok b))]]]]]) (Jb (bif bif bif (dd jb a.1.1).isNone then Z else J (x.1.1<1)then Z else J (x.1.1>292194)then Z else !(Ev.f ((bif a.1.1==1 then wQ.f b else bif a.1.1==2 then wR.f b else bif a.1.1==3 then wS.f b else bif a.1.1==4 then wT.f b else bif a.1.1==5 then wV.f b else bif a.1.1==6 then wW.f b else wX.f b).1,())).1) (Jv (Y,())) (Jb (dd jb a.1.1==U 304) (Jv (bif bif J (c.1>=1)then J (c.1<=1000000000)else Y then (t7.f (c.2.2.2.1,())).1 else Y,())) (Jb (dd jb a.1.1==U 305) (Jv (bif bif bif J (c.1>=1)then J (c.1<=1000000000)else Y then (qS.f (h.1,())).1 else Y then h.1.1==x.1.1 else Y,())) (Jb (dd jb a.1.1==U 306) (Jv (bif bif bif J (c.1>=1)then J (c.1<=1000000000)else Y then J (c.2.1>=1)else Y then J (c.2.1<=1000000000000000)else Y,())) (Jb (dd jb a.1.1==U 307) (Jv (bif (Ay.f (h.2.1,())).1 then h.2.1.2.2.2.2.1==x.1.1 else Y,())) (Jb (dd jb a.1.1==U 308) (Jv (bif bif bif J (c.1>=1)then J (c.1<=1000000000)else Y then (wK.f (h.2.2.1,())).1 else Y then h.2.2.1.1==x.1.1 else Y,())) (Jb (dd jb a.1.1==U 309) (Jv ((kw.f (h.2.2.2.1,())).1,())) (Jv (bif J (c.2.2.1>=1)then J (c.2.2.1<=x.1.1)else Y,()))))))))))
def qud:ag prog 87 (bg [.d ae] [.bool] Bj):=
 aT qgi f87
def se(f:ae.q):ae.q:=
 bif aM f==1 then OI f else bif aM f==2 then OJ f else bif aM f==3 then OK f else bif aM f==4 then OL f else bif aM f==5 then OM f else bif aM f==6 then ON f else OO f
def md(f:ae.q):Bool:=J (iw f>=1)&&J (iw f<=1000000000)
def pp(f:ae.q):Bool:=
 bif aM f==1 then md f&&i9 (ma f)else bif aM f==2 then (md f&&fk (iv f))&&(iv f).1==bF f
  else bif aM f==3 then (md f&&J (ej f>=1))&&J (ej f<=1000000000000000)else bif aM f==4 then nN (dk f)&&(dk f).2.2.2.2.1==bF f
  else bif aM f==5 then (md f&&lc (lu f))&&(lu f).1==bF f else bif aM f==6 then gG (dB f)else J (dA f>=1)&&J (dA f<=bF f)
def cG(f:ae.q):Bool:=
 (J (1<=aM f)&&J (aM f<=7))&&((J (1<=bF f)&&J (bF f<=292194))&&(wE (se f)&&pp f))
def gQ(a b:Bool):(bif a then b else Y)=(a&&b):=by cases a<;>rfl
def wF(a b:Bool):(bif a then Z else b)=(a || b):=by cases a<;>rfl
def Yx{k:Int}(h:1<=k/\k<=7)(a:k≠1)(b:k≠2)(c:k≠3)(d:k≠4)(e:k≠5)(f:k≠6):k=7:=by omega
def qx4{f:ae.q}(h:aM f<1\/aM f>7):(Bj (f,())).ok/\(Bj (f,())).get=(cG f,()):=by
 have d:=Ni h;have c:cG f=false:=by
  unfold cG;rcases h with h|h
  rw[show J (1<=aM f)=Y from udw (by omega)];rfl;rw[show J (aM f<=7)=Y from udw (by omega),uee];rfl
 rw[c];have b:(bif bif (dd jb (aM f)).isNone then Z else J (bF f<1)then Z else J (bF f>292194))=true:=by rw[d];rfl
 refine aw (λa=>absurd (b.symm.trans a) (by decide)) (aw (λa=>absurd (b.symm.trans a) (by decide)) (aV ?_ ⟨uT,rfl⟩));show(bif (bif bif (dd jb (aM f)).isNone then Z else J (bF f<1)then Z else J (bF f>292194))then Z else _)=Z;rw[b];rfl
def qx5{f:ae.q}(h:1<=aM f/\aM f<=7):(Bj (f,())).ok/\(Bj (f,())).get=(cG f,()):=by
 have t:(bif bif (dd jb (aM f)).isNone then Z else J (bF f<1)then Z else J (bF f>292194))=(J (bF f<1) || J (bF f>292194)):=by rcases qs h with e|e|e|e|e|e|e<;>rw[e]<;>exact wF _ _
 refine aw (λ_ _=>uT) (aw (λ_=>?_) ?_);show aM f≠1->(_/\_);intro m;exact⟨λ_=>uT,λn=>⟨λ_=>uT,λo=>⟨λ_=>uT,λp=>⟨λ_=>uT,λr=>⟨λ_=>uT,λs=>Yx h m n o p r s⟩⟩⟩⟩⟩;have v:(bif aM f==1 then wQ.f ((),f,())else bif aM f==2 then wR.f ((),f,())else bif aM f==3 then wS.f ((),f,())else bif aM f==4 then wT.f ((),f,())else bif aM f==5 then wV.f ((),f,())else bif aM f==6 then wW.f ((),f,())else wX.f ((),f,()))=(se f,()):=by unfold se;rcases qs h with e|e|e|e|e|e|e<;>rw[e]<;>rfl
 have u:(J (1<=aM f)&&J (aM f<=7))=true:=by rw[ueb h.1,ueb h.2];rfl
 have a:(bif bif bif (dd jb (aM f)).isNone then Z else J (bF f<1)then Z else J (bF f>292194)then Z else !(Ev.f ((bif aM f==1 then wQ.f ((),f,())else bif aM f==2 then wR.f ((),f,())else bif aM f==3 then wS.f ((),f,())else bif aM f==4 then wT.f ((),f,())else bif aM f==5 then wV.f ((),f,())else bif aM f==6 then wW.f ((),f,())else wX.f ((),f,())).1,())).1)
   = !((J (1<=bF f)&&J (bF f<=292194))&&wE (se f)):=by
  rw[v,t,wF];rw[Bool.not_and,Bool.not_and,<- decide_not,<- decide_not];congr 2;exact udh.mpr (by omega);exact udh.mpr (by omega)
 cases b:(J (1<=bF f)&&J (bF f<=292194))&&wE (se f);have c:cG f=false:=by unfold cG;rw[<- ued (J (1<=bF f)&&_),b,Bool.false_and,uee]
 rw[c];exact aV (a.trans (by rw[b];rfl)) ⟨uT,rfl⟩
 ·have c:cG f=pp f:=by unfold cG;rw[<- ued (J (1<=bF f)&&_),b,u,uem,uem]
  rw[c];refine aN (a.trans (by rw[b];rfl)) ?_;obtain⟨x,k,id,d,g,z,ch,y,w,A,_⟩:=f;have i:=qs h;rcases i with e|e|e|e|e|e|e
  all_goals
   have l:=e;subst l
  exact aV rfl ⟨uT,by rw[gQ,gQ];rfl⟩;exact aN rfl (aV rfl ⟨uT,by rw[gQ,gQ,gQ];rfl⟩);exact aN rfl (aN rfl (aV rfl ⟨uT,by rw[gQ,gQ,gQ];rfl⟩));exact aN rfl (aN rfl (aN rfl (aV rfl ⟨uT,by rw[gQ];rfl⟩)));exact aN rfl (aN rfl (aN rfl (aN rfl (aV rfl ⟨uT,by rw[gQ,gQ,gQ];rfl⟩))));exact aN rfl (aN rfl (aN rfl (aN rfl (aN rfl (aV rfl ⟨uT,rfl⟩)))));exact aN rfl (aN rfl (aN rfl (aN rfl (aN rfl (aN rfl ⟨uT,by rw[gQ];rfl⟩)))))
def E4:Ct:=⟨[.d ae],[.bool],λx=>(cG x.1,()),λ_=>[]⟩
def V5:ag prog 87 E4:=conv qud _ _ (λ_ _ x _ _ _=>by by_cases h:1<=aM x.1/\aM x.1<=7;exact qx5 h;exact qx4 (by omega))
section
open Go.Shelf Go.Lib
def Uv:List (Int×TypeId):=[(1,217),(2,218),(3,219),(4,220),(5,221),(6,222),(7,223)]
def N5(k:Int)(v:Value):Value:=match dd Uv k with
 |some a=>.iface a v
 |none=>.nilIface
def Xl(v:Value):Array Value:=#[.nilIface,.iface 217 v,.iface 218 v,.iface 219 v,.iface 220 v,.iface 221 v,.iface 222 v,.iface 223 v]
def za2(k:Int)(a:1<=k/\k<=7)(v:Value)(w:World):(Instr.index 224 (.agg (Xl v)) (.int .i64 k)).run prog w=.ok (N5 k v) w:=by rcases qs a with rfl|rfl|rfl|rfl|rfl|rfl|rfl<;>kernel_rfl
def zbb(k:Int)(h:1<=k/\k<=7)(a:Array Value)(l:a.size=39)(d:a[1]?= U (.int .i64 k))(R:Ending->World->Prop)(w:World)(e:∀ o,R (.returned (N5 k (.agg a))) (w.alloc o)):Calls prog 49 #[.agg a] w R:=by
 have b:(w.alloc (.cells a 75)).heap[w.heap.size]?= U (.cells a 75 (0,0)):=World.alloc_heap_new w _;have i:(w.alloc (.cells a 75)).rangeAt w.heap.size 0 a.toList:=λj v m=>by rw[tE b];simpa using m
 have f:(w.alloc (.cells a 75)).cell? ⟨w.heap.size,1,V⟩=U (.int .i64 k):=by rw[tE b];exact d
 have g:(prog.info? 75).map (·.size)=U a.toList.length:=by rw[ubu,l];kernel_rfl
 have c:=za2 k h (.agg a);unfold Xl at c
 go_enter func49,ntmps49
 go_wp2_with (first|(refine wpList_load_mid rfl 75 _ rfl w.heap.size 0 rfl a.toList _ i underlying75 rfl g ?_)|simp only[c,f,ubf])
 exact e _
def SH:Ct:=⟨[.d ae],[.ic Uv ae],λx=>((aM x.1,x.1),()),λx=>[1<=aM x.1/\aM x.1<=7]⟩
def zba:ag prog 49 SH:=by refine⟨enters_of func49 (by kernel_rfl) rfl,λw F m p c i d=>?_⟩;obtain⟨f,_⟩:=m;obtain⟨v,l,rfl,a,g⟩:=i;cases g;have a:bJ w F ae f v:=a;obtain⟨b,rfl⟩:=a.2.1.1 rfl;have k:b.size=39:=a.1;have e:b[1]?= U (.int .i64 (aM f)):=a.2.2.2.1.1;refine zbb (aM f) d b k e _ w λo=>Z2 c ?_;unfold N5;split;rename_i n h;exact W9 h a;rename_i h;exact Yq h
end
def qgj:Cx:=cx [(87,E4)] []
def qgk:CxOK prog qgj:=aQ aH ⟨V5,uT⟩ trivial
def jv(s:ak.q)(f:ae.q):Int:=bif !(cG f)then 1 else bif J (bF f<=kg s)then 12 else 0
def Kj:Ct:=⟨[.d ak,.d ae],[i64],λx=>(jv x.1 x.2.1,()),λ_=>[]⟩
def zge:ag prog 48 Kj:=
 conv (aT qgk f48 (fr:=λx=>Jb (!(cG x.2.1)) (Jv (1,())) (Jb (J (bF x.2.1<=kg x.1)) (Jv (12,())) (Jv (0,())))) (ps:=Kj.ps) (rs:=[i64])) _ _ (λ_ _ x _ _ _=>by obtain⟨s,f,_⟩:=x;show _/\_=(jv s f,());unfold jv;cases a : !(cG f);refine aN (by first|rfl|exact a) ?_;cases b:J (bF f<=kg s);exact aN (by first|rfl|exact b) ⟨uT,rfl⟩;exact aV (by first|rfl|exact b) ⟨uT,rfl⟩;exact aV (by first|rfl|exact a) ⟨uT,rfl⟩)
def qpx:List (FuncId×Ct):=[(48,Kj),(49,SH),(278,S9),(289,S8),(292,SC),(293,SB),(305,S7),(307,SD),(322,SA)]
def qgl:Cx:=cx qpx []
def qgm:CxOK prog qgl:=aQ aH ⟨zge,zba,qqz,qqx,qq4,qq2,qqv,qq5,qq0,uT⟩ trivial
abbrev vD:ak.q:=(([],()),[],[],[],0,())
def kB(s:ak.q)(f:ae.q):aa [ak,i64]:=bif aM f==1 then ((fB s f).1,(fB s f).2,())else bif aM f==2 then ((fA s f).1,(fA s f).2,())else bif aM f==3 then ((fD s f).1,(fD s f).2,())else bif aM f==4 then ((fl s f).1,(fl s f).2,())else bif aM f==5 then ((eY s f).1,(eY s f).2,())else bif aM f==6 then ((fE s f).1,(fE s f).2,())else ((gi s f).1,(gi s f).2,())
def gU(s:ak.q)(f:ae.q):ak.q×Int:=((kB s f).1,(kB s f).2.1)
def dq(s:ak.q)(f:ae.q):ak.q×Int:=
 bif jv s f != 0 then (vD,jv s f)else bif (gU s f).2 != 0 then (vD,(gU s f).2)else ((gU s f).1,0)
abbrev RL:List PT:=[.d ak,.d ae]
def tx:Ct:=⟨RL,[ak,i64],λx=>((dq x.1 x.2.1).1,(dq x.1 x.2.1).2,()),λx=>[bi x.1]⟩
def M0(s:ak.q)(f:ae.q):Fr (aa [ak,i64]):=
 Jb (jv s f != 0) (Jv (vD,jv s f,())) (Jd (1<=aM f/\aM f<=7) (Jd (aM f=1->az [bi s]) (Jd (aM f≠1->az [aM f=2->az [bi s],aM f≠2->az [aM f=3->az [bi s],aM f≠3->az [aM f=4->az [bi s],aM f≠4->az [aM f=5->az [bi s],aM f≠5->az [aM f=6->az ([]:List Prop),aM f≠6->az [aM f=7]]]]]])
  (Jb ((kB s f).2.1 != 0) (Jv (vD,(kB s f).2.1,())) (Jv ((kB s f).1,0,()))))))
def NQ{s:ak.q}{f:ae.q}(h:jv s f=0):cG f=Z/\kg s<bF f:=by unfold jv at h;cases a:cG f;rw[a]at h;have h:(1:Int)=0:=h;exact absurd h (by decide);rw[a]at h;refine⟨rfl,?_⟩;by_cases b:bF f<=kg s;rw[ueb b]at h;exact absurd h (by decide);omega
def BG{f:ae.q}(h:cG f=Z):1<=aM f/\aM f<=7:=by unfold cG at h;rw[udc,udc]at h;exact⟨ucx h.1.1,ucx h.1.2⟩
def qq6(s:ak.q)(f:ae.q)(a:bi s):(M0 s f).ok/\(M0 s f).get=((dq s f).1,(dq s f).2,()):=by
 unfold dq;cases b:jv s f != 0;refine aN (by first|rfl|exact b) ?_;have e:jv s f=0:=by simpa using b
 have d:=BG (NQ e).1;refine aw d (aw (λ_=>a) (aw (λg=>?_) ?_));exact⟨λ_=>a,λh=>⟨λ_=>a,λi=>⟨λ_=>a,λk=>⟨λ_=>a,λl=>⟨λ_=>uT,λm=>Yx d g h i k l m⟩⟩⟩⟩⟩;cases c:(gU s f).2 != 0;exact aN (by first|rfl|exact c) ⟨uT,rfl⟩;exact aV (by first|rfl|exact c) ⟨uT,rfl⟩;exact aV (by first|rfl|exact b) ⟨uT,rfl⟩
def Lj:ag prog 18 tx:=
 conv (aT qgm f18 (fr:=λx=>M0 x.1 x.2.1) (ps:=RL) (rs:=[ak,i64])) _ _ (λ_ _ x _ _ h=>qq6 x.1 x.2.1 h)
def qgn:Cx:=cx [(18,tx),(17,A7)] []
def Q6:CxOK prog qgn:=aQ aH ⟨Lj,Yo,uT⟩ trivial
abbrev vm:Pt:=⟨41,0,⟨[(22,.d i64),(21,.d i64),(20,.d (.sl ae)),(1,.d i64)],[.x 4 32 ak,.r 4 4 0,.x 6 32 ak,.r 6 6 0]⟩,⟨[],[.x 4 32 ak,.r 4 4 0,.x 6 32 ak,.r 6 6 0]⟩,⟨[],[]⟩⟩
abbrev Dd:Type:=ap [.d i64]×dj [.x 4 32 ak,.r 4 4 0,.x 6 32 ak,.r 6 6 0]
def oX(e:ae.q)(s:Dd):Fr Dd:=
 let a:=tx.f (s.2.2.1,e,());Jb (J (e.1>s.1.1)) (Jv s) (Jd (bi s.2.2.1) (Jb (a.2.1==0) (Jv ((s.1.1,()),s.2.1,a.1,())) (Jv s)))
def sE(x:vm.M.X):Int×List ae.q×Dd:=(x.1.1,x.1.2.2.1,x.1.2.2.2,x.2)
def VZ(x:vm.M.X):Prop:=x.1.2.1=(x.1.2.2.1.length:Int)
def YX(s:Dd):vm.E.X:=((),s.2.1,s.2.2.1,())
def ze1:af prog (.loop (au f15 0)) vm.M vm (FF oX sE VZ YX):=
 zT Q6 (λ_ _=>.n .o) ae.j (λx=>x.1.2.1) (λx s=>((I6.wrap (x.1.1+1),x.1.2.1,x.1.2.2.1,s.1),s.2)) (λ_ h=>h)
def zk1(y:vm.M.X):Dd:=ft oX ((sE y).2.1.drop (sE y).1.toNat) (sE y).2.2
def zht(y:vm.M.X):Prop:=kQ oX ((sE y).2.1.drop (sE y).1.toNat) (sE y).2.2
def qu2(x:ap [.d jourT,.d i64]):Fr (aa [ak,i64]):=
 let a:=((0,((List.length x.1.2.1):Int),x.1.2.1,x.2.1,()),(([],()),[],[],[],0,()),(A7.f ((x.1.1.1,()),())).1,());Jb (J (((List.length x.1.2.1):Int)>2000)) (Jv ((([],()),[],[],[],0,()),2,())) (Jd (InL (VZ a) (sE a)) (Jd (zht a) (Jv ((YX (zk1 a)).2.2.1,0,()))))
def qu3:ag prog 15 (bg [.d jourT,.d i64] [ak,i64] qu2):=
 cZ Q6 ze1
def qz9{i:Int}{l:List α}{x a:α}(h:a∈je i l [x]):a∈l\/a=x:=by
 unfold je at h;rw[udt,udt]at h;rcases h with (h|h)|h
 exact .inl (ubq h);exact .inr (ucf.1 h);exact .inl (ubr h)
def qz8(i:Int)(l:List α)(x:α):(je i l [x]).length=l.length+1:=by unfold je;rw[ub6,ub6,uc5,uc6,ua7];omega
def o9{g:α->Int}{l:List α}{x a:α}(h:a∈gt g l x):a∈l\/a=x:=qz9 h
def Cy(g:α->Int)(l:List α)(x:α):(gt g l x).length=l.length+1:=qz8 _ l x
def qd{l:List α}{x a:α}(h:a∈l.set i x):a∈l\/a=x:=uap h
def L9{t:bh.q}(h:bf t):bi (hZ t):=⟨h,ufh _,ufh _,λa b=>by cases b⟩
def qs3{s:ak.q}(f:ae.q)(h:bi s):bi (fB s f).1:=by
 unfold fB;cases e:J (aI s f>=0);cases c:J (((List.length (bW s):Nat):Int)>=2000);have d:=uch c;refine⟨h.1,?_,h.2.2.1,λa b=>?_⟩;show(gt ev (bW s) ((bH f).1,0,())).length<=100000;rw[Cy];omega;rcases o9 b with b|b
 exact h.2.2.2 a b;rw[b];exact Sx _ _ _;exact h;exact h
def UH{s:ak.q}(i:Nat)(x:bn.q)(h:bi s)(c:cj x.1):bi (mE s ((bW s).set i x)):=by
 refine⟨h.1,?_,h.2.2.1,λa b=>?_⟩;show((bW s).set i x).length<=100000;rw[udp];exact h.2.1;rcases qd b with b|b
 exact h.2.2.2 a b;rw[b];exact c
def qs2{s:ak.q}(f:ae.q)(h:bi s):bi (fA s f).1:=by unfold fA;cases a:J (aI s f<0);cases b:(aJ s).any (lO f);exact UH _ _ h (ZC (Bi h (uch a)));exact h;exact h
def qs9{s:ak.q}(f:ae.q)(h:bi s):bi (fD s f).1:=by unfold fD;cases a:J (aI s f<0);cases b:J (ej f>I6.wrap (4000000000000000000-(gc s (aI s f)).2.1));exact UH _ _ h (Bi h (uch a));exact h;exact h
def qs5{s:ak.q}(f:ae.q)(h:bi s):bi (fl s f).1:=by unfold fl;cases c:J (eS s (dk f).1>=0);cases a:J (((List.length (aJ s):Nat):Int)>=2000);have b:=uch a;cases d : !(lA s f).2;refine⟨h.1,h.2.1,?_,h.2.2.2⟩;show(gt kK (aJ s) (dk f,[],())).length<=100000;rw[Cy];omega;exact h;exact h;exact h
def qs1{s:ak.q}(f:ae.q)(h:bi s):bi (eY s f).1:=by unfold eY;cases a:J (gI s f<0);refine⟨h.1,h.2.1,?_,h.2.2.2⟩;show((aJ s).set (gI s f).toNat (pG s f).1).length<=100000;rw[udp];exact h.2.2.1;exact h
def qta{s:ak.q}(f:ae.q)(h:bi s):bi (fE s f).1:=by unfold fE;cases oZ s (dB f);cases J (((List.length (bT s):Nat):Int)>=100);cases jV (bT s) (dB f);exact⟨h.1,h.2.1,h.2.2.1,h.2.2.2⟩;exact h;exact h;exact h
def qs4{s:ak.q}(f:ae.q)(h:bi s):bi (gi s f).1:=by unfold gi;cases J (dA f<=kg s);exact⟨h.1,h.2.1,h.2.2.1,h.2.2.2⟩;exact h
def UF{s:ak.q}(f:ae.q)(h:bi s):bi (gU s f).1:=by show bi (kB s f).1;unfold kB;cases aM f==1;cases aM f==2;cases aM f==3;cases aM f==4;cases aM f==5;cases aM f==6;exact qs4 f h;exact qta f h;exact qs1 f h;exact qs5 f h;exact qs9 f h;exact qs2 f h;exact qs3 f h
def l5(s:ak.q)(f:ae.q):ak.q:=bif (dq s f).2==0 then (dq s f).1 else s
def Dp{s:ak.q}{f:ae.q}(h:(dq s f).2=0):jv s f=0/\(gU s f).2=0/\(dq s f).1=(gU s f).1:=by
 unfold dq at h |-;cases a:jv s f != 0;have d:jv s f=0:=by simpa using a
 rw[a]at h;cases b:(gU s f).2 != 0;exact⟨d,by simpa using b,rfl⟩;rw[b]at h;have c:(gU s f).2=0:=h;rw[c]at b;exact absurd b (by decide);rw[a]at h;have c:jv s f=0:=h;rw[c]at a;exact absurd a (by decide)
def qs6{s:ak.q}(f:ae.q)(h:bi s):bi (l5 s f):=by unfold l5;cases a:(dq s f).2==0;exact h;show bi (dq s f).1;rw[(Dp (ufr a)).2.2];exact UF f h
def lD(b:Int)(s:ak.q)(f:ae.q):ak.q:=bif J (bF f>b)then s else l5 s f
def UI{b:Int}{s:ak.q}(f:ae.q)(h:bi s):bi (lD b s f):=by unfold lD;cases J (bF f>b);exact qs6 f h;exact h
def kF(b:Int)(l:List ae.q)(s:ak.q):ak.q:=l.foldl (lD b) s
def UG{b:Int}:(l:List ae.q) -> {s:ak.q}->bi s->bi (kF b l s)
 |[],_,h=>h
 |f::l,_,h=>UG l (UI f h)
def dW(j:jourT.q)(b:Int):ak.q×Int:=bif J (((List.length (α:=ae.q) j.2.1:Nat):Int)>2000)then (vD,2)else (kF b j.2.1 (hZ j.1),0)
def zg9(e:ae.q)(b:Int)(q s:ak.q)(d:bi s):(oX e ((b,()),q,s,())).ok/\(oX e ((b,()),q,s,())).get=((b,()),q,lD b s e,()):=by unfold lD;cases a:J (bF e>b);refine aN (by first|rfl|exact a) (aw d ?_);unfold l5;cases c:(dq s e).2==0;exact aN (by first|rfl|exact c) ⟨uT,rfl⟩;exact aV (by first|rfl|exact c) ⟨uT,rfl⟩;exact aV (by first|rfl|exact a) ⟨uT,rfl⟩
def Yy(b:Int)(q:ak.q):(l:List ae.q)->(s:ak.q)->bi s->kQ oX l ((b,()),q,s,())/\ft oX l ((b,()),q,s,())=((b,()),q,kF b l s,())
 |[],_,_=>⟨uT,rfl⟩
 |e::l,s,d=>by have a:=zg9 e b q s d;have c:=Yy b q l (lD b s e) (UI e d);refine⟨⟨a.1,?_⟩,?_⟩;rw[a.2];exact c.1;show ft oX l (oX e ((b,()),q,s,())).get=_;rw[a.2];exact c.2
def wN:Ct:=⟨[.d jourT,.d i64],[ak,i64],λx=>((dW x.1 x.2.1).1,(dW x.1 x.2.1).2,()),λx=>[bf x.1.1]⟩
def Og:ag prog 15 wN:=conv qu3 _ _ (λ_ _ x _ _ a=>by obtain⟨j,b,_⟩:=x;have a:bf j.1:=a;show _/\_=((dW j b).1,(dW j b).2,());unfold dW;cases h:J (((List.length (α:=ae.q) j.2.1:Nat):Int)>2000);have d:=uch h;have c:=Yy b vD (List.drop 0 j.2.1) (hZ j.1) (L9 a);refine aN (by first|rfl|exact h) (aw ⟨rfl,ufc _,ub4 _,?_⟩ (aw c.1 ⟨uT,?_⟩));show((List.length (α:=ae.q) j.2.1:Nat):Int)<=_;omega;show((ft oX (List.drop 0 j.2.1) ((b,()),vD,hZ j.1,())).2.2.1,0,())=_;rw[c.2,ueg];rfl;exact aV (by first|rfl|exact h) ⟨uT,rfl⟩)
def qgo:Cx:=cx [(145,mK ar)] []
def Q7:CxOK prog qgo:=aQ aH ⟨AW,uT⟩ trivial
def qua(x:ap [.d ae]):Fr (aa [ae]):=
 let c:=mK ar;let a:=x.1.2.2.2.2.2;let b:=a.2.1.2.2;Jd (List.length a.1.2.2.1<=1000000) (Jd (List.length b.2.2.1<=1000000) (Jv ((x.1.1,x.1.2.1,x.1.2.2.1,x.1.2.2.2.1,x.1.2.2.2.2.1,(a.1.1,a.1.2.1,(c.f (a.1.2.2.1,())).1,()),(a.2.1.1,a.2.1.2.1,b.1,b.2.1,(c.f (b.2.2.1,())).1,b.2.2.2.1,()),a.2.2.1,a.2.2.2.1,a.2.2.2.2.1,()),())))
def qub:ag prog 88 (bg [.d ae] [ae] qua):=
 aT Q7 f88
def qt4(x:ap [.d jourT]):Fr (aa [i64]):=
 let a:=((0,((List.length x.1.2.1):Int),x.1.2.1,0,()),());Jd (InL (VW a) (s9 a)) (Jd (zhq a) (Jv ((YU (zky a)).1.1,())))
def qt5:ag prog 86 (bg [.d jourT] [i64] qt4):=
 cZ Q7 zd8
def fo(f:ae.q):Prop:=(ma f).2.2.1.length<=1000000/\(iv f).2.2.2.2.1.length<=1000000
def E3:Ct:=⟨[.d ae],[ae],λx=>(x.1,()),λx=>[fo x.1]⟩
def qwv:ag prog 88 E3:=conv qub _ _ (λ_ _ x _ _ h=>aw h.1 (aw h.2 ⟨uT,rfl⟩))
def AU(d:Int)(f:ae.q):Int:=bif aM f==7 then (if d<dA f then dA f else d)else d
def KK(l:List ae.q):Int:=l.foldl AU 0
def qol(e:ae.q)(d:Int):(oV e ((d,()),())).ok/\(oV e ((d,()),())).get=((AU d e,()),()):=by unfold AU;cases h:aM e==7;exact aN (by first|rfl|exact h) ⟨uT,rfl⟩;exact aV (by first|rfl|exact h) ⟨uT,rfl⟩
def Tq:(l:List ae.q)->(d:Int)->kQ oV l ((d,()),())/\ft oV l ((d,()),())=((l.foldl AU d,()),())
 |[],_=>⟨uT,rfl⟩
 |e::l,d=>by have a:=qol e d;have b:=Tq l (AU d e);refine⟨⟨a.1,?_⟩,?_⟩;rw[a.2];exact b.1;show ft oV l (oV e ((d,()),())).get=_;rw[a.2];exact b.2
def JX:Ct:=⟨[.d jourT],[i64],λx=>(KK x.1.2.1,()),λ_=>[]⟩
def Xf{j:jourT.q}(h:bJ w F jourT j v):((List.length (α:=ae.q) j.2.1:Nat):Int)<=9223372036854775807:=by have a:List.length (α:=ae.q) j.2.1<=maxLen:=(aG.wf h.2.2).2.1.1;unfold maxLen at a;omega
def qsm:ag prog 86 JX:=conv qt5 _ _ (λw F x e b _=>by obtain⟨j,_⟩:=x;obtain⟨v,d,rfl,c,_⟩:=b;have a:=Tq (List.drop 0 j.2.1) 0;refine aw ⟨rfl,ufc _,ub4 _,Xf c⟩ (aw a.1 ⟨uT,?_⟩);show((ft oV (List.drop 0 j.2.1) ((0,()),())).1.1,())=_;rw[a.2,ueg];rfl)
def qgp:Cx:=cx [(88,E3),(86,JX),(87,E4)] []
def IL:CxOK prog qgp:=aQ aH ⟨qwv,qsm,V5,uT⟩ trivial
def LN(x:ap [.d jourT,.d ae]):Fr (aa [jourT,i64]):=
 let k:=JX.f (x.1,());let g:=(([],()),[],());let c:=E3.f (x.2.1,());let b:=List.drop ((0:Int)).toNat x.1.2.1;let a:=((List.length x.1.2.1):Int);let h:=List.take (a-(0:Int)).toNat b;Jb (!(E4.f (x.2.1,())).1) (Jv (g,1,())) (Jb (J (a>=2000)) (Jv (g,2,())) (Jd (J (a>0)=Z->0<=I6.wrap (a-1)/\I6.wrap (a-1)<a) (Jb (bif J (a>0)then J (x.2.1.1<(List.getD x.1.2.1 (I6.wrap (a-1)).toNat ae.j).1)else Y) (Jv (g,4,())) (Jb (bif J (x.2.1.1<=k.1)then Z else bif x.2.1.2.1==7 then J (x.2.1.2.2.2.2.1<=k.1)else Y) (Jv (g,12,())) (Jd (0<=(0:Int)/\(0:Int)<=a/\a<=a/\a=a) (Jd (fo x.2.1) (Jd (0 < [c.1].length/\h.length + [c.1].length<=maxLen/\(h.length + [c.1].length)*344<=140737488355328) (Jv (((x.1.1.1,()),List.take (a-(0:Int)).toNat b++[c.1],()),0,())))))))))
def quc:ag prog 44 (bg [.d jourT,.d ae] [jourT,i64] LN):=
 aT IL f44
abbrev ov:jourT.q:=(([],()),[],())
def rJ(l:List ae.q)(f:ae.q):Bool:=match l.getLast? with
 |some g=>J (bF f<bF g)
 |none=>Y
def HH(l:List ae.q)(f:ae.q):Bool:=bif J (bF f<=KK l)then Z else bif aM f==7 then J (dA f<=KK l)else Y
def j5(j:jourT.q)(f:ae.q):jourT.q×Int:=
 bif !(cG f)then (ov,1)else bif J (((List.length (α:=ae.q) j.2.1:Nat):Int)>=2000)then (ov,2)else bif rJ j.2.1 f then (ov,4)else bif HH j.2.1 f then (ov,12)else ((j.1,j.2.1++[f],()),0)
def JY:Ct:=⟨[.d jourT,.d ae],[jourT,i64],λx=>((j5 x.1 x.2.1).1,(j5 x.1 x.2.1).2,()),λx=>[fo x.2.1]⟩
def Xx(l:List ae.q)(f:ae.q)(b:l.length<2000):(bif J (((List.length l:Nat):Int)>0)then J (bF f<(List.getD l (I6.wrap (((List.length l:Nat):Int)-1)).toNat ae.j).1)else Y)=rJ l f:=by
 unfold rJ;cases l with
 |nil=>rfl
 |cons a r=>
  have c:I6.wrap (((a::r).length:Int)-1)=r.length:=by rw[IntWalk.i64_in _ (by simp at b |-;omega)];simp
  rw[c,ueb (by simp:(((a::r).length:Nat):Int)>0),uao,uah];have:((r.length:Int)).toNat=(a::r).length-1:=by simp
  rw[this,uaq (by simp)];rfl
def zbq{l:List ae.q}(a:l.length<2000):J (((List.length l:Nat):Int)>0)=Z->0<=I6.wrap (((List.length l:Nat):Int)-1)/\I6.wrap (((List.length l:Nat):Int)-1)<((List.length l:Nat):Int):=λh=>by have h:=ucx h;rw[IntWalk.i64_in _ (by omega)];omega
def qww(t:bh.q)(l:List ae.q)(f:ae.q)(g:cG f=Z->fo f):(LN ((t,l,()),f,())).ok/\(LN ((t,l,()),f,())).get=((j5 (t,l,()) f).1,(j5 (t,l,()) f).2,()):=by
 unfold j5;cases a : !(cG f);refine aN a ?_;cases e:J (((List.length l:Nat):Int)>=2000);refine aN rfl ?_;have b:l.length<2000:=by have:=uch e;omega
 refine aw (zbq b) ?_;cases c:rJ l f;refine aN ((Xx l f b).trans c) ?_;cases d:HH l f;refine aN d (aw ⟨ufc _,by omega,ufc _,rfl⟩ (aw (g (by simpa using a)) (aw ⟨Nat.one_pos,?_,?_⟩ ⟨uT,?_⟩)));show(List.take (((List.length l:Nat):Int)-0).toNat (List.drop 0 l)).length+1<=maxLen;rw[uc5,uc6];unfold maxLen;omega;show((List.take (((List.length l:Nat):Int)-0).toNat (List.drop 0 l)).length+1)*344<=140737488355328;rw[uc5,uc6];omega;show((t,List.take (((List.length l:Nat):Int)-0).toNat (List.drop 0 l)++[f],()),0,())=_;rw[ueg,ua3 (by omega)];rfl;exact aV d ⟨uT,rfl⟩;exact aV ((Xx l f b).trans c) ⟨uT,rfl⟩;exact aV rfl ⟨uT,rfl⟩;exact aV a ⟨uT,rfl⟩
def qwx:ag prog 44 JY:=conv quc _ _ (λ_ _ x _ _ h=>qww x.1.1 x.1.2.1 x.2.1 λ_=>h)
def qgq:Cx:=cx [(44,JY),(15,wN),(18,tx)] []
def qgr:CxOK prog qgq:=aQ aH ⟨qwx,Og,Lj,uT⟩ trivial
def qvc(x:ap [.d jourT,.d ae]):Fr (aa [jourT,i64]):=
 let g:=JY.f x;let b:=(([],()),[],());let a:=wN.f (x.1,292194,());let c:=tx.f (a.1,x.2.1,());Jd (fo x.2.1) (Jb (g.2.1 != 0) (Jv (b,g.2.1,())) (Jd (bf (x.1.1.1,())) (Jb (a.2.1 != 0) (Jv (b,a.2.1,())) (Jd (bi a.1) (Jb (c.2.1 != 0) (Jv (b,c.2.1,())) (Jv (g.1,0,())))))))
def qvd:ag prog 14 (bg [.d jourT,.d ae] [jourT,i64] qvc):=
 aT qgr f14
def cN(j:jourT.q)(f:ae.q):jourT.q×Int:=
 bif (j5 j f).2 != 0 then (ov,(j5 j f).2)else bif (dW j 292194).2 != 0 then (ov,(dW j 292194).2)else bif (dq (dW j 292194).1 f).2 != 0 then (ov,(dq (dW j 292194).1 f).2)else ((j5 j f).1,0)
def qs7{j:jourT.q}(b:Int)(h:bf j.1):bi (dW j b).1:=by unfold dW;cases J (((List.length (α:=ae.q) j.2.1:Nat):Int)>2000);exact UG _ (L9 h);exact⟨⟨ufh _,λv d=>by cases d⟩,ufh _,ufh _,λa c=>by cases c⟩
def t6:Ct:=⟨[.d jourT,.d ae],[jourT,i64],λx=>((cN x.1 x.2.1).1,(cN x.1 x.2.1).2,()),λx=>[fo x.2.1,bf x.1.1]⟩
def Pz:ag prog 14 t6:=conv qvd _ _ (λ_ _ x _ _ h=>by obtain⟨j,f,_⟩:=x;obtain⟨e,d⟩:fo f/\bf j.1:=h;show _/\_=((cN j f).1,(cN j f).2,());unfold cN;refine aw e ?_;cases a:(j5 j f).2 != 0;refine aN (by first|rfl|exact a) (aw d ?_);cases b:(dW j 292194).2 != 0;refine aN (by first|rfl|exact b) (aw (qs7 _ d) ?_);cases c:(dq (dW j 292194).1 f).2 != 0;exact aN (by first|rfl|exact c) ⟨uT,rfl⟩;exact aV (by first|rfl|exact c) ⟨uT,rfl⟩;exact aV (by first|rfl|exact b) ⟨uT,rfl⟩;exact aV (by first|rfl|exact a) ⟨uT,rfl⟩)
def qt8(x:ap [.d ae]):Fr (aa [.bool]):=
 Jv (bif J (((List.length x.1.2.2.2.2.2.1.2.2.1):Int)<=50)then J (((List.length x.1.2.2.2.2.2.2.1.2.2.2.2.1):Int)<=50)else Y,())
def qt9:ag prog 43 (bg [.d ae] [.bool] qt8):=
 aT aL f43
def pQ(f:ae.q):Bool:=bif J (((List.length (ma f).2.2.1:Nat):Int)<=50)then J (((List.length (iv f).2.2.2.2.1:Nat):Int)<=50)else Y
def Kb:Ct:=⟨[.d ae],[.bool],λx=>(pQ x.1,()),λ_=>[]⟩
def qtb:ag prog 43 Kb:=conv qt9 _ _ (λ_ _ _ _ _ _=>⟨uT,rfl⟩)
def UB{f:ae.q}(h:pQ f=Z):fo f:=by unfold pQ at h;rw[gQ,udc]at h;have a:=ucx h.1;have b:=ucx h.2;exact⟨by omega,by omega⟩
def qgs:Cx:=cx [(43,Kb)] []
def qgt:CxOK prog qgs:=aQ aH ⟨qtb,uT⟩ trivial
abbrev oC:Pt:=⟨36,0,⟨[(6,.d i64)],[.x 2 27 jourT,.r 2 2 0]⟩,⟨[],[]⟩,⟨[(4,.d .bool)],[]⟩⟩
abbrev zx:Type:=ap []×dj [.x 2 27 jourT,.r 2 2 0]
def zD(e:ae.q)(s:zx):Fr (zx ⊕ oC.R.X):=
 Jb (!(Kb.f (e,())).1) (Jv (.inr ((Y,()),()))) (Jv (.inl ((),s.2.1,())))
def sC(x:oC.M.X):Int×List ae.q×zx:=(x.1.1,x.2.1.2.1,x.1.2,x.2)
def VX(x:oC.M.X):Prop:=True
def zig(s:zx):oC.E.X:=((),())
def qp5:zx:=(aY _,cf _)
def TK:oC.R.X:=(aY _,cf _)
def zek:af prog (.loop (au f13 0)) oC.M oC (FL zD sC VX zig Rd.back qp5 TK):=
 sQ qgt (λ_ _=>.n .o) ae.j (λx=>((x.2.1.2.1.length:Nat):Int)) (λx s=>((I6.wrap (x.1.1+1),s.1),s.2)) (λ_ _=>rfl)
def zkz(y:oC.M.X):zx ⊕ oC.R.X:=eC zD ((sC y).2.1.drop (sC y).1.toNat) (sC y).2.2
def zhr(y:oC.M.X):Prop:=l6 zD ((sC y).2.1.drop (sC y).1.toNat) (sC y).2.2
def qgu:Cx:=cx [(42,Ka)] []
def qgv:CxOK prog qgu:=aQ aH ⟨qs8,uT⟩ trivial
def qt6(x:ap [.d jourT,.d i64]):Fr (aa [.bool]):=
 let a:=((0,()),x.1,());let b:=zkz a;Jb (bif !(Ka.f ((0,0,((0,0,()),(0,0,0,0,()),[],()),[],()),(x.1.1.1,()),())).1 then Z else J (((List.length x.1.2.1):Int)>x.2.1)) (Jv (Y,())) (Jd (InL (VX a) (sC a)) (Jd (zhr a) (Jb (dV b) (Jv (Z,())) (Jv ((e9 TK b).1.1,())))))
def qt7:ag prog 13 (bg [.d jourT,.d i64] [.bool] qt6):=
 cZ qgv zek
def zpx{a ok:Prop}{g:σ ⊕ ρ}{v:ρ->Bool}{d:ρ}{s1:σ}{c:ρ}{b:Bool}(f:a)(i:ok)(h:g=if b=Z then .inl s1 else .inr c)(k:v c=Y):
  (Jd a (Jd ok (Jb (dV g) (Jv ((Z,()):aa [.bool])) (Jv (v (e9 d g),()))))).ok/\(Jd a (Jd ok (Jb (dV g) (Jv ((Z,()):aa [.bool])) (Jv (v (e9 d g),()))))).get=(b,()):=by
 cases b;have e:=h;subst e;exact aw f (aw i (aN rfl ⟨uT,by show(v c,())=_;rw[k]⟩));have e:=h;subst e;exact aw f (aw i (aV rfl ⟨uT,rfl⟩))
def acE(e:ba.q×ba.q):Bool:=e.1.1==e.2.1&&(e.1.2.1==e.2.2.1&&(e.1.2.2.1==e.2.2.2.1&&Z))
def clE(a b:dx.q):Bool:=a.1==b.1&&(a.2.1==b.2.1&&(a.2.2.1==b.2.2.1&&(a.2.2.2.1==b.2.2.2.1&&(a.2.2.2.2.1==b.2.2.2.2.1&&(a.2.2.2.2.2.1==b.2.2.2.2.2.1&&Z)))))
def zl8(a b:aq.q):Bool:=bif bif !(clE a.1 b.1)then Z else ((List.length (α:=ba.q) a.2.1:Nat):Int) != ((List.length (α:=ba.q) b.2.1:Nat):Int)then Y else (List.zip (α:=ba.q) (β:=ba.q) a.2.1 b.2.1).all acE
def qmk:Ct:=⟨[.d aq,.d aq],[.bool],λx=>(zl8 x.1 x.2.1,()),λ_=>[]⟩
def Ou{a b:Bool}(h:(bif a then Z else b)=Y):a=Y/\b=false:=by cases a<;>cases b<;>first|exact⟨rfl,rfl⟩|cases h
def jc(j:jourT.q)(n:Int):Bool:=bif bif !(pP iy j.1)then Z else J (((List.length (α:=ae.q) j.2.1:Nat):Int)>n)then Y else j.2.1.all pQ
def E5:Ct:=⟨[.d jourT,.d i64],[.bool],λx=>(jc x.1 x.2.1,()),λ_=>[]⟩
def L5:ag prog 13 E5:=conv qt7 _ _ (λw F x g b _=>by
 obtain⟨j,n,_⟩:=x;obtain⟨v,f,rfl,d,_⟩:=b;have a:=Xf d;show _/\_=(jc j n,());unfold jc;cases h:(bif !(pP iy j.1)then Z else J (((List.length (α:=ae.q) j.2.1:Nat):Int)>n));refine aN h (zpx (v:=λr=>r.1.1) (s1:=((),j,())) (c:=((Y,()),())) ⟨uT,ufc _,ub4 _,a⟩ (Oi (step:=zD) _ (λe _ s=>⟨λ_=>uT,λ_=>uT⟩) _) ?_ rfl);show eC zD (List.drop 0 j.2.1) _=_;rw[ueg,MR (step:=zD) (I:=λ_=>True) (p:=pQ) (c:=((Y,()),())) (λe s _=>?_) _ _ trivial];cases j.2.1.all pQ<;>rfl
 show(Jb (!(pQ e)) _ _).get=_;cases pQ e<;>rfl
 exact aV h ⟨uT,rfl⟩)
def Bf{j:jourT.q}{n:Int}(h:jc j n=Z):bf j.1/\((List.length (α:=ae.q) j.2.1:Nat):Int)<=n/\∀ f∈j.2.1,pQ f=true:=by
 unfold jc at h;cases a:(bif !(pP iy j.1)then Z else J (((List.length j.2.1:Nat):Int)>n));rw[a]at h;obtain⟨b,c⟩:=Ou a;have d:pP iy j.1=true:=by simpa using b
 exact⟨(qsy d).2,by have:=uch c;omega,uc8.mp h⟩;rw[a]at h;cases h
def qvn(x:ap [.d ay,.d ay]):Fr (aa [.bool]):=
 let b:=x.1.2.2.2;let a:=x.2.1.2.2.2;Jv (bif bif bif bif bif (AA.f (b.2.1,a.2.1,())).1 then x.1.1==x.2.1.1 else Y then x.1.2.1==x.2.1.2.1 else Y then x.1.2.2.1==x.2.1.2.2.1 else Y then b.1.1==a.1.1&&(b.1.2.1==a.1.2.1&&(b.1.2.2.1==a.1.2.2.1&&(b.1.2.2.2.1==a.1.2.2.2.1&&Z)))else Y then b.2.2.1==a.2.2.1 else Y,())
def qvo(x:ap [.d dF,.d dF]):Fr (aa [.bool]):=
 let b:=x.1.2.1;let a:=x.2.1;Jv (bif bif (AA.f (x.1.2.2.1,a.2.2.1,())).1 then x.1.1.1==a.1.1&&(x.1.1.2.1==a.1.2.1&&Z)else Y then b.1==a.2.1.1&&(b.2.1==a.2.1.2.1&&(b.2.2.1==a.2.1.2.2.1&&(b.2.2.2.1==a.2.1.2.2.2.1&&Z)))else Y,())
def zmb(a b:ay.q):Bool:=(qvn (a,b,())).get.1
def zow(a b:dF.q):Bool:=(qvo (a,b,())).get.1
def shB(a b:aD.q):Bool:=bif bif bif !(zow a.2.2.1 b.2.2.1)then Z else a.1 != b.1 then Z else a.2.1 != b.2.1 then Z else ((List.length (α:=ay.q) a.2.2.2.1:Nat):Int) != ((List.length (α:=ay.q) b.2.2.2.1:Nat):Int)
def shF(a b:aD.q):Bool:=bif shB a b then Y else (List.zip (α:=ay.q) (β:=ay.q) a.2.2.2.1 b.2.2.2.1).all λe=>zmb e.1 e.2
def cSH:Ct:=⟨[.d aD,.d aD],[.bool],λx=>(shF x.1 x.2.1,()),λ_=>[]⟩
abbrev vq:Pt:=⟨127,0,⟨[(6,.d i64)],[.x 2 32 ak,.r 2 2 0,.x 3 32 ak,.r 3 3 0]⟩,⟨[],[.x 2 32 ak,.r 2 2 0,.x 3 32 ak,.r 3 3 0]⟩,⟨[(4,.d .bool)],[]⟩⟩
abbrev zz:Type:=ap []×dj [.x 2 32 ak,.r 2 2 0,.x 3 32 ak,.r 3 3 0]
def zot(e:(bn.q×bn.q))(s:zz):Fr (zz ⊕ vq.R.X):=
 Jb (bif !(cSH.f (e.1.1,e.2.1,())).1 then Z else e.1.2.1 != e.2.2.1) (Jv (.inr ((Y,()),()))) (Jv (.inl ((),s.2.1,s.2.2.1,())))
def PR(x:vq.M.X):Int×List (bn.q×bn.q)×zz:=(x.1.1,x.2.1.2.1.zip x.2.2.1.2.1,x.1.2,x.2)
def zik(s:zz):vq.E.X:=((),s.2.1,s.2.2.1,())
def qp8:zz:=(aY _,cf _)
def zk2(y:vq.M.X):zz ⊕ vq.R.X:=eC zot ((PR y).2.1.drop (PR y).1.toNat) (PR y).2.2
abbrev vr:Pt:=⟨127,2,⟨[(8,.d i64)],[.x 2 32 ak,.r 2 2 0,.x 3 32 ak,.r 3 3 0]⟩,⟨[],[.x 2 32 ak,.r 2 2 0,.x 3 32 ak,.r 3 3 0]⟩,⟨[(4,.d .bool)],[]⟩⟩
abbrev z7:Type:=ap []×dj [.x 2 32 ak,.r 2 2 0,.x 3 32 ak,.r 3 3 0]
def zou(e:(aq.q×aq.q))(s:z7):Fr (z7 ⊕ vr.R.X):=
 Jb (!(qmk.f (e.1,e.2,())).1) (Jv (.inr ((Y,()),()))) (Jv (.inl ((),s.2.1,s.2.2.1,())))
def PS(x:vr.M.X):Int×List (aq.q×aq.q)×z7:=(x.1.1,x.2.1.2.2.1.zip x.2.2.1.2.2.1,x.1.2,x.2)
def zil(s:z7):vr.E.X:=((),s.2.1,s.2.2.1,())
def qp9:z7:=(aY _,cf _)
def zk3(y:vr.M.X):z7 ⊕ vr.R.X:=eC zou ((PS y).2.1.drop (PS y).1.toNat) (PS y).2.2
abbrev en0(a b:ak.q):vq.M.X:=((0,()),a,b,())
abbrev o0(a b:ak.q):vq.E.X:=zik (fq qp8 (zk2 (en0 a b)))
abbrev en1(a b:ak.q):vr.M.X:=((0,()),(o0 a b).2.1,(o0 a b).2.2.1,())
abbrev o1(a b:ak.q):vr.E.X:=zil (fq qp9 (zk3 (en1 a b)))
def zg5{j:jourT.q}{b:Int}(h:((List.length (α:=ae.q) j.2.1:Nat):Int)<=2000):dW j b=(kF b j.2.1 (hZ j.1),0):=by unfold dW;rw[show J (((List.length (α:=ae.q) j.2.1:Nat):Int)>2000)=Y from udw (by omega)];rfl
def ZB{j:jourT.q}{f:ae.q}(h:(j5 j f).2=0):cG f=Z/\(j5 j f).1=(j.1,j.2.1++[f],())/\rJ j.2.1 f=Y/\HH j.2.1 f=Y/\((List.length (α:=ae.q) j.2.1:Nat):Int)<2000:=by unfold j5 at h |-;cases b:cG f;rw[b]at h;have h:(1:Int)=0:=h;exact absurd h (by decide);rw[b]at h;cases a:J (((List.length (α:=ae.q) j.2.1:Nat):Int)>=2000);rw[a]at h;cases c:rJ j.2.1 f;rw[c]at h;cases d:HH j.2.1 f;exact⟨rfl,rfl,rfl,rfl,by have:=uch a;omega⟩;rw[d]at h;have h:(12:Int)=0:=h;exact absurd h (by decide);rw[c]at h;have h:(4:Int)=0:=h;exact absurd h (by decide);rw[a]at h;have h:(2:Int)=0:=h;exact absurd h (by decide)
def CG{j:jourT.q}{f:ae.q}(h:(cN j f).2=0):(j5 j f).2=0/\(dW j 292194).2=0/\(dq (dW j 292194).1 f).2=0/\(cN j f).1=(j.1,j.2.1++[f],()):=by
 unfold cN at h |-;cases a:(j5 j f).2 != 0;have d:(j5 j f).2=0:=by simpa using a
 rw[a]at h;cases b:(dW j 292194).2 != 0;have e:(dW j 292194).2=0:=by simpa using b
 rw[b]at h;cases c:(dq (dW j 292194).1 f).2 != 0;exact⟨d,e,by simpa using c,(ZB d).2.1⟩;rw[c]at h;have h:(dq (dW j 292194).1 f).2=0:=h;rw[h]at c;exact absurd c (by decide);rw[b]at h;have h:(dW j 292194).2=0:=h;rw[h]at b;exact absurd b (by decide);rw[a]at h;have h:(j5 j f).2=0:=h;rw[h]at a;exact absurd a (by decide)
def ML{f:ae.q}(h:cG f=Z):1<=bF f/\bF f<=292194:=by unfold cG at h;simp only[udc,ucu]at h;exact h.2.1
def zvz(b:Int)(l:List ae.q)(f:ae.q)(s:ak.q):kF b (l++[f]) s=lD b (kF b l s) f:=by unfold kF;rw[List.foldl_append];rfl
def zwf{b:Int}{s:ak.q}{f:ae.q}(h:bF f>b):lD b s f=s:=by unfold lD;rw[ueb h];rfl
def ztc{b:Int}{s:ak.q}{f:ae.q}(h:bF f<=b):lD b s f=l5 s f:=by unfold lD;rw[udw (by omega)];rfl
def qgw:Cx:=cx [(109,kw),(111,nO),(96,iD)] []
def qgx:CxOK prog qgw:=aQ aH ⟨zh,CH,rC,uT⟩ trivial
def Md(x:ap [.d ah,.d ax]):Fr (aa [.bool]):=
 let c:=kw.f (x.1,());let b:=nO.f (x.2.1,());let a:=iD.f (x.1.2.2.1,x.2.1.2.2.1,());Jd ((bif bif c.1 then b.1 else Y then a.1 else Y)=Z->¬x.2.1.2.2.2.1<0) (Jv (bif bif bif c.1 then b.1 else Y then a.1 else Y then I6.wrap ((Bvo I6.bits (Int.fdiv x.1.2.2.2.2.2.2.2.1 (2 ^ min (Int.toNat x.2.1.2.2.2.1) I6.bits)) &&& Bvo I6.bits 1).toNat:Int)==1 else Y,()))
def qvx:ag prog 177 (bg [.d ah,.d ax] [.bool] Md):=
 aT qgx f177
def vR(t:ah.q)(l:ax.q):Bool:=(Md (t,l,())).get.1
def mL:Ct:=⟨[.d ah,.d ax],[.bool],λx=>(vR x.1 x.2.1,()),λ_=>[]⟩
def OA{l:ax.q}(h:l8 l=Z):0<=l.2.2.2.1/\l.2.2.2.1<=7:=by
 unfold l8 xE at h;have e:∀ (b:Bool) (x y:Fr (aa [.bool])),(Jb b x y).get=bif b then x.get else y.get:=λb x y=>by cases b<;>rfl
 simp only[e]at h;have k:∀ z:aa [.bool],(Jv z).get=z:=λ_=>rfl;simp only[k]at h;cases a:(fj.f ((0,7,()),[l.2.2.2.1],())).1;cases d:(fj.f ((1,1000000000,()),[l.1],())).1<;>cases g:(fj.f ((0,1000000000,()),[l.2.1],())).1<;>cases i:(fj.f ((1,292194,()),[l.2.2.1],())).1<;>simp only[d,g,i,a]at h<;>cases h
 have c:iI 0 7 [l.2.2.2.1]=true:=a;unfold iI at c;simpa using c
def qcq {t:ah.q} {l:ax.q} (h:(bif bif gG t then l8 l else Y then (iD.f (t.2.2.1,l.2.2.1,())).1 else Y)=Z):gG t=Z/\l8 l=Z/\(iD.f (t.2.2.1,l.2.2.1,())).1=true:=by rw[gQ,gQ,udc,udc]at h;exact⟨h.1.1,h.1.2,h.2⟩
def D5:ag prog 177 mL:=conv qvx _ _ (λ_ _ x _ _ _=>by obtain⟨t,l,_⟩:=x;refine⟨⟨λh=>?_,uT⟩,rfl⟩;exact ufm.mpr (OA (qcq h).2.1).1)
def Up(g:α->Int)(l:List α):Prop:=l.Pairwise λa b=>g a<g b
def qdm{g:α->Int}{l:List α}{x:α}(h:Up g l)(n:∀ y,l[i]?= U y->g x=g y):Up g (l.set i x):=by
 unfold Up at *;rw[uan]at *;intro a b c f d;rw[udp]at c f;have e:∀ k (m:k<l.length),g ((l.set i x)[k]'(by rw[udp];exact m))=g l[k]:=λk m=>by rw[List.getElem_set];split;rename_i e;subst e;exact n _ (uaq m);rfl
 rw[e a c,e b f];exact h a b c f d
def qdl{g:α->Int}{x:α}:(l:List α)->(k:Nat)->Up g l->(∀ i y,l[i]?= U y->i<k->g y<g x)->(∀ i y,l[i]?= U y->k<=i->g x<g y)->Up g (l.take k++[x]++l.drop k):=by
 intro l k h o p;unfold Up at *;rw[ubp,ubp];refine⟨⟨h.sublist (List.take_sublist k l),uay _ _,λa f b m=>?_⟩,h.sublist (List.drop_sublist k l),λa f b m=>?_⟩;obtain⟨i,d⟩:=ubs f;rw[ucf.1 m];have c:i<k:=by
  rcases ueq i k with e|e
  exact e;rw[List.getElem?_take_eq_none e]at d;cases d
 rw[List.getElem?_take_of_lt c]at d;exact o i a d c;obtain⟨j,n⟩:=ubs m;rw[ub1]at n;rcases udt.1 f with f|f
 obtain⟨i,d⟩:=ubs f;have c:i<k:=by
  rcases ueq i k with e|e
  exact e;rw[List.getElem?_take_eq_none e]at d;cases d
 rw[List.getElem?_take_of_lt c]at d;exact ue2 (o i a d c) (p (k+j) b n (Nat.le_add_right _ _));rw[ucf.1 f];exact p (k+j) b n (Nat.le_add_right _ _)
def Vg(g:α->Bool):(l:List α)->(i k:Int)->gl g l i=U k->∀ (m:Nat) (y:α),l[m]?= U y->i+(m:Int)<k->g y=Y
 |[],_,_,h,_,_,_,_=>nomatch h
 |x::r,i,k,h,m,y,a,b=>by
  unfold gl at h;split at h;cases h;omega;rename_i c;cases m with
  |zero=>cases a;simpa using c
  |succ m=>exact Vg g r (i+1) k h m y a (by omega)
def PX{g:α->Int}{l:List α}{x:α}(h:Up g l)(s:∀ y∈l,g y≠g x):Up g (gt g l x):=by
 show Up g (je (if gr g l x<0 then (l.length:Int)else gr g l x) l [x]);unfold je;by_cases n:gr g l x<0;rw[ufw n];have o:=Gp n;refine qdl l _ h (λi y a _=>?_) (λi y a B=>?_);have m:=ubg a;have:=o y m;have t:=uch this;have u:=s y m;omega;have:=(uak.1 a).1;omega;rw[ufx n];have b:0<=gY (λy=>J (g y>g x)) l:=by unfold gr at n;omega
 obtain⟨C,z,E,e⟩:=pY b;have e:=ucx e;refine qdl l _ h (λi y a A=>?_) (λi y a B=>?_);have m:=ubg a;have w:J (g y>g x)=false:=by
  have D:gl (λy=>J (g y>g x)) l 0=U (gY (λy=>J (g y>g x)) l):=by
   unfold gY at b |-;cases v:gl (λy=>J (g y>g x)) l 0 with
   |none=>rw[v]at b;exact absurd b (by decide)
   |some k=>rfl
  refine Vg _ l 0 _ D i y a ?_;have:gr g l x=gY (λy=>J (g y>g x)) l:=rfl;omega
 have t:=uch w;have u:=s y m;omega;have f:l[(gr g l x).toNat]?= U z:=E;rcases ueq (gr g l x).toNat i with r|r
 have c:=(uak.1 a);have d:=(uak.1 f);have p:=(uan.1 h) (gr g l x).toNat i d.1 c.1 r;rw[d.2,c.2]at p;omega;have:i=(gr g l x).toNat:=by omega
 rw[this]at a;rw[f]at a;cases a;omega
end Go.Proofs.YtdadnmgajcfkfaaGreat
