/-
  Parts of the proof, one behind the other.
-/
import Derived.Test.YtdokapnnagbehaaGreatMd
import Derived.Maps.OwnIn
import Derived.RegionTactic
import Derived.Deep.MidRow
import Derived.Deep.RegionLaw
import Derived.LoopN
set_option linter.all false
set_option maxRecDepth 100000
set_option maxHeartbeats 4000000
noncomputable section
open Option renaming some->U,none->V
open Bool renaming true->Z,false->Y
open Decidable renaming decide->J
open List renaming replicate->Lrp
open BitVec renaming ofInt->Bvo
open Go Go.RowKit
variable {T α σ ρ β:Type} {P:Program} {ad:Addr} {arr cs cur:Array Value} {f:FuncId} {p x a y r day:Int} {k:IntKind} {l:List Int} {xs vs news:List Value} {off i n b c d B m len:Nat} {F F' K:Nat->Prop} {R g R':Nat->Value->Prop} {o:Oper} {e ety t ty el:TypeId} {v u vx:Value} {w w' W' W:World}
namespace Go.Proofs.YtdokapnnagbehaaGreat
open Go Go.Ab Go.RowKit Go.Proofs Tryz
open Go.Ab.Fr renaming val->Jv,need->Jd,br->Jb
def CKp:Cx:=cx [(60,iE),(92,t8),(93,Ew),(94,JO),(95,kv)] []
def qfj:CxOK prog CKp:=aQ aH ⟨GP,zq1,qpb,ql6,Aw,uT⟩ trivial
def uW(h:aD.q)(a:Int):List (List ay.q):=
 [List.take (a-0).toNat (List.drop (0:Int).toNat (aO h)),List.take (((aO h).length:Int)-I6.wrap (a+1)).toNat (List.drop (I6.wrap (a+1)).toNat (aO h))]
def CZ(h:aD.q)(l:List ay.q):aD.q:=(h.1,h.2.1,h.2.2.1,l,())
def M9(h x:aD.q)(t:bh.q)(d:Int):Fr (aa [i64,i64]):=
 let c:=iE.f (x,t,());let a:=JO.f (c.1,(d,h.2.2.1.1.2.1,()),());let b:=kv.f (a.1,1000,());Jd (cj x) (Jd (bf t)
  (Jb (c.2.1 != 0) (Jv (0,c.2.1,()))
   (Jb (a.2.1 != 0) (Jv (0,a.2.1,()))
    (Jv (b.1,b.2.1,())))))
def M8(x:ap [.d aD,.d bh]):Fr (aa [i64,i64]):=
 let h:aD.q:=x.1;let t:bh.q:=x.2.1
 let a:Int:=(t8.f (h,())).1;let b:Bool:=(t8.f (h,())).2.1
 Jd (cj h) (Jd (bf t) (Jb ((iE.f (h,t,())).2.1 != 0) (Jv (0,(iE.f (h,t,())).2.1,()))
  (Jd (((aO h).length:Int)<=1000000)
   (Jd ((!b)=Y->0<=a/\a<((aO h).length:Int))
    (Jd ((bif !b then Z else ((aO h).getD a.toNat ay.j).2.2.1 != 3)=Y->0<=a/\a<((aO h).length:Int))
     (Jb (bif bif !b then Z else ((aO h).getD a.toNat ay.j).2.2.1 != 3 then Z else ((aO h).getD a.toNat ay.j).2.2.2.2.2.1 != 1) (Jv (0,0,()))
      (Jd (0<=a/\a<((aO h).length:Int))
       (Jd (0<=(none:Option Int).getD 0/\(none:Option Int).getD 0<=a/\a<=((aO h).length:Int))
        (Jd (0<=I6.wrap (a+1)/\I6.wrap (a+1)<=((aO h).length:Int)/\((aO h).length:Int)<=((aO h).length:Int))
         (Jd ((uW h a).flatten.length<=1000000)
          (M9 h (CZ h (Ew.f (uW h a,())).1) t ((aO h).getD a.toNat ay.j).2.1)))))))))))
def za8:ag prog 62 (bg [.d aD,.d bh] [i64,i64] M8):=
 aT qfj f62
def sO(h:aD.q)(a:Nat):aD.q:=CZ h ((aO h).take a++(aO h).drop (a+1))
def xZ(h:aD.q)(t:bh.q)(a:Int):Int×Int:=
 if (cw h a).2.2.1=3/\(cw h a).2.2.2.2.2.1=1 then
  (if (c9 (sO h a.toNat) t).2=0 then
   (if (gM (c9 (sO h a.toNat) t).1 ((cw h a).2.1,h.2.2.1.1.2.1,())).2=0 then iq (gM (c9 (sO h a.toNat) t).1 ((cw h a).2.1,h.2.2.1.1.2.1,())).1 1000
    else (0,(gM (c9 (sO h a.toNat) t).1 ((cw h a).2.1,h.2.2.1.1.2.1,())).2))
   else (0,(c9 (sO h a.toNat) t).2))
 else (0,0)
def gm(h:aD.q)(t:bh.q):Int×Int:=
 if (c9 h t).2=0 then (match pb h with|none=>(0,0)|some a=>xZ h t a)else (0,(c9 h t).2)
def qU:Ct:=⟨[.d aD,.d bh],[i64,i64],λx=>((gm x.1 x.2.1).1,(gm x.1 x.2.1).2,()),λx=>[cj x.1,bf x.2.1]⟩
def qdb(h:aD.q)(l:List Int):(k:Nat)->k<=l.length->∀ v,j8 h l k=U v->v∈l/\mX (cw h v)=Z
 |0,_,_,a=>by cases a
 |k+1,c,v,a=>by
  unfold j8 at a;split at a;rename_i b;cases a;refine⟨?_,b⟩;have:l.getD k 0=l[k]:=by rw[uah,uaq (by omega)];rfl
  rw[this];exact udj _;exact qdb h l k (by omega) v a
def zq0{h:aD.q}(d:pb h=U a):(0<=a/\a<((aO h).length:Int))/\mX (cw h a)=true:=by obtain⟨b,c⟩:=qdb h (bV h) _ (ufd _) a d;exact⟨Cp b,c⟩
def zjg{h:aD.q}{a:Nat}(b:a<(aO h).length)(c:(aO h).length<=1000000):I6.wrap ((a:Int)+1)=((a+1:Nat):Int)/\(uW h a).flatten=(aO h).take a++(aO h).drop (a+1):=by
 have w:I6.wrap ((a:Int)+1)=((a+1:Nat):Int):=by rw[cV (by omega)];omega
 refine⟨w,?_⟩;unfold uW;rw[w,uet,uc0,uc0,show(((aO h).length:Int)-((a+1:Nat):Int)).toNat=(aO h).length-(a+1) by omega];have e:List.take ((aO h).length-(a+1)) (List.drop (a+1) (aO h))=List.drop (a+1) (aO h):=ua3 (by rw[uc7];exact ufd _);rw[e];simp
def zr0{h:aD.q}(d:cj h)(a:Nat):cj (sO h a):=by
 have b:List.Sublist ((aO h).take a++(aO h).drop (a+1)) (aO h):=by
  conv=>rhs;rw[<- uba a (aO h)]
  refine List.Sublist.append (List.Sublist.refl _) ?_;rw[<- List.drop_drop];exact List.drop_sublist 1 _
 refine⟨ueq (List.Sublist.length_le b) d.1,d.2.1,λc e=>d.2.2 c (b.subset e)⟩
def Ss{b:Bool}:(bif bif !b then Z else x != 3 then Z else y != 1)=Y↔b=Z/\x=3/\y=1:=by
 cases b with
 |false=>simp
 |true=>by_cases a:x=3;by_cases c:y=1;simp[a];simp[a];simp
def zbe{h x:aD.q}{t:bh.q}(d:cj x)(c:bf t):(M9 h x t day).ok/\(M9 h x t day).get =
  (let r:Int×Int:=if (c9 x t).2=0 then (if (gM (c9 x t).1 (day,h.2.2.1.1.2.1,())).2=0 then iq (gM (c9 x t).1 (day,h.2.2.1.1.2.1,())).1 1000 else (0,(gM (c9 x t).1 (day,h.2.2.1.1.2.1,())).2))else (0,(c9 x t).2)
   (r.1,r.2,())):=by
 refine aw d (aw c ?_);by_cases a:(c9 x t).2=0;refine aN (by show((c9 x t).2 != 0)=Y;simp[a]) ?_;simp only[a];by_cases b:(gM (c9 x t).1 (day,h.2.2.1.1.2.1,())).2=0;refine aN (by show((gM (c9 x t).1 (day,h.2.2.1.1.2.1,())).2 != 0)=Y;simp[b]) ⟨uT,?_⟩;simp only[b];rfl;refine aV (by show((gM (c9 x t).1 (day,h.2.2.1.1.2.1,())).2 != 0)=Z;simp[b]) ⟨uT,?_⟩;simp only[b];rfl;refine aV (by show((c9 x t).2 != 0)=Z;simp[a]) ⟨uT,?_⟩;simp only[a];rfl
def za5(h:aD.q)(t:bh.q)(p:cj h)(s:bf t):(M8 (h,t,())).ok/\(M8 (h,t,())).get=((gm h t).1,(gm h t).2,()):=by
 have D:=p.1;refine aw p (aw s ?_);unfold gm;by_cases l:(c9 h t).2=0;refine aN (by show((c9 h t).2 != 0)=Y;simp[l]) (aw (show((aO h).length:Int)<=1000000 by omega) ?_);rw[uf0 l];cases m:pb h with
 |none=>
  have o:(t8.f (h,())).2.1=false:=by show(pb h).isSome=Y;rw[m];rfl
  rw[o];exact aw (λd=>by cases d) (aw (λd=>by cases d) (aV rfl ⟨uT,rfl⟩))
 |some a=>
  obtain⟨⟨i,k⟩,C⟩:=zq0 m;have v:(t8.f (h,())).1=a:=by show(pb h).getD 0=a;rw[m];rfl
  have o:(t8.f (h,())).2.1=true:=by show(pb h).isSome=Z;rw[m];rfl
  rw[v,o];refine aw (λ_=>⟨i,k⟩) (aw (λ_=>⟨i,k⟩) ?_);show _/\_=((xZ h t a).1,(xZ h t a).2,());cases r:(bif bif !Z then Z else ((aO h).getD a.toNat ay.j).2.2.1 != 3 then Z else ((aO h).getD a.toNat ay.j).2.2.2.2.2.1 != 1)with
  |true=>
   refine aV rfl ⟨uT,?_⟩;have y:¬ ((cw h a).2.2.1=3/\(cw h a).2.2.2.2.2.1=1):=λd=>by have b:(bif bif !Z then Z else (cw h a).2.2.1 != 3 then Z else (cw h a).2.2.2.2.2.1 != 1)=true:=r;rw[Ss.2 ⟨rfl,d⟩]at b;cases b
   unfold xZ;rw[uf1 y];rfl
  |false=>
   obtain⟨_,A,B⟩:=Ss.1 r;obtain⟨n,rfl⟩:∃ n:Nat,a=n:=⟨a.toNat,by omega⟩;obtain⟨w,c⟩:=zjg (h:=h) (a:=n) (by omega) (by omega);have g:=zr0 p n;have e:((uW h n).flatten).length<=1000000:=by rw[c];have:(aO (sO h n)).length<=500000:=g.1;exact ueq this (by decide)
   have u:0<=I6.wrap ((n:Int)+1)/\I6.wrap ((n:Int)+1)<=((aO h).length:Int):=by rw[w];omega
   refine aN rfl (aw ⟨i,k⟩ (aw ⟨ufe _,i,uev k⟩ (aw ⟨u.1,u.2,ufe _⟩ (aw e ?_))));have z:CZ h (Ew.f (uW h n,())).1=sO h n:=by show CZ h (List.flatten (uW h n))=CZ h _;rw[c]
   rw[z];have:=zbe (h:=h) (day:=(cw h n).2.1) g s;refine⟨this.1,this.2.trans ?_⟩;unfold xZ;have x:(cw h n).2.2.1=3/\(cw h n).2.2.2.2.2.1=1:=⟨A,B⟩;rw[uf0 x,uc0]
 refine aV (by show((c9 h t).2 != 0)=Z;simp[l]) ⟨uT,?_⟩;rw[uf1 l];rfl
def Xp:ag prog 62 qU:=
 dz za8 _ _ (λw F x c b a=>by obtain⟨h,t,_⟩:=x;exact za5 h t a.1 a.2)
def Xo(h:aD.q)(t:bh.q):0<=(gm h t).1/\(gm h t).1<=4000000000000000000:=by
 have z:(0:Int)<=0/\(0:Int)<=4000000000000000000:=by decide
 unfold gm;split;split;exact z;unfold xZ;split;split;split;exact U2 _ _ _ (by decide);exact z;exact z;exact z;exact z
def qj4(l:List aF.q)(d:Int):0<=(eq l d).1/\(eq l d).1<=4000000000000000000:=by unfold eq;split;exact I3;exact Qb _ _
def ziq{b:Int}:a>4000000000000000000-b↔4000000000000000000<a+b:=by omega
def Lm(w k:Int):Int×Int:=if 4000000000000000000<w+k then (0,5)else (w+k,0)
def fT(h:aD.q)(t:bh.q):Int×Int:=
 if (gm h t).2=0 then (if (eq (c9 h t).1 292195).2=0 then Lm (eq (c9 h t).1 292195).1 (gm h t).1 else (0,(eq (c9 h t).1 292195).2))else (0,(gm h t).2)
def E1:Ct:=⟨[.d aD,.d bh],[i64,i64],λx=>((fT x.1 x.2.1).1,(fT x.1 x.2.1).2,()),λx=>[cj x.1,bf x.2.1]⟩
def CDu:Cx:=cx [(62,qU),(60,iE),(72,EG)] []
def qer:CxOK prog CDu:=aQ aH ⟨Xp,GP,qj5,uT⟩ trivial
def M6(h:aD.q)(t:bh.q)(a:Bool):Fr (aa [i64,i64]):=
 let K:aa [i64,i64]:=qU.f (h,t,());let W:aa [i64,i64]:=EG.f ((iE.f (h,t,())).1,())
 Jd (cj h) (Jd (bf t) (Jb (K.2.1 != 0) (Jv (0,K.2.1,()))
  (Jd (cj h) (Jd (bf t) (Jb (W.2.1 != 0) (Jv (0,W.2.1,()))
   (Jb a (Jv (0,5,())) (Jv (I6.wrap (W.1+K.1),0,()))))))))
def qw4(x:ap [.d aD,.d bh]):Fr (aa [i64,i64]):=
 let a:=(x.1,x.2.1,());M6 x.1 x.2.1 (J ((EG.f ((iE.f a).1,())).1>I6.wrap (4000000000000000000-(qU.f a).1)))
def qri:ag prog 47 (bg [.d aD,.d bh] [i64,i64] qw4):=
 aT qer f47
def qrh{h:aD.q}{t:bh.q}{a:Bool}(e:cj h)(g:bf t)(f:a=J (4000000000000000000<(eq (c9 h t).1 292195).1+(gm h t).1)):
  (M6 h t a).ok/\(M6 h t a).get=((fT h t).1,(fT h t).2,()):=by
 have k:=Xo h t;have u:=qj4 (c9 h t).1 292195;refine aw e (aw g ?_);unfold fT;by_cases b:(gm h t).2=0;rw[uf0 b];refine aN (by show((gm h t).2 != 0)=Y;simp[b]) (aw e (aw g ?_));by_cases c:(eq (c9 h t).1 292195).2=0;rw[uf0 c];refine aN (by show((eq (c9 h t).1 292195).2 != 0)=Y;simp[c]) ?_;unfold Lm;by_cases d:4000000000000000000<(eq (c9 h t).1 292195).1+(gm h t).1;rw[uf0 d];exact aV (f.trans (ueb d)) ⟨uT,rfl⟩;rw[uf1 d];refine aN (f.trans (udw d)) ⟨uT,?_⟩;show(I6.wrap ((eq (c9 h t).1 292195).1+(gm h t).1),(0:Int),())=_;rw[cV (by omega)];rw[uf1 c];exact aV (by show((eq (c9 h t).1 292195).2 != 0)=Z;simp[c]) ⟨uT,rfl⟩;rw[uf1 b];exact aV (by show((gm h t).2 != 0)=Z;simp[b]) ⟨uT,rfl⟩
def TZ:ag prog 47 E1:=
 dz qri _ _ (λw F x c b a=>by obtain⟨h,t,_⟩:=x;have k:=Xo h t;refine qrh a.1 a.2 ?_;show J ((eq (c9 h t).1 292195).1>I6.wrap (4000000000000000000-(gm h t).1))=_;rw[cV (by omega)];exact udi.2 ziq)
def qkk{h:aD.q}{c:ay.q}(b:cj h)(g:(aO h).length<2000)(f:c.2.2.2.2.1.length<=1000000):cj (pm h c):=by
 have e:aO (pm h c)=([]++aO h)++[c]:=rfl;refine⟨?_,b.2.1,λd a=>?_⟩;rw[e,udn,ub6];show _+1<=500000;omega;rw[e,udn,udt]at a;rcases a with a|a
 exact b.2.2 d a;cases ucf.1 a;exact f
def ZC{h:aD.q}{c:ay.q}(d:cj h):cj (kV h c).1:=by have z:cj iy:=⟨by decide,by decide,λc b=>by cases b⟩;unfold kV;split;rename_i a;split;exact z;split;exact z;exact qkk d (by omega) (Th a.1);exact z
section
open Go.Shelf
attribute [local go_sem] Oper.semAt_some
structure ChC where
 p:Nat->Int
 A:Option Addr
 l:Nat
 c:Nat
def dZ(d:ChC):Array Value:=#[.int .i64 (d.p 0),.int .i64 (d.p 1),.int .i64 (d.p 2),.int .i64 (d.p 3),.int .i64 (d.p 4),.int .i64 (d.p 5),.int .i64 (d.p 6),.slice d.A d.l d.c,.int .i64 (d.p 7)]
def rc(d:ChC):Value:=.agg (dZ d)
abbrev dh:Type:=Option Addr×Nat×Nat
def ChC.set(d:ChC)(s:dh):ChC:=⟨d.p,s.1,s.2.1,s.2.2⟩
def qn2{x:ay.q}(h:aG w F ay x g):
  ∃ d:ChC,(∀ j u,(dZ d)[j]?= U u->g j u)/\d.p 0=x.1/\aG w F (.sl ar) x.2.2.2.2.1 (λ_ u=>u=.slice d.A d.l d.c) /\
   ∀ (s:dh) (C:World) (F2:Nat->Prop),aG C F2 (.sl ar) x.2.2.2.2.1 (λ_ u=>u=.slice s.1 s.2.1 s.2.2)->bJ C F2 ay x (rc (d.set s)):=by
 obtain⟨n,o,r,⟨f,i,k,m,_⟩,⟨A,c,z,b⟩,t,_⟩:=h;refine⟨⟨λj=>match j with|0=>x.1|1=>x.2.1|2=>x.2.2.1|3=>x.2.2.2.1.1|4=>x.2.2.2.1.2.1|5=>x.2.2.2.1.2.2.1|6=>x.2.2.2.1.2.2.2.1|_=>x.2.2.2.2.2.1,A,x.2.2.2.2.1.length,c⟩,λj u a=>?_,rfl,⟨A,c,rfl,b⟩,λs C F2 B=>⟨rfl,⟨λ_=>⟨_,rfl⟩,λ_=>rfl⟩,⟨rfl,n.2⟩,⟨rfl,o.2⟩,⟨rfl,r.2⟩,⟨⟨rfl,f.2⟩,⟨rfl,i.2⟩,⟨rfl,k.2⟩,⟨rfl,m.2⟩,uT⟩,?_,⟨rfl,t.2⟩,uT⟩⟩
 rotate_left
 obtain⟨v,y,e,h⟩:=B;refine⟨v,y,?_,h⟩;show U (Value.slice s.1 s.2.1 s.2.2)=_;rw[e]
 match j,a with
 |0,a=>cases a;exact n.1
 |1,a=>cases a;exact o.1
 |2,a=>cases a;exact r.1
 |3,a=>cases a;exact f.1
 |4,a=>cases a;exact i.1
 |5,a=>cases a;exact k.1
 |6,a=>cases a;exact m.1
 |7,a=>cases a;exact z
 |8,a=>cases a;exact t.1
 |j+9,a=>simp[dZ]at a
def lT(c:Nat->ChC)(a:Int)(k:Nat):List Nat:=(List.range k).filter λi=>J ((c i).p 0<=a)
def qo9{c:Nat->ChC}{k:Nat}(h:(c k).p 0<=day):lT c day (k+1)=lT c day k++[k]:=by simp[lT,ud2,ucj,h]
def qo8{c:Nat->ChC}{k:Nat}(h:¬ (c k).p 0<=day):lT c day (k+1)=lT c day k:=by simp[lT,ud2,ucj];omega
def qo7(c:Nat->ChC)(a:Int)(k:Nat):(lT c a k).length<=k:=by have:=List.length_filter_le (λi=>J ((c i).p 0<=a)) (List.range k);rw[List.length_range]at this;exact this
def pD(c:Nat->ChC)(x:Fin len×dh):Value:=rc ((c x.1.1).set x.2)
def zrh (n:Nat) (hn:1<=n) (l Bh oh Bd od n₀ b off len cap:Nat) (day:Int) (c:Nat->ChC) (hreach:len<=1000000) (A:Option Addr) (hA:0<len->A=some ⟨b,off,none⟩/\b<n₀) (E:Fin len×dh->World->World->Prop) (J:List (Fin len×dh)->World->Prop)
  (hJ:∀ pre X Y,J pre X->Below X.heap.size X Y->J pre Y)
  (W:World) (hn₀:n₀<=W.heap.size)
  (hclone:∀ (k:Fin len) X,cU n₀ Bh Bd W X->Calls prog 71 #[.slice (c k.1).A (c k.1).l (c k.1).c] X λe w'=>∃ s:dh,e=.returned (.slice s.1 s.2.1 s.2.2)/\Below X.heap.size X w' /\
   ∀ (Bx:Nat) (X0 Y:World),n₀<=Bx->Bx<X.heap.size->X0.heap.size<=X.heap.size->(∀ q,q≠Bx->Y.heap[q]?= w'.heap[q]?)->E (k,s) X0 Y)
  (hY:∀ pre (x:Fin len×dh) X0 X,J pre X0->Below X0.heap.size X0 X->E x X0 X->pre.length<len->YieldAt Fence.wide (n-1) prog l #[pD c x] X λe W'=>e=.returned (.bool true)/\J (pre++[x]) W'/\cU n₀ Bh Bd X W')
  (hBh:W.cell? ⟨Bh,oh+9,none⟩=some (.slice A len cap)) (hBd:W.cell? ⟨Bd,od,none⟩=some (.int .i64 day))
  (hc:∀ k j u,k<len->(dZ (c k))[j]?= some u->W.cell? ⟨b,off+(k*9+j),none⟩=some u) (h0:J [] W) :
  CallsIn Fence.wide n prog 227 #[.func (.yield l) #[] #[],.pointer (some ⟨Bh,oh,none⟩),.pointer (some ⟨Bd,od,none⟩)] W λe W'=>(∃ v,e=.returned v) /\
   ∃ xs:List (Fin len×dh),xs.map (λx=>x.1.1)=lT c day len/\J xs W':=by
 have hro:Fence.wide.round=none:=rfl;refine callsIn_of_wp func227 rfl trivial ?_ hro;simp only[ntmps227,ucq,uda,udm,Nat.reduceAdd,Nat.reduceSub,ubn,ubo,ucy,ubx,udn,uc5];have hl1:Bh<W.heap.size:=by
  obtain⟨_,_,_,h⟩:=K8 hBh;exact(uaf.1 h).1
 have hl2:Bd<W.heap.size:=by
  obtain⟨_,_,_,h⟩:=K8 hBd;exact(uaf.1 h).1
 gi_wp2
 gi_loopw [9] (λi wr=>∃ (k:Nat) (pre:List (Fin len×dh)),k<=len/\i=.int .i64 (k:Int)/\pre.map (λx=>x.1.1)=lT c day k/\J pre wr/\cU n₀ Bh Bd W wr)
  (λi _=>((len:Int)-intOf i).toNat)
 case atStart=>exact⟨0,[],ufj _,by simp,rfl,h0,cU.refl _ _ _ _⟩
 case round=>
  obtain⟨k,pre,hk,rfl,hpre,hJs,hnx⟩:=hrel;have e0:=(ubd hnx.2.2).trans hBd;by_cases hlt:k<len
  ·obtain⟨rfl,hb⟩:=hA (by omega);have hlen:pre.length<len:=by
    have:=ufy List.length hpre;have h2:=qo7 c day k;rw[ud3]at this;omega
   have hcx:∀ j u,(dZ (c k))[j]?= some u->wr.cell? ⟨b,off+k*9+j,none⟩=some u:=λj u hj=>by
    rw[uei];exact(hnx.1.cell hb).trans (hc _ j u hlt hj)
   have x0:=hcx 0 (.int .i64 ((c k).p 0)) rfl;have x1:=hcx 1 (.int .i64 ((c k).p 1)) rfl;have x2:=hcx 2 (.int .i64 ((c k).p 2)) rfl;have x3:=hcx 3 (.int .i64 ((c k).p 3)) rfl;have x4:=hcx 4 (.int .i64 ((c k).p 4)) rfl;have x5:=hcx 5 (.int .i64 ((c k).p 5)) rfl;have x6:=hcx 6 (.int .i64 ((c k).p 6)) rfl;have x7:=hcx 7 (.slice (c k).A (c k).l (c k).c) rfl;have x8:=hcx 8 (.int .i64 ((c k).p 7)) rfl;rw[ue0]at x0;have hBdl:=ucb hl2 hnx.1.size;have hBhl:=ucb hl1 hnx.1.size;have hBb:Below wr.heap.size wr (wr.alloc (.cells (dZ (c k)) 38)):=(ufn _ wr).alloc (ufd _) _;have e1:=(hBb.cell hBdl).trans e0;have hKb:cU n₀ Bh Bd W (wr.alloc (.cells (dZ (c k)) 38)):=hnx.trans (cU.below hBb (ueq hn₀ hnx.1.size) hBhl hBdl);have HK:=Lib.hid hKb;have HB:=Lib.hid hBb
   gi_wp2
   ·have hno':day<(c k).p 0:=by assumption
    have hno:¬ (c k).p 0<=day:=by omega
    exact⟨⟨k+1,pre,by omega,by simp,by rw[qo8 hno,hpre],hJ _ _ _ hJs HB.out,HK.out⟩,by simp[intOf];omega⟩
   ·have hyes:(c k).p 0<=day:=by assumption
    refine⟨uT,?_⟩;refine(callsIn_wide.2 (hclone ⟨k,hlt⟩ _ HK.out)).mono ?_;rintro e w1 ⟨s,rfl,hb1,hE⟩;have hszb:wr.heap.size<(wr.alloc (.cells (dZ (c k)) 38)).heap.size:=by simp
    have z4:=(hb1.block wr.heap.size hszb).trans (World.alloc_heap_new wr (.cells (dZ (c k)) 38));unfold dZ at z4;obtain⟨u0,u1,u2,u3,u4,u5,u6,u7,u8⟩:=uM λj _=>cn z4 j;have ff:∀ j,w1.frozen? ⟨wr.heap.size,j,none⟩=false:=λj=>by simp[World.frozen?,z4]
    have hW3:Below wr.heap.size wr (w1.setCell ⟨wr.heap.size,7,none⟩ (.slice s.1 s.2.1 s.2.2)):=(HB.out.trans (hb1.mono (ue9 hszb))).setCell (ufd _) _;have hk3:=cU.below hW3 (ueq hn₀ hnx.1.size) hBhl hBdl;have hE3:=hE wr.heap.size wr (w1.setCell ⟨wr.heap.size,7,none⟩ (.slice s.1 s.2.1 s.2.2)) (ueq hn₀ hnx.1.size) hszb (ue9 hszb) (λq hq=>uck _ _ q _ hq);obtain⟨fn,tmps,assign,body,hy,hR⟩:=hY pre (⟨k,hlt⟩,s) wr _ hJs hW3 hE3 hlen;dsimp only[pD,rc,dZ,ChC.set]at hy
    gi_wp2
    refine hR.mono ?_;rintro e W4 ⟨rfl,hJ4,hk4⟩
    gi_wp2
    go_roundw
    case rel=>exact⟨k+1,pre++[(⟨k,hlt⟩,s)],by omega,by simp,by rw[qo9 hyes,udx,hpre];rfl,hJ4,hnx.trans (hk3.trans hk4)⟩
    case measure=>simp[intOf];omega
  ·obtain rfl:k=len:=by omega
   gi_wp2
   go_end0
   exact⟨⟨_,rfl⟩,_,hpre,hJs⟩
end
section
open Go.Shelf Go.Maps
attribute [local go_sem] Oper.semAt_some
def lS(c:Nat->ChC):List (Fin len×dh)->List Value
 |[]=>[]
 |x::l=>(dZ ((c x.1.1).set x.2)).toList++lS c l
def KB(c:Nat->ChC):(a b:List (Fin len×dh))->lS c (a++b)=lS c a++lS c b
 |[],_=>rfl
 |x::a,b=>by simp[lS,KB c a b]
def Tm(c:Nat->ChC):(a:List (Fin len×dh))->(lS c a).length=a.length*9
 |[]=>rfl
 |x::a=>by simp[lS,dZ,Tm c a];omega
def Ak(c:Nat->ChC)(F:Nat->Prop)(y:Nat->ay.q)(x:Fin len×dh)(X e:World):Prop:=
 ∃ b,bJ e b ay (y x.1.1) (pD c x)/\∀ q,b q->(F q\/X.heap.size<=q)/\∃ a d p,e.heap[q]?= U (.cells a d p)
def Je(w:World)(c:Nat->ChC)(F:Nat->Prop)(y:Nat->ay.q)(a b:List (Fin len×dh))(W:World)(v:Value)(e:Nat->Prop):Prop:=
 W.heap[w.heap.size]?= U (.cells #[v] 112 (0,0))/\W.ownsRow w.heap.size 38 9 v b.length (lS c b)/\cy W e ay (a.map λx=>y x.1.1) (lS c a) /\
  ∀ q,e q->(F q\/w.heap.size<=q)/\v.ownBlock≠U q/\q≠w.heap.size/\∃ d f p,W.heap[q]?= U (.cells d f p)
structure CoI (w:World) (c:Nat->ChC) (F:Nat->Prop) (y:Nat->ay.q) (els pre:List (Fin len×dh)) (W:World):Prop where
 row:∃ v F',Je w c F y els pre W v F'
 bel:Below w.heap.size w W
def yA{a:Nat}{size:Nat}{k:Nat}(h:W.ownsRow a e size v k xs){j:Nat}(c:v.ownBlock=U j):a<=j/\∃ cur,W.heap[j]?= U (.cells cur e (0,0)):=by
 rcases h.2 with ⟨rfl,_⟩|⟨g,d,cur,rfl,f,b,_⟩
 simp[Value.ownBlock]at c;have:g=j:=by simpa[Value.ownBlock]using c
 subst this;exact⟨f,_,b⟩
def Zg{a:Nat}{size:Nat}{k:Nat}(h:W.ownsRow a e size v k xs){j:Nat}{o:Obj}(f:W.heap[j]?= U o)(b:∀ cur,o ≠ .cells cur e (0,0)):v.ownBlock=V\/v.ownBlock≠U j:=by by_cases d:v.ownBlock=U j;obtain⟨_,cur,c⟩:=yA h d;rw[f]at c;cases c;exact absurd rfl (b cur);exact .inr d
def qo3{c:Nat->ChC}{y:Nat->ay.q}{k m:List (Fin len×dh)}{f:Option Nat}(h:Je w c F y k m W v F')(A:W.grownBy W' f)(B:∀ r,f=U r->∃ o:Obj,W.heap[r]?= U o/\o.isCells=Y):Je w c F y k m W' v F':=by
 obtain⟨u,x,H,z⟩:=h;have a:∀ q b n p,W.heap[q]?= U (Obj.cells b n p)->W'.heap[q]?= W.heap[q]? := λq b n p i=>A.block q (uaf.1 i).1 (λe=>by obtain⟨o,s,g⟩:=B q e.symm;rw[i]at s;cases s;cases g)
 refine⟨(a _ _ _ _ u).trans u,x.kept A ?_,H.mono (λ_ h=>h) (λq i=>?_),λq i=>?_⟩;by_cases t:v.ownBlock=f;cases d:f with
 |none=>exact .inl (t.trans d)
 |some r=>obtain⟨o,s,g⟩:=B r d;obtain⟨_,G,l⟩:=yA x (t.trans d);rw[s]at l;cases l;cases g
 exact .inr t;obtain⟨_,_,_,b,n,p,g⟩:=z q i;exact a _ _ _ _ g;obtain⟨C,D,E,b,n,p,g⟩:=z q i;exact⟨C,D,E,b,n,p,(a _ _ _ _ g).trans g⟩
def KM{c:Nat->ChC}{y:Nat->ay.q}(m:w.heap.size<=B)(a d:List (Fin len×dh)){X n:World}{f:Option Nat}(h:CoI w c F y a d X)(g:X.grownBy n f)(i:∀ r,f=U r->B<=r/\∃ o:Obj,X.heap[r]?= U o/\o.isCells=Y):CoI w c F y a d n:=by obtain⟨v,l,b⟩:=h.row;exact⟨⟨v,l,qo3 b g λr e=>(i r e).2⟩,h.bel.grown g h.bel.size (λk e=>ueq m (i k e).1)⟩
def zlw{x:ay.q}{d:ChC}(h:bJ W F ay x (rc d)):cy W F ay [x] (dZ d).toList:=λi z a=>by
 cases i with
 |zero=>simp at a;subst a;refine h.2.2.mono (λ_ h=>h) (λ_ _=>rfl) λj u _ b=>?_;have:(dZ d)[j]?= U u:=b;simpa using this
 |succ i=>simp at a
def qo2{c:Nat->ChC}{y:Nat->ay.q}{i:List (Fin len×dh)}{x:Fin len×dh}{X Q:World}(h:CoI w c F y i i X)(l:Below X.heap.size X Q)(A:∀ q,F q->q<w.heap.size)(K:Ak c F y x X Q):CoI w c F y (i++[x]) i Q:=by
 obtain⟨v,B,t,u,H,z⟩:=h.row;obtain⟨C,O,r⟩:=K;have P:=(uaf.1 t).1;have b:∀ q o,X.heap[q]?= U o->Q.heap[q]?= U o:=λq o d=>(l.block q (uaf.1 d).1).trans d;refine⟨⟨v,λq=>B q\/C q,b _ _ t,u.kept (row:=V) ⟨l.os,l.tape,l.output,l.size,λk M _=>l.block k M⟩ ?_,?_,λq d=>?_⟩,h.bel.trans (l.mono (ue9 P))⟩;cases v.ownBlock with
 |none=>exact .inl rfl
 |some g=>exact .inr (by simp)
 rw[udx,KB];refine cy.append (H.mono (λ_ h=>.inl h) λq d=>?_) ?_ ?_;obtain⟨_,_,_,f,n,p,m⟩:=z q d;exact(b _ _ m).trans m.symm;rw[Tm,ud3];rfl;have:=zlw O;exact this.mono (λ_ h=>.inr h) (λ_ _=>rfl);rcases d with d|d
 obtain⟨a,D,E,f,n,p,m⟩:=z q d;exact⟨a,D,E,f,n,p,b _ _ m⟩;obtain⟨a,f,n,p,m⟩:=r q d;refine⟨a.elim .inl (λh=>.inr (by omega)),λe=>?_,λe=>?_,f,n,p,m⟩;obtain⟨L,G,s⟩:=yA u e;have N:=(uaf.1 s).1;rcases a with a|a
 have:=A q a;omega;omega;rcases a with a|a
 have:=A q a;omega;omega
def Re(w:World)(c:Nat->ChC)(F:Nat->Prop)(y:Nat->ay.q)(a:Fin len×dh->Nat->Act)(b:List (Fin len×dh))(x:Fin len×dh)(e:Act)(W:World):Prop:=
 CoI w c F y (b++[x]) b W/\∃ d,w.heap.size<d/\W.heap[d]?= U (.cells (dZ ((c x.1.1).set x.2)) 38 (0,0))/\e=a x d
def qo1{c:Nat->ChC}{y:Nat->ay.q}{a:Fin len×dh->Nat->Act}(m:w.heap.size<=B)(b:List (Fin len×dh))(x:Fin len×dh)(g:Act):OwnFrom B (λ(_:Unit) W=>Re w c F y a b x g W):=λ_ X p o n d e=>by obtain⟨h,f,i,k,l⟩:=n;exact⟨KM m _ _ h d e,f,i,tu k d e,l⟩
def qn1:(prog.info? 38).map (λi=>(i.zero,i.size,i.bytes))=U (U (.agg #[.int .i64 0,.int .i64 0,.int .i64 0,.int .i64 0,.int .i64 0,.int .i64 0,.int .i64 0,.slice V 0 0,.int .i64 0]),9,88):=by kernel_rfl
def K9(h:W.heap[B]?= U (.cells #[v] t (0,0))):W.cell? ⟨B,0,V⟩=U v/\W.frozen? ⟨B,0,V⟩=false:=by constructor<;>simp[World.cell?,World.frozen?,h]
def zgr(W:World)(a:Array Value)(t:TypeId)(j:Nat)(u:Value)(h:a.toList[j]?= U u):(W.alloc (.cells a t)).cell? ((⟨W.heap.size,0,V⟩:Addr).add j)=U u:=by
 have b:=cn (World.alloc_heap_new W (.cells a t)) j;have c:(⟨W.heap.size,0,V⟩:Addr).add j=⟨W.heap.size,j,V⟩:=by unfold Addr.add;split<;>simp_all
 rw[c,b];simpa using h
def qy6{X g:World}{a:Option Nat}(d:X.grownBy g a)(h:∀ r,a=U r->∃ arr t p,X.heap[r]?= U (Obj.cells arr t p)):KeepsOthers X g:=
 ⟨d.size,λk o b f=>(d.block k (uaf.1 b).1 (λe=>by obtain⟨arr,t,p,c⟩:=h k e.symm;rw[b]at c;cases c;cases f)).trans b⟩
def so(a:Value)(h:W.heap[B]?= U (.cells #[v] t (0,0))):(W.setCell ⟨B,0,V⟩ a).heap[B]?= U (.cells #[a] t (0,0)):=uc1 W B 0 _ t a h
def zix{b:Nat}{t:Ty}{l:List t.q}(h:W.ownsRow b e t.size v l.length xs)(s:cy W F t l xs):aG W (λq=>F q\/v.ownBlock=U q) (.sl t) l (λ_ u=>u=v):=by
 rcases h.2 with ⟨rfl,r⟩|⟨g,c,k,rfl,z,d,m,n,y,o⟩
 exact⟨V,0,by rw[r],by omega,ufj _,λi x f=>by have:=(uak.1 f).1;omega⟩;refine⟨U ⟨g,0,V⟩,c,rfl,m,n,λi x f=>⟨⟨g,0,V⟩,rfl,.inr rfl,(s i x f).mono (λ_ h=>.inl h) (λ_ _=>rfl) λj u _ w=>?_⟩⟩;have p:(⟨g,0,V⟩:Addr).add (i*t.size+j)=⟨g,i*t.size+j,V⟩:=by unfold Addr.add;split<;>simp_all
 rw[p,cn d];have a:=w;rw[<- o,ub2]at a;split at a;simpa using a;cases a
def qld(n : Nat)(hn : 2 <= n)(c : Nat -> ChC)(F : Nat -> Prop)(y : Nat -> ay.q)(len : Nat)(hlen : len <= 1000000)(gf : Nat)(lb : Array Value)(eg : ∀ args w, (callFunc gf args).run prog w=.ok (.enter gf args) w)(w : World)(hF : ∀ q, F q -> q < w.heap.size)(S : List (Fin len × dh) -> Prop)(hseq : ∀ w0, Below w.heap.size w w0 -> DZ Fence.wide (n - 1) prog gf lb (λx : Fin len × dh => #[pD c x]) (Ak c F y) (Below w.heap.size) S len w0):
    CallsIn Fence.wide n prog 226 #[.slice none 0 0, .func (.func gf) #[] lb] w λe w' => ∃ v xs F', e=.returned v /\ S xs /\ Below w.heap.size w w' /\
      aG w' F' (.sl ay) (xs.map λx => y x.1.1) (λ_ u => u = v) /\ ∀ q, F' q -> (F q \/ w.heap.size <= q) /\ q < w'.heap.size := by
  refine callsIn_of_wp_marks func226 rfl trivial ?_ rfl
  simp only[ntmps226, ucq, uda, udm, Nat.reduceAdd, Nat.reduceSub, ubn, ubo, ucy, ubx, udn, uc5]
  gi_wp2
  have hbel : Below w.heap.size w (w.alloc (.cells #[.slice none 0 0] 112)) := (ufn _ w).alloc (ufd _) _
  have hbx := World.alloc_heap_new w (.cells #[.slice none 0 0] 112)
  have hsz : (w.alloc (.cells #[.slice none 0 0] 112)).heap.size = w.heap.size + 1 := by simp
  obtain⟨W0, hW0⟩ : ∃ W0, w.alloc (.cells #[.slice none 0 0] 112) = W0 := ⟨_, rfl⟩
  rw[hW0]at hbel hbx hsz |-
  have hI0 : CoI w c F y ([] : List (Fin len × dh)) [] W0 := ⟨⟨_, λ_ => False, hbx, ⟨rfl, .inl ⟨rfl, rfl⟩⟩, λi z hz => by simp at hz, λq hq => hq.elim⟩, hbel⟩
  refine zr1 rfl (by omega) rfl trivial eg (hseq W0 hbel)
    (λh k => h.trans k) (λW l o o' hl ho hoc => ⟨rfl, rfl, rfl, by simp, λk hk => World.putObj_heap_other (by omega)⟩) (λ_ => rfl)
    (λpre W => CoI w c F y pre pre W) (λpre X Y row h hg hr => KM hbel.size _ _ h hg hr) hI0
    (λpre x a' W => Re w c F y (λx Bx => { tmps := #[.slice none 0 0, .func (.func gf) #[] lb, .pointer (some ⟨w.heap.size, 0, none⟩), undef, .slice none 0 0, .pointer (some ⟨Bx, 0, none⟩), .func (.func gf) #[] lb, pD c x, undef, undef, undef, undef, undef], defers := [] }) pre x a' W)
    (λpre x a' => qo1 hbel.size pre x a') ?assign ?body ?done
  case assign =>
    rintro l pre x X W K hi hb hE hK
    have hi2 := qo2 hi hb hF hE
    unfold pD rc dZ
    gi_wp2
    obtain⟨v, F', r1, _⟩ := hi2.row
    have hlt := (uaf.1 r1).1
    exact hK _ _ ((KeepsOthers.alloc _ _).from _) ((ufn _ W).alloc (ue9 hlt) _)
      ⟨KM hbel.size _ _ hi2 (ubv W _ none) (λr e => nomatch e), W.heap.size, hlt, World.alloc_heap_new W _, rfl⟩
  case body =>
    rintro l pre x a' W ⟨hi, Bx, hBx, bX, rfl⟩ hlt
    obtain⟨v, F', r1, r2, r3, r4⟩ := hi.row
    obtain⟨i0, hi0, hz0, hz1, hz2⟩ := ufr qn1
    have bX' := bX
    unfold dZ at bX'
    obtain⟨y0, y1, y2, y3, y4, y5, y6, y7, y8⟩ := uM λj _ => cn bX' j
    obtain⟨hc1, hf1⟩ := K9 r1
    have hlt0 := (uaf.1 r1).1
    have hnew := zgr W (dZ ((c x.1.1).set x.2)) 38
    have HR := Lib.hid r3
    have HF := Lib.hid r4
    have hbelI := hi.bel
    have hv3f : ∀ (arr : Array Value) (w3 : World), (W.alloc (.cells arr 38)).grownBy w3 v.ownBlock -> w3.heap[w.heap.size]?= some (.cells #[v] 112 (0, 0)) := λarr w3 hg =>
      (hg.block _ (by simp;omega) (λe => (Zg r2 r1 (λcur e => by cases e)).elim (λh => by rw[h]at e;cases e) (λh => h e.symm))).trans ((udc _ _ _ hlt0).trans r1)
    unfold dZ at hnew
    gi_wp2_with (first
      | (gi_at_builtin;refine wpListIn_append_own_at _ rfl _ _ 112 rfl w.heap.size 38 i0 _ 9 88 underlying112 hi0 hz0 hz1 hz2 rfl (by decide) _ _ _ rfl (r2.alloc _) ⟨W.heap.size, 0, none⟩ 1 1 _ rfl rfl hnew (by simp[Value.oneCell']) (by simp only[maxLen];omega) (by omega) (by simp;omega) ?_;intro v' w3 hown' hg3 hnil3 hat3
         have hv3 : w3.heap[w.heap.size]?= some (.cells #[v] 112 (0, 0)) := hv3f _ _ hg3
         obtain⟨hc3, hf3⟩ := K9 hv3
         obtain⟨g', cap', cur', rfl, hbase', hgb', hr1, hr2, hr3, hr4⟩ : ∃ g' cap' cur', v'=.slice (some ⟨g', 0, none⟩) (pre.length + 1) cap' /\ w.heap.size <= g' /\ w3.heap[g']?= some (.cells cur' 38 (0, 0)) /\ pre.length + 1 <= cap' /\ cap' <= maxLen /\ cur'.size = cap' * 9 /\ cur'.toList.take ((pre.length + 1) * 9) = lS c pre ++ _ := by
           rcases hown'.2 with ⟨_, h0⟩ | h'
           · exact absurd h0 (by omega)
           · exact h'
         go_frame)
      | gi_in)
    have hownX := r2.alloc (.cells (dZ ((c x.1.1).set x.2)) 38)
    have hgX : (W.alloc (.cells (dZ ((c x.1.1).set x.2)) 38)).grownBy w3 v.ownBlock := hg3
    have hg4 := grownBy_setCell' w3 w.heap.size (.slice (some ⟨g', 0, none⟩) (pre.length + 1) cap')
    have hb3 := ((ufn _ W).alloc (ue9 hlt0) _).grown hgX (by simp;omega) (λk e => (yA hownX e).1)
    have hb4 := hb3.setCell (p := ⟨w.heap.size, 0, none⟩) (ufd _) (.slice (some ⟨g', 0, none⟩) (pre.length + 1) cap')
    have hsame : ∀ q, F' q -> (w3.setCell ⟨w.heap.size, 0, none⟩ (.slice (some ⟨g', 0, none⟩) (pre.length + 1) cap')).heap[q]?= W.heap[q]? := λq hq => by
      obtain⟨_, a2, a3, arr, ty, p, hc⟩ := HF.out q hq
      have hq2 := (uaf.1 hc).1
      exact(uck _ _ q _ a3).trans ((hgX.block q (by simp;omega) (λe => a2 e.symm)).trans (udc _ _ _ hq2))
    refine⟨rfl, (((KeepsOthers.alloc W _).trans (qy6 hgX λr e => ?_)).trans (KeepsOthers.setCell w3 _ _)).from _, hb4, ⟨_, F', so _ hv3, ?_, HR.out.mono (λ_ h => h) hsame, λq hq => ?_⟩, hbelI.trans hb4⟩
    · obtain⟨_, cur, hc⟩ := yA hownX e
      exact⟨_, _, _, hc⟩
    · have h5 := hown'.kept hg4 (Zg hown' hv3 (λcur e => by cases e))
      simpa[KB, lS, dZ]using h5
    · obtain⟨a1, a2, a3, arr, ty, p, hc⟩ := HF.out q hq
      refine⟨a1, λe => ?_, a3, arr, ty, p, (hsame q hq).trans hc⟩
      have hq2 := (uaf.1 hc).1
      rcases hat3 with h | h
      · exact a2 (h.symm.trans e)
      · rw[h]at e
        simp at e
        omega
  case done =>
    rintro D zs W hD hzs hi hK
    obtain⟨v, F', r1, r2, r3, r4⟩ := hi.row
    obtain⟨hc1, hf1⟩ := K9 r1
    have HR := Lib.hid r3
    have HF := Lib.hid r4
    gi_wp2
    refine⟨by simp, .inl ⟨_, _, rfl, run_takeDeferred hK, ?_⟩⟩
    have hs : ∀ q arr ty p, W.heap[q]?= some (Obj.cells arr ty p) -> (W.putObj D (.deferred none)).heap[q]?= W.heap[q]? := λq arr ty p hq => World.putObj_heap_other (λe => by subst e;rw[hK]at hq;cases hq)
    have r2' : W.ownsRow w.heap.size 38 ay.size v (zs.map λx => y x.1.1).length (lS c zs) := by rw[ud3];exact r2
    have hd := zix r2' HR.out
    have hcl : ∀ q, (F' q \/ v.ownBlock = some q) -> (F q \/ w.heap.size <= q) /\ ∃ arr ty p, W.heap[q]?= some (Obj.cells arr ty p) := λq hq => by
      rcases hq with hq | hq
      · obtain⟨a1, _, _, a4⟩ := HF.out q hq
        exact⟨a1, a4⟩
      · obtain⟨b1, cur, b2⟩ := yA r2 hq
        exact⟨.inr b1, _, _, _, b2⟩
    refine⟨_, results_tmp rfl _ _ _, v, zs, _, rfl, hzs, ⟨hi.bel.os, hi.bel.tape, hi.bel.output, by simpa using hi.bel.size, λk hk => (World.putObj_heap_other (by have := hbel.size;omega)).trans (hi.bel.block k hk)⟩, aG.mono (λ_ h => h) (λq hq => ?_) (λ_ _ _ h => h) hd, λq hq => ?_⟩
    · obtain⟨_, arr, ty, p, hc⟩ := hcl q hq
      exact hs q arr ty p hc
    · obtain⟨a1, arr, ty, p, hc⟩ := hcl q hq
      have := (uaf.1 hc).1
      exact⟨a1, by simpa using this⟩
def qou{l:List ar.q}(r:∀ b,F b->b<w.heap.size)(o:Below w.heap.size w W)(K:aG w F (.sl ar) l (λ_ u=>u=v))(E:l.length<=1000000):
  Calls prog 71 #[v] W λe w'=>∃ s:dh,e=.returned (.slice s.1 s.2.1 s.2.2)/\Below W.heap.size W w' /\
   ∃ F',aG w' F' (.sl ar) l (λ_ u=>u=.slice s.1 s.2.1 s.2.2)/\∀ q,F' q->(F q\/W.heap.size<=q)/\∃ arr ty p,w'.heap[q]?= U (.cells arr ty p):=by
 obtain⟨A,c,rfl,d,f,y⟩:=K;have H:bJ w F (.sl ar) l (.slice A l.length c):=⟨rfl,⟨λh=>(by cases h),λ⟨L,h⟩=>(by cases h)⟩,A,c,rfl,d,f,y⟩;have k:=H.mono (λ_ h=>h) (λb h=>o.block b (r b h));refine(AW.2 W F (l,()) [.slice A l.length c] (λb h=>ucb (r b h) o.size) ⟨_,[],rfl,k,rfl⟩ E).mono ?_;rintro e w' ⟨u,F',rfl,a,M,d,f⟩;have g:=f;have i:=g.only (G:=λb=>F' b/\∃ arr ty p,w'.heap[b]?= U (.cells arr ty p)) (λb h D=>⟨h,D⟩) rfl;have z:aK prog w' (λb=>F' b/\∃ arr ty p,w'.heap[b]?= U (.cells arr ty p)) (λ_ _=>True) (eR (.sl ar) l) u:=iH i;have B:=z.2;obtain⟨m,n,x,C⟩:=B;subst x;exact⟨(m,l.length,n),rfl,a,(λb=>F' b/\∃ arr ty p,w'.heap[b]?= U (.cells arr ty p)),⟨m,n,rfl,C⟩,λq t=>⟨(d q t.1).1,t.2⟩⟩
def Tn{l:List ay.q}(h:aG w F (.sl ay) l (λ_ u=>u=v)):
  ∃ (A:Option Addr) (f:Nat) (b off:Nat) (c:Nat->ChC),v=.slice A l.length f/\(0<l.length->A=U ⟨b,off,V⟩/\F b) /\
   (∀ k j u,k<l.length->(dZ (c k))[j]?= U u->w.cell? ⟨b,off+(k*9+j),V⟩=U u) /\
   ∀ k x,l[k]?= U x->(c k).p 0=x.1/\aG w F (.sl ar) x.2.2.2.2.1 (λ_ u=>u=.slice (c k).A (c k).l (c k).c) /\
    ∀ (s:dh) (W:World) (F2:Nat->Prop),aG W F2 (.sl ar) x.2.2.2.2.1 (λ_ u=>u=.slice s.1 s.2.1 s.2.2)->bJ W F2 ay x (rc ((c k).set s)):=by
 obtain⟨A,f,D,R,S,E⟩:=h;by_cases H:0<l.length;obtain⟨i,G,L,M⟩:=E 0 l[0] (uaq H);have g:i.spot=none:=by
  have a:w.cell? (i.add (0*ay.size+0))=U (.int .i64 l[0].1):=M.1.1;have O:i.add (0*ay.size+0)=i:=by simp[Addr.add]
  rw[O]at a;unfold World.cell? at a;split at a;split at a;cases a;rename_i g;cases t:i.spot with
  |none=>rfl
  |some _=>rw[t]at g;exact absurd rfl g
  cases a
 obtain⟨b,off,T⟩:=i;subst g;have n:∀ k,∃ d:ChC,∀ x,l[k]?= U x->(∀ j u,(dZ d)[j]?= U u->w.cell? ⟨b,off+(k*9+j),V⟩=U u)/\d.p 0=x.1/\aG w F (.sl ar) x.2.2.2.2.1 (λ_ u=>u=.slice d.A d.l d.c) /\
   ∀ (s:dh) (W:World) (F2:Nat->Prop),aG W F2 (.sl ar) x.2.2.2.2.1 (λ_ u=>u=.slice s.1 s.2.1 s.2.2)->bJ W F2 ay x (rc (d.set s)):=by
  intro k;cases r:l[k]? with
  |none=>exact⟨⟨λ_=>0,V,0,0⟩,λx z=>by cases z⟩
  |some x=>
   obtain⟨K,m,_,P⟩:=E k x r;rw[G]at m;cases m;obtain⟨d,N,B⟩:=qn2 P;refine⟨d,λy Q=>?_⟩;cases Q;refine⟨λj u C=>?_,B⟩;have:=N j u C;rw[show ay.size=9 from rfl]at this;have e:(⟨b,off,V⟩:Addr).add (k*9+j)=⟨b,off+(k*9+j),V⟩:=by unfold Addr.add;split<;>simp_all
   rw[e]at this;exact this
 obtain⟨c,o⟩:=Classical.axiomOfChoice n;exact⟨A,f,b,off,c,D.symm,λ_=>⟨G,L⟩,λk j u r C=>(o k l[k] (uaq r)).1 j u C,λk x z=>(o k x z).2⟩;refine⟨A,f,0,0,λ_=>⟨λ_=>0,V,0,0⟩,D.symm,λh=>absurd h H,λk j u r=>absurd r (by omega),λk x z=>?_⟩;have:=(uak.1 z).1;omega
def lF(a:Int)(l:List ay.q):List ay.q:=l.filter λx=>J (x.1<=a)
def qpa{c:Nat->ChC}{l:List ay.q}(d:∀ k x,l[k]?= U x->(c k).p 0=x.1):(lT c day l.length).map (λk=>l.getD k ay.j)=lF day l:=by
 have f:l=(List.range l.length).map (λk=>l.getD k ay.j):=by apply List.ext_getElem;simp;intro i b g;simp[uaq b]
 unfold lF
 conv=>rhs;rw[f]
 rw[List.filter_map];congr 1;apply List.filter_congr;intro k e;have a:=uea.1 e;have b:=d k l[k] (uaq a);simp only[Function.comp_apply,uah,uaq a,ude];rw[b]
def qo6(n:Nat)(s:3<=n)(c:Nat->ChC)(F:Nat->Prop)(y:Nat->ay.q)(a:Nat)(f:a<=1000000)(d:Nat)(h:Array Value)(k:∀ b w,(callFunc d b).run prog w=.ok (.enter d b) w)(w:World)(l:∀ q,F q->q<w.heap.size)(S:List (Fin a×dh)->Prop)(g:∀ i,Below w.heap.size w i->DZ Fence.wide (n-1-1) prog d h (λx:Fin a×dh=>#[pD c x]) (Ak c F y) (Below w.heap.size) S a i):
  CallsIn Fence.wide n prog 206 #[.func (.func d) #[] h] w λe w'=>∃ v xs F',e=.returned v/\S xs/\Below w.heap.size w w' /\
   aG w' F' (.sl ay) (xs.map λx=>y x.1.1) (λ_ u=>u=v)/\∀ q,F' q->(F q\/w.heap.size<=q)/\q<w'.heap.size:=by
 refine callsIn_of_wp func206 rfl trivial ?_ rfl;simp only[ntmps206,ucq,uda,udm,Nat.reduceAdd,Nat.reduceSub,ubn,ubo,ucy,ubx,udn,uc5]
 gi_wp2
 refine⟨uT,λ_=>by omega,?_⟩;refine(qld (n-1) (by omega) c F y a f d h k w l S g).mono ?_;rintro e w' ⟨v,xs,F',rfl,m,o,r,p⟩
 gi_wp2
 go_ret
 exact⟨v,xs,F',rfl,m,o,r,p⟩
def zri (n:Nat) (hn:1<=n) (B:∀ q,F q->q<w.heap.size) {l:List ay.q} {o oh m od:Nat} (z:o<w.heap.size) (y:m<w.heap.size) (hv:w.cell? ⟨o,oh+9,V⟩=U v) (D:w.cell? ⟨m,od,V⟩=U (.int .i64 day)) (hl:l.length<=1000000) (E:∀ x∈l,x.2.2.2.2.1.length<=1000000)
  {A:Option Addr} {t b i:Nat} {c:Nat->ChC} (e0:v=.slice A l.length t) (Q:0<l.length->A=U ⟨b,i,V⟩/\F b) (hc:∀ k j u,k<l.length->(dZ (c k))[j]?= U u->w.cell? ⟨b,i+(k*9+j),V⟩=U u)
  (hx:∀ k x,l[k]?= U x->(c k).p 0=x.1/\aG w F (.sl ar) x.2.2.2.2.1 (λ_ u=>u=.slice (c k).A (c k).l (c k).c) /\
    ∀ (s:dh) (Y:World) (F2:Nat->Prop),aG Y F2 (.sl ar) x.2.2.2.2.1 (λ_ u=>u=.slice s.1 s.2.1 s.2.2)->bJ Y F2 ay x (rc ((c k).set s)))
  (w0:World) (K:Below w.heap.size w w0) :
  DZ Fence.wide n prog 227 #[.pointer (U ⟨o,oh,V⟩),.pointer (U ⟨m,od,V⟩)] (λx:Fin l.length×dh=>#[pD c x]) (Ak c F λk=>l.getD k ay.j) (Below w.heap.size) (λxs=>xs.map (λx=>x.1.1)=lT c day l.length) l.length w0:=by
 intro lp J W hW hJ hY h0;have a:=K.trans (hW.mono K.size);refine zrh n hn lp o oh m od w.heap.size b i l.length t day c hl A (λh=>⟨(Q h).1,B b (Q h).2⟩) (Ak c F λk=>l.getD k ay.j) J (λL X Y G C=>Ee hJ G C) W a.size ?_ ?_
  ((ubd (a.block o z)).trans (hv.trans (by rw[e0]))) ((ubd (a.block m y)).trans D) (λk j u N G=>(ubd (a.block b (B _ (Q (by omega)).2))).trans (hc k j u N G)) h0
 intro k X hX;have N:=uaq k.2;obtain⟨_,hr,H⟩:=hx k.1 _ N;refine(qou B (a.trans hX.1) hr (E _ (udj k.2))).mono ?_;rintro e w' ⟨s,rfl,C,O,hr2,hq⟩;refine⟨s,rfl,C,λBx X0 Y h1 h2 h3 h4=>⟨O,?_,λq g=>?_⟩⟩;have hg:(l.getD k.1 ay.j)=l[k.1]:=by rw[uah,N];rfl
 show bJ Y O ay (l.getD k.1 ay.j) (pD c (k,s));rw[hg];refine H s Y O (aG.mono (λ_ h=>h) (λq g=>h4 q λe=>?_) (λ_ _ _ h=>h) hr2);rcases(hq q g).1 with h|h
 have:=B q h;omega;omega;obtain⟨a1,P,ty,p,R⟩:=hq q g;refine⟨a1.elim .inl λh=>.inr (ueq h3 h),P,ty,p,(h4 q λe=>?_).trans R⟩;rcases a1 with h|h
 have:=B q h;omega;omega;intro L x X0 X G C hE T;obtain⟨fn,M,d,r,hy,hR⟩:=hY L x X0 X G C hE T;refine⟨fn,M,d,r,hy,hR.mono ?_⟩;rintro e W' ⟨rfl,S,f⟩;exact⟨rfl,S,f,f.block _ z,f.block _ y⟩
def qo5(r:∀ q,F q->q<w.heap.size){l:List ay.q}{g f:Nat}(m:g<w.heap.size)(i:f<w.heap.size)(K:w.cell? ⟨g,9,V⟩=U v)(H:aG w F (.sl ay) l (λ_ u=>u=v))(a:w.cell? ⟨f,0,V⟩=U (.int .i64 day))(s:l.length<=1000000)(d:∀ x∈l,x.2.2.2.2.1.length<=1000000):
  Calls prog 206 #[.func (.func 227) #[] #[.pointer (U ⟨g,0,V⟩),.pointer (U ⟨f,0,V⟩)]] w λe w'=>∃ u F',e=.returned u/\Below w.heap.size w w' /\
   aG w' F' (.sl ay) (lF day l) (λ_ M=>M=u)/\∀ q,F' q->(F q\/w.heap.size<=q)/\q<w'.heap.size:=by
 obtain⟨A,y,b,L,c,z,B,E,t⟩:=Tn H;refine(callsIn_wide.1 (qo6 4 (by omega) c F (λk=>l.getD k ay.j) l.length s 227 _ (enters_of func227 (by kernel_rfl) rfl) w r (λp=>p.map (λx=>x.1.1)=lT c day l.length)
  (λN o=>zri 2 (by omega) r m i (oh:=0) K a s d z B E t N o))).mono ?_
 rintro e w' ⟨u,p,F',rfl,C,D,n,G⟩;refine⟨u,F',rfl,D,?_,G⟩;have:(p.map λx=>l.getD x.1.1 ay.j)=lF day l:=by rw[<- qpa (c:=c) λk x h=>(t k x h).1,<- C,List.map_map];rfl
 rw[<- this];exact n
end
def UC(l:List ay.q):Prop:=l.length<=1000000/\∀ x∈l,x.2.2.2.2.1.length<=1000000
def KN(_:Nat)(g:FuncId)(a:List AV)(s:St):Option Tr:=
 if g=206 then match a with
  |[.c (.fn f [.ptr i 0,.ptr k 0])]=>match s.mem i,s.mem k with
   |some (.box _ [_,_,_,_,_,_,_,_,_,.sl t l]),U (.box _ [.int .i64 b])=>if h:t=ay then if f=227 then U (needL [UC (cY h l)] (.leaf (.val (.c (.sl ay (lF b (cY h l))))) s))else V else V
   |_,_=>V
  |_=>V
 else V
def qo4:jC prog KN:=by
 intro d g args s t r;unfold KN at r;split at r<;>try trivial
 rename_i hg;subst hg;split at r<;>try trivial
 rename_i f i k;split at r<;>try trivial
 rename_i ty1 c0 c1 c2 c3 c4 c5 c6 c7 c8 t l ty2 x G H;split at r<;>try trivial
 rename_i h;subst h;split at r<;>try trivial
 rename_i hf;subst hf;cases r;refine⟨enters_of func206 (by kernel_rfl) rfl,λE a w F O vs Q m hr hq=>?_⟩;obtain⟨⟨hf1,hf2⟩,hqv⟩:=hq
 match vs,hr with
 |[v1],⟨⟨_,hv1⟩,_⟩=>
  obtain⟨v,rfl,hsz,p⟩:=hv1;obtain⟨⟨u0,L,_,b1,T,rfl⟩,⟨u1,hu1,_,R,W,rfl⟩,_⟩:=p;have g1 : .pointer (U ⟨b1,0,V⟩)=O i:=by have:=T;unfold av at this;rw[G]at this;exact this
  have g2 : .pointer (U ⟨R,0,V⟩)=O k:=by have:=W;unfold av at this;rw[H]at this;exact this
  have ha:v = #[.pointer (U ⟨b1,0,V⟩),.pointer (U ⟨R,0,V⟩)]:=by
   apply ufs;exact hsz;intro i h1 h2;have o:v[1]?= U (.pointer (U ⟨R,0,V⟩)):=hu1
   match i,h2 with
   |0,_=>rw[uam h1]at L;exact ud4 L
   |1,_=>rw[uam h1]at o;exact ud4 o
  subst ha;obtain⟨d1,ar1,N,y,_,_,hs1,hcl⟩:=m.mem.ob i _ G;obtain⟨d2,ar2,e2,z,_,_,hs2,B⟩:=m.mem.ob k _ H;rw[<- g1]at N;rw[<- g2]at e2;cases N;cases e2;obtain⟨_,_,_,_,_,_,_,_,_,⟨x9,hx9,_,hr9⟩,_⟩:=hcl;obtain⟨⟨y0,hy0,_,hd0⟩,_⟩:=B;have C:y0=.int .i64 x:=hd0.1;subst C;refine(qo5 (eE m) (uaf.1 y).1 (uaf.1 z).1 ((cn y 9).trans hx9) hr9 ((cn z 0).trans hy0) hf1 hf2).mono λe w2 hp=>?_;obtain⟨u,P,rfl,hb,K,hq2⟩:=hp;have S:=qA m;obtain⟨M,m1⟩:=Step.below m.mem S (eE m) (F':=λq=>F q\/P q) hb (λ_ h=>.inl h) (λb hb'=>hb'.elim (λh=>⟨.inl h,ucb (eE m b h) hb.size⟩) (λh=>hq2 b h));have D:InvG prog E s a w2 [] (λq=>F q\/P q) O:=by refine⟨m.n,m.df,?_,m1,λt=>(m.sl t).mono M.hF M.hw M.hR,m.hg,λt=>M.repA (m.gh t)⟩;obtain⟨γ0,h0⟩:=m.step;exact⟨γ0,h0.trans M⟩
  have hr3:aG w2 (λq=>F q\/P q) (.sl ay) (lF x (cY rfl l)) (λ_ u'=>u'=u):=aG.mono (t:=.sl ay) (λ_ h=>Or.inr h) (λ_ _=>rfl) (λ_ _ _ h=>h) K;refine⟨_,_,_,O,hqv,D,u,rfl,?_,hr3⟩;obtain⟨A,c,N,_⟩:=K;rw[<- N];rfl
def Jm:FuncId->Option (Func×(Nat->St->Option Tr)):=cR [(207,(f207,bK))]
def qka:∀ f fn a,Jm f=U (fn,a)->prog.funcs[f]?= U fn/\∀ c b,fn.body=U c->co prog b a c 0:=λf fn a h=>by simp only[Jm,cR]at h;split at h;rename_i d;subst d;cases h;exact⟨by kernel_rfl,λc b _=>bm c 0⟩;cases h
def CKn:Cx:=dI [(71,mK ar)] [] (kR (iJ prog eN Jm) KN)
def qfh:CxOK prog CKn:=dP (ps:=[]) aH ⟨AW,uT⟩ trivial (mj (jt aL qka) qo4)
def Yw:aD.q:=(0,0,((0,0,()),(0,0,0,0,()),[],()),[],())
def ip(h:aD.q)(d:Int):aD.q×Int:=if d<h.2.1 then (Yw,7)else ((h.1,h.2.1,h.2.2.1,lF d h.2.2.2.1,()),0)
def t4:Ct:=⟨[.d aD,.d i64],[aD,i64],λx=>((ip x.1 x.2.1).1,(ip x.1 x.2.1).2,()),λx=>[cj x.1]⟩
def FT(x:ap [.d aD,.d i64]):Fr (aa [aD,i64]):=
 let h:aD.q:=x.1;let d:Int:=x.2.1
 Jb (J (h.2.1>d)) (Jv (Yw,7,()))
  (Jd (List.length (α:=ar.q) h.2.2.1.2.2.1<=1000000)
   (Jd (UC h.2.2.2.1)
    (Jv ((h.1,h.2.1,((h.2.2.1.1.1,h.2.2.1.1.2.1,()),(h.2.2.1.2.1.1,h.2.2.1.2.1.2.1,h.2.2.1.2.1.2.2.1,h.2.2.1.2.1.2.2.2.1,()),((mK ar).f (h.2.2.1.2.2.1,())).1,()),lF d h.2.2.2.1,()),0,()))))
def zax:ag prog 179 (bg [.d aD,.d i64] [aD,i64] FT):=
 aT qfh f179 (fr:=FT) (ps:=[.d aD,.d i64]) (rs:=[aD,i64])
def zav(h:aD.q)(d:Int)(b:cj h):(FT (h,d,())).ok/\(FT (h,d,())).get=((ip h d).1,(ip h d).2,()):=by unfold ip;by_cases a:d<h.2.1;rw[uf0 a];exact aV (by simpa using a) ⟨uT,rfl⟩;rw[uf1 a];exact aN (by simpa using a) (aw b.2.1 (aw ⟨ueq b.1 (by decide),b.2.2⟩ ⟨uT,rfl⟩))
def zaw:ag prog 179 t4:=
 dz zax _ _ (λw F x c b a=>by obtain⟨h,d,_⟩:=x;exact zav h d a)
def qlk{h:aD.q}(b:cj h)(d:Int):cj (ip h d).1:=by unfold ip;split;exact⟨by decide,by decide,λc a=>by cases a⟩;refine⟨ueq (List.length_filter_le _ _) b.1,b.2.1,λc a=>b.2.2 c (List.mem_filter.1 a).1⟩
def fG(h:aD.q)(t:bh.q)(d:Int):List aF.q×Int:=if (ip h d).2=0 then c9 (ip h d).1 t else ([],(ip h d).2)
def qT:Ct:=⟨[.d aD,.d bh,.d i64],[eK,i64],λx=>((fG x.1 x.2.1 x.2.2.1).1,(fG x.1 x.2.1 x.2.2.1).2,()),λx=>[cj x.1,bf x.2.1]⟩
def CKs:Cx:=cx [(179,t4),(60,iE)] []
def qfl:CxOK prog CKs:=aQ (ps:=[]) aH ⟨zaw,GP,uT⟩ trivial
abbrev o8:Pt:=⟨21,0,⟨[(10,.d i64),(9,.d i64),(8,.d (.sl ar)),(1,.d i64)],[.x 4 142 ar,.r 4 4 0]⟩,⟨[],[.x 4 142 ar,.r 4 4 0]⟩,⟨[(5,.d .bool)],[.x 4 142 ar,.r 4 4 0]⟩⟩
def U7(z:o8.M.X):Fr o8.Out:=
 let i:Int:=z.1.1;let n:Int:=z.1.2.1;let l:List ar.q:=z.1.2.2.1;let p:Int:=z.1.2.2.2.1;let o:ar.q:=z.2.1
 let e:ar.q:=l.getD i.toNat ar.j
 Jb (J (i<n))
  (Jd (0<=i/\i<(l.length:Int)) (Jb (e.1==p) (Jv (Rd.back ((Z,()),(e,())))) (Jv (Rd.next ((I6.wrap (i+1),n,l,p,()),(o,()))))))
  (Jv (Rd.out ((),(o,()))))
def zmq:af prog (au f131 0) o8.M o8 U7:=af.of_run aL (bs:=0) rfl rfl rfl (λ_=>bm _ 0) (λx=>by kernel_rfl)
def mi:ar.q:=(0,0,0,0,0,())
def em(p:Int):List ar.q->ar.q×Bool
 |[]=>(mi,Y)
 |c::l=>if c.1=p then (c,Z)else em p l
def Vd:{l:List ar.q}->(em p l).2=Y->(em p l).1=mi
 |[],_=>rfl
 |c::l,h=>by unfold em at h |-;split at h;cases h;rename_i a;rw[uf1 a];exact Vd h
structure InFi (i n:Int) (l:List ar.q):Prop where
 i0:0<=i
 il:i<=n
 nl:n=l.length
 big:n<=9223372036854775807
def YS(o:ar.q)(r:ar.q×Bool):Fr o8.Out:=Jb r.2 (Jv (Rd.back ((Z,()),(r.1,())))) (Jv (Rd.out ((),(o,()))))
def Rh(z:o8.M.X):Fr o8.Out:=Jd (InFi z.1.1 z.1.2.1 z.1.2.2.1) (YS z.2.1 (em z.1.2.2.2.1 (z.1.2.2.1.drop z.1.1.toNat)))
def zby(i n:Int)(l:List ar.q)(p:Int)(o:ar.q)(d:InFi i n l)(Q:o8.Out->Prop)(a:(YS o (em p (l.drop i.toNat))).s7 Q):
  (U7 ((i,n,l,p,()),(o,()))).s7 λ
   |.next c=>InFi c.1.1 c.1.2.1 c.1.2.2.1/\((c.1.2.1:Int)-c.1.1).toNat<(n-i).toNat/\(Rh c).s7 Q
   |.out y=>Q (.out y)
   |.back z=>Q (.back z)
   |.pan p=>Q (.pan p):=by
 obtain⟨x,A,rfl,u⟩:=d;refine⟨λg=>?_,λg=>?_⟩;have h:i<(l.length:Int):=ucx g;obtain⟨k,rfl⟩:∃ n:Nat,i=n:=⟨i.toNat,by omega⟩;have s:k<l.length:=by omega
 have r:(k:Int).toNat=k:=by omega
 have v:((k:Int)+1).toNat=k+1:=by omega
 rw[r]at a;have w:I6.wrap ((k:Int)+1)=k+1:=IntWalk.i64_in _ (by omega);have t:l.getD (k:Int).toNat ar.j=l[k]:=by rw[r,uah,uaq s];rfl
 rw[ual s]at a;rw[t,w];refine⟨⟨by omega,by omega⟩,λf=>?_,λf=>?_⟩;have b:=ufm.1 f;have e:em p (l[k]::l.drop (k+1))=(l[k],Z):=uf0 b;rw[e]at a;exact a.1 rfl;have b:=ubw.1 f;have e:em p (l[k]::l.drop (k+1))=em p (l.drop (k+1)):=uf1 b;rw[e]at a;have m:InFi ((k:Int)+1) (l.length:Int) l:=⟨by omega,by omega,rfl,u⟩;refine⟨m,by show((l.length:Int)-((k:Int)+1)).toNat<((l.length:Int)-(k:Int)).toNat;omega,m,?_⟩;exact a;have h:¬ i<(l.length:Int):=uch g;have:l.drop i.toNat=[]:=ua2 (by omega);rw[this]at a;exact a.2 rfl
def zc7:af prog (.loop (au f131 0)) o8.M o8 Rh:=by refine af.loop zmq (μ:=λx=>((x.1.2.1:Int)-x.1.1).toNat) ?_ (λx Q h=>h.1);rintro⟨⟨i,n,l,p,_⟩,o,_⟩ a Q b;exact zby i n l p o a Q b.2
def E6:Ct:=⟨[.d (.sl ar),.d i64],[ar,.bool],λx=>((em x.2.1 x.1).1,(em x.2.1 x.1).2,()),λ_=>[]⟩
def qw5(x:ap [.d (.sl ar),.d i64]):Fr (aa [ar,.bool]):=
 let l:List ar.q:=x.1;let p:Int:=x.2.1
 Jd (InFi 0 l.length l) (Jb (em p (l.drop (0:Int).toNat)).2 (Jv ((em p (l.drop (0:Int).toNat)).1,Z,())) (Jv (mi,Y,())))
def qwm:ag prog 131 E6:=
 dz (cZ aL zc7 (fr:=qw5)) _ _
  (λw F x h e _=>by
   obtain⟨l,p,_⟩:=x;obtain⟨g,f,rfl,b,_⟩:=e;have a:=pg b;have c:InFi 0 (l.length:Int) l:=⟨ufe _,ub4 _,rfl,a⟩;refine aw c ?_;show(Jb (em p l).2 (Jv ((em p l).1,Z,())) (Jv (mi,Y,())):Fr (aa [ar,.bool])).ok/\(Jb (em p l).2 (Jv ((em p l).1,Z,())) (Jv (mi,Y,())):Fr (aa [ar,.bool])).get=((em p l).1,(em p l).2,());cases d:(em p l).2 with
   |true=>exact aV rfl ⟨uT,rfl⟩
   |false=>rw[Vd d];exact aN rfl ⟨uT,rfl⟩)
def AE:Pc:=⟨[.d .bool,.d i64],[],λ_=>(),λx=>!x.1,λx=>⟨262+1000000,.i64,x.2.1⟩,λ_=>[]⟩
def zra:lM prog 127 AE:=by
 refine⟨enters (fn:=f127) (by kernel_rfl) rfl rfl,λw F o r g k _=>?_⟩;obtain⟨v,m,rfl,l,e,f,rfl,d,i⟩:=k;cases i;obtain⟨s,n,_⟩:=o;have c:v=.bool s:=by have h:aK prog w F (λ_ _=>True) (eR .bool s) v:=iH l;exact h.2
 have a:e=.int .i64 n:=by have h:aK prog w F (λ_ _=>True) (eR i64 n) e:=iH d;exact h.2.1
 subst c;subst a;cases s
 ·go_enter func127,ntmps127
  go_wp2
  refine⟨rfl,.inr ⟨rfl,?_,ufn _ _⟩⟩;show Ending.panicked _=Ending.panicked [{ v:=PV.val ⟨262+1000000,.i64,n⟩,recovered:=Y }];rw[qd8 (p:=⟨262+1000000,.i64,n⟩) (T:=262) rfl]
 ·go_enter func127,ntmps127
  go_wp2
  go_end0
  refine .inl ⟨rfl,.tuple #[],F,rfl,ufn _ _,λ_ h=>h,λb h=>⟨.inl h,g b h⟩,#[],rfl,rfl⟩
def qwn{d g:Nat}{o D:TypeId}{E t r n k c e f h m p:Value}(l:d≠g)(M:w.heap[d]?= U (.cells #[E,t,r,n,k] o (0,0)))(N:w.heap[g]?= U (.cells #[c] D (0,0))):
  DY (((((((w.setCell ⟨d,0,V⟩ e).setCell ⟨d,1,V⟩ f).setCell ⟨d,2,V⟩ h).setCell ⟨d,3,V⟩ m).setCell ⟨d,4,V⟩ p).setCell ⟨g,0,V⟩ u).drew) ((w.setRow d #[e,f,h,m,p]).setRow g #[u]):=by
 have x:∀ X:World,X.drew.os=X.os/\X.drew.tape=X.tape/\X.drew.output=X.output/\X.drew.heap=X.heap:=λ_=>⟨rfl,rfl,rfl,rfl⟩;have y:∀ (X:World) (a:Addr) (v:Value),(X.setCell a v).os=X.os/\(X.setCell a v).tape=X.tape/\(X.setCell a v).output=X.output:=λ_ _ _=>⟨rfl,rfl,rfl⟩;have z:∀ (X:World) (b:Nat) (v:Array Value),(X.setRow b v).os=X.os/\(X.setRow b v).tape=X.tape/\(X.setRow b v).output=X.output:=λ_ _ _=>⟨rfl,rfl,rfl⟩;unfold DY;simp only[(x _).1,(x _).2.1,(x _).2.2.1,(y _ _ _).1,(y _ _ _).2.1,(y _ _ _).2.2,(z _ _ _).1,(z _ _ _).2.1,(z _ _ _).2.2,ufw,and_true];have F:=uc1 w d 0 _ o e M;rw[show(#[E,t,r,n,k]:Array Value).setIfInBounds 0 e = #[e,t,r,n,k] from rfl]at F;have G:=uc1 _ d 1 _ o f F;rw[show(#[e,t,r,n,k]:Array Value).setIfInBounds 1 f = #[e,f,r,n,k] from rfl]at G;have H:=uc1 _ d 2 _ o h G;rw[show(#[e,f,r,n,k]:Array Value).setIfInBounds 2 h = #[e,f,h,n,k] from rfl]at H;have K:=uc1 _ d 3 _ o m H;rw[show(#[e,f,h,n,k]:Array Value).setIfInBounds 3 m = #[e,f,h,m,k] from rfl]at K;have L:=uc1 _ d 4 _ o p K;have C:∀ i,i≠d->(((((w.setCell ⟨d,0,V⟩ e).setCell ⟨d,1,V⟩ f).setCell ⟨d,2,V⟩ h).setCell ⟨d,3,V⟩ m).setCell ⟨d,4,V⟩ p).heap[i]?= w.heap[i]? := λi s=>(uck _ _ i _ s).trans ((uck _ _ i _ s).trans ((uck _ _ i _ s).trans ((uck _ _ i _ s).trans (uck _ _ i _ s))))
 generalize ((((w.setCell ⟨d,0,V⟩ e).setCell ⟨d,1,V⟩ f).setCell ⟨d,2,V⟩ h).setCell ⟨d,3,V⟩ m).setCell ⟨d,4,V⟩ p=X at L C;have O:=uc1 X g 0 _ D u ((C g (Ne.symm l)).trans N);have P:=ufg w d _ #[e,f,h,m,p] o (0,0) M;have Q:=ufg (w.setRow d #[e,f,h,m,p]) g _ #[u] D (0,0) ((ue1 w d g _ (Ne.symm l)).trans N);apply uci;intro i;by_cases A:i=d;subst A;exact((uck _ _ i _ l).trans L).trans ((ue1 _ g i _ l).trans P).symm;by_cases B:i=g;subst B;exact O.trans Q.symm;exact((uck _ _ i _ B).trans (C i A)).trans ((ue1 _ g i _ B).trans (ue1 _ d i _ A)).symm
def zqf:ToldTwo prog 126 262 .i64 5:=by
 refine⟨enters (fn:=f126) (by kernel_rfl) rfl rfl,λp q w=>?_,λr s H K o1 G n w d b e c f=>?_⟩
 ·refine callsD_of_wpS func126 rfl λa t g=>?_;simp only[ntmps126,ucq,uda,udm,Nat.reduceAdd,Nat.reduceSub,ubn,ubo,ucy,ubx,udn,uc5];apply wpS_seq;apply wpS_region;simp[wpOpsS,go_sem,recoverD,g,Exit.thenS];refine wpS_of_wp ?_
  go_wp2
  cases a
  simp_all[bodyPostS,results,results126]
 ·have v:∀ w,(Instr.typeAssert (.iface 262 (.agg #[.int .i64 n])) 20 262 Y).run prog w=.ok (.agg #[.int .i64 n]) w:=λ_=>by kernel_rfl
  have u:∀ w,(Instr.field 262 (.agg #[.int .i64 n]) 0).run prog w=.ok (.int .i64 n) w:=λ_=>by kernel_rfl
  obtain⟨h,k,l,m,o,rfl⟩:∃ h k l m o,o1 = #[h,k,l,m,o]:=⟨o1[0],o1[1],o1[2],o1[3],o1[4],by
   apply ufs;exact e;intro i b c
   match i,c with
   |0,_|1,_|2,_|3,_|4,_=>rfl⟩
  obtain⟨D,rfl⟩:=Ok f;have x:=cn b 0;have y:=cn b 1;have z:=cn b 2;have A:=cn b 3;have B:=cn b 4;have C:=cn c 0;simp at x y z A B C;have E:∀ j,w.frozen? ⟨r,j,V⟩=false:=λj=>by simp[World.frozen?,b]
  have F:w.frozen? ⟨s,0,V⟩=false:=by simp[World.frozen?,c]
  refine callsD_of_wpS func126 rfl λa t g=>?_;simp only[ntmps126,ucq,uda,udm,Nat.reduceAdd,Nat.reduceSub,ubn,ubo,ucy,ubx,udn,uc5];apply wpS_seq;apply wpS_region;simp[wpOpsS,go_sem,recoverD,g,Exit.thenS];refine wpS_of_wp ?_
  go_wp2
  go_region
  go_wp2
  simp[bodyPostS,results,results126];exact qwn d b c
def M7(x:ap [.d aD,.d bh,.d i64]):Fr (aa [eK,i64]):=
 let h:aD.q:=x.1;let t:bh.q:=x.2.1;let d:Int:=x.2.2.1
 Jd (cj h) (Jb ((t4.f (h,d,())).2.1 != 0) (Jv ([],(t4.f (h,d,())).2.1,()))
  (Jd (cj (t4.f (h,d,())).1) (Jd (bf t) (Jv ((iE.f ((t4.f (h,d,())).1,t,())).1,(iE.f ((t4.f (h,d,())).1,t,())).2.1,())))))
def za1:ag prog 129 (bg [.d aD,.d bh,.d i64] [eK,i64] M7):=
 aT qfl f129
def zaz(h:aD.q)(t:bh.q)(d:Int)(b:cj h)(c:bf t):(M7 (h,t,d,())).ok/\(M7 (h,t,d,())).get=((fG h t d).1,(fG h t d).2,()):=by refine aw b ?_;unfold fG;by_cases a:(ip h d).2=0;rw[uf0 a];exact aN (by show((ip h d).2 != 0)=Y;simp[a]) (aw (qlk b d) (aw c ⟨uT,rfl⟩));rw[uf1 a];exact aV (by show((ip h d).2 != 0)=Z;simp[a]) ⟨uT,rfl⟩
def za0:ag prog 129 qT:=
 dz za1 _ _ (λw F x c b a=>by obtain⟨h,t,d,_⟩:=x;exact zaz h t d a.1 a.2)
def Er(e:Int):Prop:=0<=e/\e<=20
def kD:Er 0:=⟨by decide,by decide⟩
def mQ:Er 1:=⟨by decide,by decide⟩
def mR:Er 5:=⟨by decide,by decide⟩
def mS:Er 6:=⟨by decide,by decide⟩
def lX:Er 7:=⟨by decide,by decide⟩
def qr8(a b c:Int):Er (du a b c).2:=by
 unfold du;split
 first|exact kD|exact mQ|exact mR|exact mS|exact lX
 split
 first|exact kD|exact mQ|exact mR|exact mS|exact lX
 split<;>first|exact kD|exact mQ|exact mR|exact mS|exact lX
def S1:(l:List Int)->(m:Int)->Er (gR l m).2
 |[],_=>kD
 |b::r,m=>by unfold gR;split;exact S1 r _;exact qr8 _ _ _
def zh1(v:aU.q)(r:eV.q)(c:ar.q):Er (fa v r c).2:=by
 unfold fa;split;split
 first|exact kD|exact mQ|exact mR|exact mS|exact lX
 split
 first|exact kD|exact mQ|exact mR|exact mS|exact lX
 exact S1 _ _
 first|exact kD|exact mQ|exact mR|exact mS|exact lX
def I7(v:aU.q)(r:eV.q):(l:List ar.q)->(q:Int)->(b:Bool)->Er (iR v r l q b).2.2
 |[],_,_=>kD
 |c::l,q,b=>by unfold iR;split;split;split;exact I7 v r l _ _;exact I7 v r l _ _;exact I7 v r l _ _;exact zh1 _ _ _
def zr5(v:aU.q)(r:eV.q)(l:List ar.q):Er (zS v r l).2:=by
 unfold zS;split;split<;>first|exact kD|exact mQ|exact mR|exact mS|exact lX
 exact I7 _ _ _ _ _
def Lw(v:aU.q):(l:List aF.q)->Er (dJ v l)
 |[]=>kD
 |s::l=>by unfold dJ;split;split;exact Lw v l;exact zr5 _ _ _;exact Lw v l
def qdv(d:Int):(l:List aU.q)->Er (cE d l).2
 |[]=>lX
 |v::r=>by
  unfold cE;split
  first|exact kD|exact mQ|exact mR|exact mS|exact lX
  exact qdv d r
def zg2(h:aD.q)(t:bh.q):Er (c9 h t).2:=by
 unfold c9;split;split;split
 first|exact kD|exact mQ|exact mR|exact mS|exact lX
 exact Lw _ _;exact qdv _ _
 first|exact kD|exact mQ|exact mR|exact mS|exact lX
def zbc(h:aD.q)(t:bh.q)(d:Int):Er (fG h t d).2:=by unfold fG;split;exact zg2 _ _;unfold ip;split<;>first|exact kD|exact mQ|exact mR|exact mS|exact lX
def Er.inR{e:Int}(h:Er e):inR .i64 e:=by
 obtain⟨c,d⟩:=h;have a:IntKind.i64.min=-9223372036854775808:=by decide
 have b:IntKind.i64.max=9223372036854775807:=by decide
 unfold Go.Ab.inR;rw[a,b];omega
def Tp(c:dx.q):Bool:=Fd c.1 c.2.1 c.2.2.1 c.2.2.2.1 c.2.2.2.2.1 c.2.2.2.2.2.1
def Fh(l:List aF.q)(c:dx.q):ar.q×Int:=
 if ((cz l c.2.2.2.1).2&&(cz l c.2.2.2.1).1.2.1)=Z then
  (if (em c.2.2.1 (cz l c.2.2.2.1).1.2.2.2.1).2=Z then ((em c.2.2.1 (cz l c.2.2.2.1).1.2.2.2.1).1,0)else (mi,11))
 else (mi,11)
def fz(h:aD.q)(t:bh.q)(c:dx.q):ar.q×Int:=
 if Tp c=Z then
  (if c.2.2.2.1<=c.2.2.2.2.1 then
   (if c.2.1=h.1 then (if (fG h t c.2.2.2.2.1).2=0 then Fh (fG h t c.2.2.2.2.1).1 c else (mi,(fG h t c.2.2.2.2.1).2))else (mi,7))
  else (mi,4))
 else (mi,1)
def Ex:Ct:=⟨[.d aD,.d bh,.d dx],[ar,i64],λx=>((fz x.1 x.2.1 x.2.2.1).1,(fz x.1 x.2.1 x.2.2.1).2,()),λx=>[cj x.1,bf x.2.1]⟩
def Qo:Cx:=cx [(128,JT),(129,qT),(130,wJ),(131,E6)] [(127,AE)]
def Qp:CxOK prog Qo:=aQ aH ⟨zgq,za0,zn7,qwm,uT⟩ ⟨zra,uT⟩
def pd(b:Bool)(e:Int)(k:Fr (aa [ar,i64])):Fr (aa [ar,i64]):=
 Jb (AE.bad (b,e,())) (Jd (inR .i64 (AE.pv (b,e,())).n) (Jv ((0,0,0,0,0,()),(AE.pv (b,e,())).n,()))) k
def FN(x:ap [.d aD,.d bh,.d dx]):Fr (aa [ar,i64]):=
 let h:aD.q:=x.1;let t:bh.q:=x.2.1;let c:dx.q:=x.2.2.1
 pd (JT.f (c,())).1 1 (pd (J (c.2.2.2.2.1>=c.2.2.2.1)) 4 (pd (c.2.1==h.1) 7 (Jd (cj h) (Jd (bf t)
  (pd ((qT.f (h,t,c.2.2.2.2.1,())).2.1==0) (qT.f (h,t,c.2.2.2.2.1,())).2.1
   (pd (bif (wJ.f ((qT.f (h,t,c.2.2.2.2.1,())).1,c.2.2.2.1,())).2.1 then (wJ.f ((qT.f (h,t,c.2.2.2.2.1,())).1,c.2.2.2.1,())).1.2.1 else Y) 11
    (pd (E6.f ((wJ.f ((qT.f (h,t,c.2.2.2.2.1,())).1,c.2.2.2.1,())).1.2.2.2.1,c.2.2.1,())).2.1 11
     (Jv ((E6.f ((wJ.f ((qT.f (h,t,c.2.2.2.2.1,())).1,c.2.2.2.1,())).1.2.2.2.1,c.2.2.1,())).1,0,())))))))))
def Tx:Code:=(f79.body.map λc=>mC (mC c)).getD .skip
def qpl:ag prog 79 (bg [.d aD,.d bh,.d dx] [ar,i64] FN):=
 qrg Qp (run:=λs=>cQ prog Qo 0 bK Tx 0 s) (T:=262) (k:=.i64) (m:=5) (fn:=f79) (A:=ur (f79.body.getD .skip)) (c:=Tx) (rid:=1) (ops:=Oq (ur (mC (f79.body.getD .skip)))) (td:=12) (ta:=6) (tb:=7) (fr:=FN) (ps:=[.d aD,.d bh,.d dx]) (rs:=[ar,i64]) (aD.j,bh.j,dx.j,())
  (by kernel_rfl) (by kernel_rfl) (by kernel_rfl) zqf (λE=>xl Qp (bm _ 0)) (λx=>by kernel_rfl)
def zQ{b:Bool}{e:Int}{k:Fr (aa [ar,i64])}{y:aa [ar,i64]}(a:b=Z)(c:k.ok/\k.get=y):(pd b e k).ok/\(pd b e k).get=y:=aN (by show(!b)=Y;rw[a];rfl) c
def zP{b:Bool}{e:Int}{k:Fr (aa [ar,i64])}(a:b=Y)(c:inR .i64 e):(pd b e k).ok/\(pd b e k).get=(mi,e,()):=aV (by show(!b)=Z;rw[a];rfl) (aw c ⟨uT,rfl⟩)
def qpk(h:aD.q)(t:bh.q)(c:dx.q)(i:cj h)(k:bf t):(FN (h,t,c,())).ok/\(FN (h,t,c,())).get=((fz h t c).1,(fz h t c).2,()):=by unfold fz;by_cases a:Tp c=Z;rw[uf0 a];refine zQ a ?_;by_cases b:c.2.2.2.1<=c.2.2.2.2.1;rw[uf0 b];refine zQ (by simpa using b) ?_;by_cases d:c.2.1=h.1;rw[uf0 d];refine zQ (by simpa using d) (aw i (aw k ?_));by_cases e:(fG h t c.2.2.2.2.1).2=0;rw[uf0 e];refine zQ (by show((fG h t c.2.2.2.2.1).2==0)=Z;simpa using e) ?_;unfold Fh;by_cases f:((cz (fG h t c.2.2.2.2.1).1 c.2.2.2.1).2&&(cz (fG h t c.2.2.2.2.1).1 c.2.2.2.1).1.2.1)=Z;rw[uf0 f];refine zQ ((qO _ _).trans f) ?_;by_cases g:(em c.2.2.1 (cz (fG h t c.2.2.2.2.1).1 c.2.2.2.1).1.2.2.2.1).2=Z;rw[uf0 g];exact zQ g ⟨uT,rfl⟩;rw[uf1 g];exact zP (ucz.2 g) ⟨by decide,by decide⟩;rw[uf1 f];exact zP ((qO _ _).trans (ucz.2 f)) ⟨by decide,by decide⟩;rw[uf1 e];exact zP (by show((fG h t c.2.2.2.2.1).2==0)=Y;simpa using e) (zbc h t _).inR;rw[uf1 d];exact zP (by simpa using d) ⟨by decide,by decide⟩;rw[uf1 b];exact zP (by simpa using b) ⟨by decide,by decide⟩;rw[uf1 a];exact zP (ucz.2 a) ⟨by decide,by decide⟩
def Tz:ag prog 79 Ex:=
 dz qpl _ _ (λw F x d b a=>by obtain⟨h,t,c,_⟩:=x;exact qpk h t c a.1 a.2)
def qge:Cx:=cx [(108,wL),(66,t7),(271,EA)] []
def qgf:CxOK prog qge:=aQ aH ⟨TL,PH,Zd,uT⟩ trivial
def qtm(x:ap [.d i64,.d i64,.d dF]):Fr (aa [aD,i64]):=
 Jb (bif bif bif J (x.1<1)then Z else J (x.1>1000000000)then Z else !(wL.f (x.2.1,())).1 then Z else !(t7.f (x.2.2.1,())).1) (Jv ((0,0,((0,0,()),(0,0,0,0,()),[],()),[],()),1,())) (Jd (List.length x.2.2.1.2.2.1<=1000000) (Jv ((x.1,x.2.1,(EA.f (x.2.2.1,())).1,[],()),0,())))
def qtn:ag prog 268 (bg [.d i64,.d i64,.d dF] [aD,i64] qtm):=
 aT qgf f268
def wD(id a:Int)(t:dF.q):Bool:=bif bif bif J (id<1)then Z else J (id>1000000000)then Z else !(jo a)then Z else !(i9 t)
def mH(id a:Int)(t:dF.q):aD.q×Int:=bif wD id a t then (iy,1)else ((id,a,t,[],()),0)
def S4:Ct:=⟨[.d i64,.d i64,.d dF],[aD,i64],λx=>((mH x.1 x.2.1 x.2.2.1).1,(mH x.1 x.2.1 x.2.2.1).2,()),λ_=>[]⟩
def qct{t:dF.q}(h:i9 t=Z):t.2.2.1.length<=1000000:=by unfold i9 at h;rw[udd,udd,udd]at h;have a:ky t.2.2.1=true:=h.2.2.2;unfold ky at a;rw[udd]at a;have:=ucx a.1;exact ueq this.2 (by decide)
def Sm{id a:Int}{t:dF.q}(h:wD id a t=Y):i9 t=true:=by
 unfold wD at h;cases c:i9 t;rw[c]at h;cases b:(bif bif J (id<1)then Z else J (id>1000000000)then Z else !(jo a))<;>rw[b]at h<;>cases h
 rfl
def ql9:ag prog 268 S4:=conv qtn _ _ (λ_ _ x _ _ _=>by obtain⟨id,a,t,_⟩:=x;show _/\_=((mH id a t).1,(mH id a t).2,());unfold mH;cases h:wD id a t;exact aN h (aw (qct (Sm h)) ⟨uT,rfl⟩);exact aV h ⟨uT,rfl⟩)
def Sx(id b:Int)(t:dF.q):cj (mH id b t).1:=by unfold mH;cases h:wD id b t;exact⟨by show 0<=500000;omega,qct (Sm h),λc a=>by cases a⟩;have z:cj iy:=⟨by decide,by decide,λc a=>by cases a⟩;exact z
def JN:Ct:=⟨[.d bn],[i64],λx=>(ev x.1,()),λ_=>[]⟩
def Ki:Ct:=⟨[.d aq],[i64],λx=>(kK x.1,()),λ_=>[]⟩
def lO(f:ae.q)(g:aq.q):Bool:=bif g.1.2.1==iw f then J (g.1.2.2.2.2.1>=bF f)else Y
def JL:Ct:=⟨[.d aq,.ptr ae],[.bool],λx=>(lO x.2.1 x.1,()),λ_=>[]⟩
def ql5:ag prog 270 JN:=
 conv (aT aL f270 (fr:=λx=>Jv (ev x.1,())) (ps:=JN.ps) (rs:=[i64])) _ _ (λ_ _ _ _ _ _=>⟨uT,rfl⟩)
def zf2:ag prog 287 Ki:=
 conv (aT aL f287 (fr:=λx=>Jv (kK x.1,())) (ps:=Ki.ps) (rs:=[i64])) _ _ (λ_ _ _ _ _ _=>⟨uT,rfl⟩)
def qkv:ag prog 280 JL:=
 conv (aT aL f280 (fr:=λx=>Jv (lO x.2.1 x.1,())) (ps:=JL.ps) (rs:=[.bool])) _ _ (λ_ _ _ _ _ _=>⟨uT,rfl⟩)
def qf1:Cx:=cx [(308,Ko),(140,iD)] []
def qf2:CxOK prog qf1:=aQ aH ⟨zjc,rC,uT⟩ trivial
abbrev rU:Pt:=⟨28,2,⟨[(14,.d i64),(13,.d i64),(12,.d (.sl ah)),(6,.d i64),(1,.d i64),(5,.d i64),(9,.d i64),(0,.d (.sl ah))],[]⟩,⟨[(6,.d i64),(1,.d i64),(9,.d i64),(0,.d (.sl ah))],[]⟩,⟨[],[]⟩⟩
def WF:Code:=((eP (au f304 0) 0).getD .skip)
abbrev HJ:Type:=ap [.d i64,.d i64,.d i64,.d i64,.d (.sl ah)]×dj []
def zC(e:ah.q)(s:HJ):Fr HJ:=
 let a:=s.1.2;Jd (¬a.2.1<0) (Jv ((I6.wrap (s.1.1+(Ko.f (e,a.1,a.2.1,())).1),a.1,a.2.1,a.2.2.1,a.2.2.2.1,()),()))
def PQ(x:rU.M.X):Int×List ah.q×HJ:=(x.1.1,x.1.2.2.1,x.1.2.2.2,x.2)
def MZ(x:rU.M.X):Prop:=x.1.2.1=(x.1.2.2.1.length:Int)
def YV(s:HJ):rU.E.X:=((s.1.1,s.1.2.1,s.1.2.2.2.1,s.1.2.2.2.2.1,()),())
def zec:af prog (.loop WF) rU.M rU (FF zC PQ MZ YV):=
 zT qf2 (λ_ _=>.n .o) ah.j (λx=>x.1.2.1) (λx s=>((I6.wrap (x.1.1+1),x.1.2.1,x.1.2.2.1,s.1),s.2)) (λ_ h=>h)
def zsr(a:Gm):St->Option Tr:=rU.han a rU.M (FF zC PQ MZ YV)
abbrev yV:Pt:=⟨33,0,⟨[(15,.d i64),(14,.d i64),(13,.d (.sl ah))],[.x 3 44 ah,.r 3 3 0,.y 5 57 [(U 44,ah)],.r 5 5 0]⟩,⟨[],[.x 3 44 ah,.r 3 3 0,.y 5 57 [(U 44,ah)],.r 5 5 0]⟩,⟨[],[]⟩⟩
abbrev De:Type:=ap []×dj [.x 3 44 ah,.r 3 3 0,.y 5 57 [(U 44,ah)],.r 5 5 0]
def zH(e:ah.q)(s:De):Fr De:=
 let b:=s.2.2.1.1;let a:=(e.1,e.2.1,e.2.2.1,e.2.2.2.1,e.2.2.2.2.1,e.2.2.2.2.2.1,e.2.2.2.2.2.2.1,I6.wrap ((Bvo I6.bits e.2.2.2.2.2.2.2.1 &&& Bvo I6.bits s.2.1.2.2.2.2.2.2.2.1).toNat:Int),());Jd (b.length + [a].length<=maxLen/\(b.length + [a].length)*72<=140737488355328) (Jv ((),s.2.1,(b++[a],()),()))
def qdh(x:yV.M.X):Int×List ah.q×De:=(x.1.1,x.1.2.2.1,x.1.2.2.2,x.2)
def Wb(x:yV.M.X):Prop:=x.1.2.1=(x.1.2.2.1.length:Int)
def zih(s:De):yV.E.X:=((),s.2.1,(s.2.2.1.1,()),())
def ze7:af prog (.loop (au f301 0)) yV.M yV (FF zH qdh Wb zih):=
 zT aL (λ_ _=>.n .o) ah.j (λx=>x.1.2.1) (λx s=>((I6.wrap (x.1.1+1),x.1.2.1,x.1.2.2.1,s.1),s.2)) (λ_ h=>h)
abbrev vg:Pt:=⟨22,0,⟨[(9,.d i64),(8,.d i64),(7,.d (.sl ae)),(3,.d i64)],[]⟩,⟨[(3,.d i64)],[]⟩,⟨[],[]⟩⟩
abbrev Db:Type:=ap [.d i64]×dj []
def oV(e:ae.q)(s:Db):Fr Db:=
 Jb (e.2.1==7) (Jv ((if s.1.1<e.2.2.2.2.1 then e.2.2.2.2.1 else s.1.1,()),())) (Jv ((s.1.1,()),()))
def s9(x:vg.M.X):Int×List ae.q×Db:=(x.1.1,x.1.2.2.1,x.1.2.2.2,x.2)
def VW(x:vg.M.X):Prop:=x.1.2.1=(x.1.2.2.1.length:Int)
def YU(s:Db):vg.E.X:=((s.1.1,()),())
def zd8:af prog (.loop (au f44 0)) vg.M vg (FF oV s9 VW YU):=
 zT aL (λ_ _=>.n .o) ae.j (λx=>x.1.2.1) (λx s=>((I6.wrap (x.1.1+1),x.1.2.1,x.1.2.2.1,s.1),s.2)) (λ_ h=>h)
def zky(y:vg.M.X):Db:=ft oV ((s9 y).2.1.drop (s9 y).1.toNat) (s9 y).2.2
def zhq(y:vg.M.X):Prop:=kQ oV ((s9 y).2.1.drop (s9 y).1.toNat) (s9 y).2.2
abbrev oB:Pt:=⟨28,0,⟨[(9,.d i64),(0,.d (.sl ah)),(1,.d i64)],[]⟩,⟨[],[]⟩,⟨[(4,.d .bool)],[]⟩⟩
def zM(b a:Int)(l:List ah.q)(s:Int):Int:=l.foldl (λs t=>I6.wrap (s+cS t b a)) s
def T5(a p i:Int)(b:List ah.q):(l:List ah.q)->(s:Int)->ft zC l ((s,a,p,i,b,()),())=((zM a p l s,a,p,i,b,()),())
 |[],_=>rfl
 |t::l,s=>T5 a p i b l (I6.wrap (s+cS t a p))
def T6(a p i:Int)(b:¬ p<0)(c:List ah.q):(l:List ah.q)->(s:Int)->kQ zC l ((s,a,p,i,c,()),())
 |[],_=>trivial
 |t::l,s=>⟨⟨b,uT⟩,T6 a p i b c l (I6.wrap (s+cS t a p))⟩
abbrev qrx(i:Int)(l:List ah.q)(a:Int):rU.M.X:=((0,((List.length l:Nat):Int),l,0,a,i,i,l,()),())
def Vy(x:oB.M.X):Fr oB.Out:=
 let b:=qrx x.1.1 x.1.2.1 x.1.2.2.1;let a:=ft zC (List.drop 0 x.1.2.1) ((0,x.1.2.2.1,x.1.1,x.1.1,x.1.2.1,()),());Jb (J (x.1.1<8)) (Jd (InL (MZ b) (PQ b))
  (Jd (kQ zC (List.drop 0 x.1.2.1) ((0,x.1.2.2.1,x.1.1,x.1.1,x.1.2.1,()),()))
   (Jb (J (a.1.1>10000)) (Jv (Rd.back ((Z,()),())))
    (Jv (Rd.next ((I6.wrap (a.1.2.2.2.1+1),a.1.2.2.2.2.1,a.1.2.1,()),()))))))
  (Jv (Rd.out ((),())))
def zm2:af prog (au f304 0) oB.M oB Vy:=
 af.of_run aL (bs:=0) (Λ:=λ_=>zsr eN.Γ) rfl rfl rfl (λE=>rI _ 0 λi b a=>by
  match i,a with
  |0,a=>
   have e:U WF=U b:=by rw[<- a];kernel_rfl
   cases e;exact af.han aL rfl zec
  |i+1,a=>exact absurd (qR a) (by
   have:cD (au f304 0)=1:=by kernel_rfl
   omega)) (λx=>by kernel_rfl)
def tH(l:List ah.q)(a:Int):Nat->Int->Bool
 |0,_=>Y
 |n+1,p=>J (zM a p l 0>10000) || tH l a n (p+1)
def xm(l:List ah.q)(a:Int):Bool:=tH l a 8 0
def Al(i:Int)(l:List ah.q):Prop:=0<=i/\i<=8/\((List.length l:Nat):Int)<=9223372036854775807
def Rs(x:oB.M.X):Fr oB.Out:=
 Jd (Al x.1.1 x.1.2.1) (Jb (tH x.1.2.1 x.1.2.2.1 (8-x.1.1).toNat x.1.1) (Jv (Rd.back ((Z,()),()))) (Jv (Rd.out ((),()))))
def zch (i:Int) (l:List ah.q) (b:Int) (d:Al i l) (Q:oB.Out->Prop) (a:(Jb (tH l b (8-i).toNat i) (Jv (Rd.back ((Z,()),()))) (Jv (Rd.out ((),()))):Fr oB.Out).s7 Q) :
  (Vy ((i,l,b,()),())).s7 λ
   |.next e=>Al e.1.1 e.1.2.1/\(8-e.1.1).toNat<(8-i).toNat/\(Rs e).s7 Q
   |.out y=>Q (.out y)
   |.back z=>Q (.back z)
   |.pan p=>Q (.pan p):=by
 obtain⟨s,t,k⟩:=d;by_cases n:i<8;refine⟨λ_=>⟨⟨rfl,ufe _,ub4 _,k⟩,T6 b i i (by omega) l (List.drop 0 l) 0,?_⟩,λh=>absurd n (uch h)⟩;have r:I6.wrap (i+1)=i+1:=IntWalk.i64_in _ (by omega);rw[T5,ueg];have g:(8-i).toNat=(8-(i+1)).toNat+1:=by omega
 rw[g]at a;dsimp only[tH]at a;refine⟨λf=>?_,λf=>?_⟩;have c:=f;rw[c]at a;exact a.1 rfl;have c:=f;rw[c,Bool.false_or]at a;rw[r];have m:Al (i+1) l:=⟨by omega,by omega,k⟩;have o:(8-(i+1)).toNat<(8-i).toNat:=by omega
 exact⟨m,o,m,a⟩;refine⟨λh=>absurd (ucx h) n,λ_=>?_⟩;have g:(8-i).toNat=0:=by omega
 rw[g]at a;exact a.2 rfl
def zeb:af prog (.loop (au f304 0)) oB.M oB Rs:=by refine af.loop zm2 (μ:=λx=>(8-x.1.1).toNat) ?_ (λx Q h=>h.1);rintro⟨⟨i,l,b,_⟩,_⟩ a Q c;exact zch i l b a Q c.2
def S6:Ct:=⟨[.d (.sl ah),.d i64],[.bool],λx=>(xm x.1 x.2.1,()),λ_=>[]⟩
def qpu:ag prog 304 S6:=
 conv (cZ aL zeb (ps:=[.d (.sl ah),.d i64]) (fr:=λx=>Jd (Al 0 x.1) (Jb (tH x.1 x.2.1 (8-(0:Int)).toNat 0) (Jv (Z,())) (Jv (Y,()))))) _ _ (λw F x h e _=>by obtain⟨l,b,_⟩:=x;obtain⟨v,g,rfl,f,_⟩:=e;have a:((List.length l:Nat):Int)<=9223372036854775807:=pg f;refine aw ⟨by omega,by omega,a⟩ ?_;cases c:xm l b;exact aN c ⟨uT,rfl⟩;exact aV c ⟨uT,rfl⟩)
def qf(x t:ah.q)(all:List ah.q):Bool:=bif (iD.f (t.2.2.1,x.2.2.1.1,())).1 then xm all x.2.2.1.1 else Y
def Kn:Ct:=⟨[.d ah,.ptr ah,.ptr (.sl ah)],[.bool],λx=>(qf x.1 x.2.1 x.2.2.1,()),λ_=>[]⟩
def qf3:Cx:=cx [(304,S6),(140,iD)] []
def qf4:CxOK prog qf3:=aQ aH ⟨qpu,rC,uT⟩ trivial
def zin:ag prog 303 Kn:=
 conv (aT qf4 f303 (fr:=λx=>Jv (qf x.1 x.2.1 x.2.2.1,())) (ps:=Kn.ps)) _ _ (λ_ _ _ _ _ _=>⟨uT,rfl⟩)
def jh(t x:ah.q):ah.q:=(x.1,x.2.1,x.2.2.1,x.2.2.2.1,x.2.2.2.2.1,x.2.2.2.2.2.1,x.2.2.2.2.2.2.1,I6.wrap ((Bvo I6.bits x.2.2.2.2.2.2.2.1 &&& Bvo I6.bits t.2.2.2.2.2.2.2.1).toNat:Int),())
def jH(l:List ah.q)(t:ah.q):List ah.q:=[t]++l.map (jh t)
def jV(l:List ah.q)(t:ah.q):Bool:=bif t.2.1 != 1 then Y else (jH l t).any λx=>qf x t (jH l t)
def YZ(t:ah.q):(l a:List ah.q)->ft zH l ((),t,(a,()),())=((),t,(a++l.map (jh t),()),())
 |[],a=>by rw[List.map_nil,uds];rfl
 |x::l,a=>by have h:=YZ t l (a++[jh t x]);rw[ucr]at h;exact h
def Za(t:ah.q):(l a:List ah.q)->a.length+l.length<=1000000->kQ zH l ((),t,(a,()),())
 |[],_,_=>trivial
 |x::l,a,h=>by rw[uda]at h;refine⟨⟨⟨?_,?_⟩,uT⟩,Za t l (a++[jh t x]) (by rw[ub6,ua7];omega)⟩;show a.length+1<=maxLen;unfold maxLen;omega;show(a.length+1)*72<=140737488355328;omega
abbrev Un(l:List ah.q)(t:ah.q):yV.M.X:=((0,((List.length l:Nat):Int),l,()),t,([t],()),())
abbrev uh(l:List ah.q)(t:ah.q):De:=ft zH (List.drop 0 l) ((),t,([t],()),())
def qf5:Cx:=cx [(114,ir ah),(303,Kn)] []
def qf6:CxOK prog qf5:=aQ aH ⟨Ju,zin,uT⟩ trivial
abbrev RK:List PT:=[.d (.sl ah),.d ah]
def SK:Ct:=⟨RK,[.bool],λx=>(jV x.1 x.2.1,()),λx=>[x.1.length<=100000]⟩
def zis:ag prog 301 SK:=
 conv (cZ qf6 ze7 (ps:=RK) (rs:=[.bool]) (fr:=λx=>Jb (x.2.1.2.1 != 1) (Jv (Y,())) (Jd (InL (Wb (Un x.1 x.2.1)) (qdh (Un x.1 x.2.1))) (Jd (kQ zH (List.drop 0 x.1) ((),x.2.1,([x.2.1],()),())) (Jd (∀ y:aa [ah],gN [ah] y->az ([]:List Prop)) (Jv ((uh x.1 x.2.1).2.2.1.1.any (λn=>qf n (uh x.1 x.2.1).2.1 (uh x.1 x.2.1).2.2.1.1),()))))))) _ _ (λw F x d c h=>by
  obtain⟨l,t,_⟩:=x;have b:List.length (α:=ah.q) l<=100000:=h;show _/\_=(jV l t,());unfold jV;cases a:t.2.1 != 1
  ·refine aN a (aw ⟨rfl,ufe _,ub4 _,?_⟩ (aw (Za t (List.drop 0 l) [t] (by rw[ueg,ua7];omega)) (aw (λ_ _=>uT) ⟨uT,?_⟩)));show((List.length (α:=ah.q) l:Nat):Int)<=_;omega
   ·show((uh l t).2.2.1.1.any (λn=>qf n (uh l t).2.1 (uh l t).2.2.1.1),())=_;have e:uh l t=((),t,(jH l t,()),()):=by show ft zH (List.drop 0 l) _=_;rw[ueg,YZ];rfl
    rw[e];rfl
  exact aV a ⟨uT,rfl⟩)
def oZ(s:ak.q)(t:ah.q):Bool:=(bT s).any λx=>x.1==t.1
def qdz(s:ak.q)(l:List ah.q):ak.q:=(s.1,s.2.1,s.2.2.1,l,s.2.2.2.2.1,())
def fE(s:ak.q)(f:ae.q):ak.q×Int:=
 bif oZ s (dB f)then (s,8)else bif J (((List.length (bT s):Nat):Int)>=100)then (s,2)else bif jV (bT s) (dB f)then (s,13)
  else (qdz s (gt (λt=>t.1) (bT s) (dB f)),0)
abbrev jE:List PT:=[.d ae,.d ak]
def ED:Ct:=⟨[.d ah],[i64],λx=>(x.1.1,()),λ_=>[]⟩
def Kt:Ct:=⟨[.d ah,.pk 299,.ptr ae],[.bool],λx=>(x.1.1==(dB x.2.2.1).1,()),λ_=>[]⟩
def qc6:ag prog 299 ED:=
 conv (aT aL f299 (fr:=λx=>Jv (x.1.1,())) (ps:=ED.ps) (rs:=[i64])) _ _ (λ_ _ _ _ _ _=>⟨uT,rfl⟩)
def qf7:Cx:=cx [(299,ED)] []
def qf8:CxOK prog qf7:=aQ aH ⟨qc6,uT⟩ trivial
def zqo:ag prog 300 Kt:=
 conv (aT qf8 f300 (fr:=λx=>Jv (x.1.1==(dB x.2.2.1).1,())) (ps:=Kt.ps) (rs:=[.bool])) _ _ (λ_ _ _ _ _ _=>⟨uT,rfl⟩)
def qf9:Cx:=cx [(114,ir ah),(299,ED),(300,Kt),(301,SK),(302,wP ah)] []
def qga:CxOK prog qf9:=aQ aH ⟨Ju,qc6,zqo,zis,zjt,uT⟩ trivial
def SD:Ct:=⟨jE,[ak,i64],λx=>((fE x.2.1 x.1).1,(fE x.2.1 x.1).2,()),λ_=>[]⟩
def qw3(x:ap jE):Fr (aa [ak,i64]):=
 let c:=([]:List Prop);let b:=dB x.1;let a:=bT x.2.1;Jd (∀ y:aa [ah],gN [ah] y->az c) (Jb (oZ x.2.1 b) (Jv (x.2.1,8,())) (Jb (J (((List.length a:Nat):Int)>=100)) (Jv (x.2.1,2,()))
  (Jd (a.length<=100000) (Jb (jV a b) (Jv (x.2.1,13,()))
   (Jd (∀ y:aa [ah],gN [ah] y->az c) (Jd (a.length<=100000) (Jv (qdz x.2.1 (gt (λt=>t.1) a b),0,()))))))))
def qq5:ag prog 298 SD:=
 conv (aT qga f298 (fr:=qw3) (ps:=jE) (rs:=[ak,i64])) _ _ (λ_ _ x _ _ _=>by
  obtain⟨f,s,_⟩:=x;show _/\_=((fE s f).1,(fE s f).2,());unfold fE;refine aw (λ_ _=>uT) ?_;cases c:oZ s (dB f);refine aN rfl ?_;cases b:J (((List.length (bT s):Nat):Int)>=100);have a:(bT s).length<=100000:=by have:=uch b;omega
  refine aN rfl (aw a ?_);cases d:jV (bT s) (dB f);exact aN rfl (aw (λ_ _=>uT) (aw a ⟨uT,rfl⟩));exact aV rfl ⟨uT,rfl⟩;exact aV rfl ⟨uT,rfl⟩;exact aV rfl ⟨uT,rfl⟩)
def gi(s:ak.q)(f:ae.q):ak.q×Int:=bif J (dA f<=kg s)then (s,12)else ((s.1,s.2.1,s.2.2.1,s.2.2.2.1,dA f,()),0)
def SA:Ct:=⟨jE,[ak,i64],λx=>((gi x.2.1 x.1).1,(gi x.2.1 x.1).2,()),λ_=>[]⟩
def qq0:ag prog 313 SA:=
 conv (aT aL f313 (fr:=λx=>Jb (J (dA x.1<=kg x.2.1)) (Jv (x.2.1,12,())) (Jv ((x.2.1.1,x.2.1.2.1,x.2.1.2.2.1,x.2.1.2.2.2.1,dA x.1,()),0,()))) (ps:=jE) (rs:=[ak,i64])) _ _ (λ_ _ x _ _ _=>by obtain⟨f,s,_⟩:=x;show _/\_=((gi s f).1,(gi s f).2,());unfold gi;cases a:J (dA f<=kg s);exact aN a ⟨uT,rfl⟩;exact aV a ⟨uT,rfl⟩)
def qpv:List (FuncId×Ct):=[(125,JK),(285,Kd),(78,wI),(268,S4),(47,E1),(281,SM),(79,Ex),(228,E9),(229,tw),(269,(wP bn)),(286,(wP aq)),(282,(EF bn)),(297,(EF aq)),(210,(ir aq)),(270,JN),(287,Ki),(280,JL)]
def qgg:Cx:=cx qpv []
def Af:CxOK prog qgg:=aQ aH ⟨RT,UW,RV,ql9,TZ,zj2,Tz,YN,T4,zjr,zjs,zrx,zrz,Sb,ql5,zf2,qkv,uT⟩ trivial
abbrev mE(s:ak.q)(l:List bn.q):ak.q:=(s.1,l,s.2.2.1,s.2.2.2.1,s.2.2.2.2.1,())
abbrev I4(s:ak.q)(l:List aq.q):ak.q:=(s.1,s.2.1,l,s.2.2.2.1,s.2.2.2.2.1,())
def bi(s:ak.q):Prop:=bf s.1/\(bW s).length<=100000/\(aJ s).length<=100000/\∀ a∈bW s,cj a.1
abbrev gc(s:ak.q)(i:Int):bn.q:=(bW s).getD i.toNat bn.j
abbrev FH(s:ak.q)(i:Int):aq.q:=(aJ s).getD i.toNat aq.j
abbrev bH(f:ae.q):aD.q×Int:=mH (iw f) (bF f) (ma f)
abbrev aI(s:ak.q)(f:ae.q):Int:=dw s (iw f)
abbrev gI(s:ak.q)(f:ae.q):Int:=eS s (iw f)
abbrev pH(s:ak.q)(f:ae.q):aD.q×Int:=kV (gc s (aI s f)).1 (iv f)
def fB(s:ak.q)(f:ae.q):ak.q×Int:=
 bif J (aI s f>=0)then (s,8)else bif J (((List.length (bW s):Nat):Int)>=2000)then (s,2)
  else (mE s (gt ev (bW s) ((bH f).1,0,())),bif (bH f).2==0 then (fT (bH f).1 s.1).2 else (bH f).2)
def fA(s:ak.q)(f:ae.q):ak.q×Int:=
 bif J (aI s f<0)then (s,7)else bif (aJ s).any (lO f)then (s,10)
  else (mE s ((bW s).set (aI s f).toNat ((pH s f).1,(gc s (aI s f)).2.1,())),bif (pH s f).2==0 then (fT (pH s f).1 s.1).2 else (pH s f).2)
def fD(s:ak.q)(f:ae.q):ak.q×Int:=
 bif J (aI s f<0)then (s,7)else bif J (ej f>I6.wrap (4000000000000000000-(gc s (aI s f)).2.1))then (s,5)
  else (mE s ((bW s).set (aI s f).toNat ((gc s (aI s f)).1,I6.wrap ((gc s (aI s f)).2.1+ej f),())),0)
abbrev lA(s:ak.q)(f:ae.q):bn.q×Bool:=gO s (dk f).2.1
def fl(s:ak.q)(f:ae.q):ak.q×Int:=
 bif J (eS s (dk f).1>=0)then (s,8)else bif J (((List.length (aJ s):Nat):Int)>=2000)then (s,2)else bif !(lA s f).2 then (s,7)
  else (I4 s (gt kK (aJ s) (dk f,[],())),(fz (lA s f).1.1 s.1 (dk f)).2)
abbrev pG(s:ak.q)(f:ae.q):aq.q×Int:=eX (FH s (gI s f)) (lu f)
def eY(s:ak.q)(f:ae.q):ak.q×Int:=
 bif J (gI s f<0)then (s,7)else (I4 s ((aJ s).set (gI s f).toNat (pG s f).1),(pG s f).2)
def eT{l:List α}{i:Int}{d:α}(h:0<=i/\i<(l.length:Int)):l.getD i.toNat d∈l:=by
 have a:i.toNat<l.length:=by omega
 rw[uah,uaq a];exact udj a
def wA{s:ak.q}{id:Int}(h:¬ dw s id<0):0<=dw s id/\dw s id<((bW s).length:Int):=⟨by omega,(pY (by unfold dw at h;omega)).1⟩
def FI{s:ak.q}{id:Int}(h:¬ eS s id<0):0<=eS s id/\eS s id<((aJ s).length:Int):=⟨by omega,(pY (by unfold eS at h;omega)).1⟩
def Bi{s:ak.q}(a:bi s){id:Int}(h:¬ dw s id<0):cj (gc s (dw s id)).1:=a.2.2.2 _ (eT (wA h))
def qsz:cj iy:=⟨by decide,by decide,λc a=>by cases a⟩
def RU{s:ak.q}(a:bi s)(id:Int):cj (gO s id).1.1:=by unfold gO;split;rename_i h;exact Bi a (by omega);exact qsz
abbrev nA:Prop:=∀ y:aa [bn],gN [bn] y->az ([]:List Prop)
abbrev nF:Prop:=∀ y:aa [aq],gN [aq] y->az ([]:List Prop)
def S9:Ct:=⟨jE,[ak,i64],λx=>((fB x.2.1 x.1).1,(fB x.2.1 x.1).2,()),λx=>[bi x.2.1]⟩
def M3(s:ak.q)(f:ae.q):Fr (aa [ak,i64]):=
 let a:=gt ev (bW s) ((bH f).1,0,());Jb (J (aI s f>=0)) (Jv (s,8,())) (Jb (J (((List.length (bW s):Nat):Int)>=2000)) (Jv (s,2,())) (Jb ((bH f).2==0)
  (Jd (cj (bH f).1) (Jd (bf s.1) (Jd nA (Jd ((bW s).length<=100000) (Jv (mE s a,(fT (bH f).1 s.1).2,()))))))
  (Jd nA (Jd ((bW s).length<=100000) (Jv (mE s a,(bH f).2,()))))))
def qqy(s:ak.q)(f:ae.q)(a:bi s):(M3 s f).ok/\(M3 s f).get=((fB s f).1,(fB s f).2,()):=by unfold fB;cases b:J (aI s f>=0);refine aN b ?_;cases c:J (((List.length (bW s):Nat):Int)>=2000);refine aN rfl ?_;cases d:(bH f).2==0;refine aN rfl ?_;exact aw (λ_ _=>uT) (aw a.2.1 ⟨uT,rfl⟩);refine aV rfl ?_;exact aw (Sx _ _ _) (aw a.1 (aw (λ_ _=>uT) (aw a.2.1 ⟨uT,rfl⟩)));exact aV rfl ⟨uT,rfl⟩;exact aV b ⟨uT,rfl⟩
def qqz:ag prog 267 S9:=
 conv (aT Af f267 (fr:=λx=>M3 x.2.1 x.1) (ps:=jE)) _ _ (λ_ _ x _ _ h=>qqy x.2.1 x.1 h)
def S8:Ct:=⟨jE,[ak,i64],λx=>((fA x.2.1 x.1).1,(fA x.2.1 x.1).2,()),λx=>[bi x.2.1]⟩
def M2(s:ak.q)(f:ae.q):Fr (aa [ak,i64]):=
 let b:=((bW s).length:Int);let a:=(bW s).set (aI s f).toNat ((pH s f).1,(gc s (aI s f)).2.1,());Jb (J (aI s f<0)) (Jv (s,7,())) (Jd nF (Jb ((aJ s).any (lO f)) (Jv (s,10,())) (Jd (0<=aI s f/\aI s f<b) (Jd (cj (gc s (aI s f)).1)
  (Jb ((pH s f).2==0)
   (Jd (cj (pH s f).1) (Jd (bf s.1) (Jd ((bW s).length<=100000) (Jd (0<=aI s f/\aI s f<b) (Jv (mE s a,(fT (pH s f).1 s.1).2,()))))))
   (Jd ((bW s).length<=100000) (Jd (0<=aI s f/\aI s f<b) (Jv (mE s a,(pH s f).2,())))))))))
def qqw(s:ak.q)(f:ae.q)(b:bi s):(M2 s f).ok/\(M2 s f).get=((fA s f).1,(fA s f).2,()):=by unfold fA;cases c:J (aI s f<0);refine aN c ?_;have a:=uch c;refine aw (λ_ _=>uT) ?_;cases d:(aJ s).any (lO f);refine aN rfl ?_;refine aw (wA a) (aw (Bi b a) ?_);cases e:(pH s f).2==0;refine aN rfl ?_;exact aw b.2.1 (aw (wA a) ⟨uT,rfl⟩);refine aV rfl ?_;exact aw (ZC (Bi b a)) (aw b.1 (aw b.2.1 (aw (wA a) ⟨uT,rfl⟩)));exact aV rfl ⟨uT,rfl⟩;exact aV c ⟨uT,rfl⟩
def qqx:ag prog 279 S8:=
 conv (aT Af f279 (fr:=λx=>M2 x.2.1 x.1) (ps:=jE)) _ _ (λ_ _ x _ _ h=>qqw x.2.1 x.1 h)
def SC:Ct:=⟨jE,[ak,i64],λx=>((fD x.2.1 x.1).1,(fD x.2.1 x.1).2,()),λx=>[bi x.2.1]⟩
def M5(s:ak.q)(f:ae.q):Fr (aa [ak,i64]):=
 let b:=((bW s).length:Int);let a:=gc s (aI s f);Jb (J (aI s f<0)) (Jv (s,7,())) (Jd (0<=aI s f/\aI s f<b) (Jb (J (ej f>I6.wrap (4000000000000000000-a.2.1))) (Jv (s,5,()))
  (Jd ((bW s).length<=100000) (Jd (0<=aI s f/\aI s f<b) (Jv (mE s ((bW s).set (aI s f).toNat (a.1,I6.wrap (a.2.1+ej f),())),0,()))))))
def qq3(s:ak.q)(f:ae.q)(c:bi s):(M5 s f).ok/\(M5 s f).get=((fD s f).1,(fD s f).2,()):=by unfold fD;cases a:J (aI s f<0);refine aN a ?_;have b:=uch a;refine aw (wA b) ?_;cases d:J (ej f>I6.wrap (4000000000000000000-(gc s (aI s f)).2.1));refine aN rfl ?_;exact aw c.2.1 (aw (wA b) ⟨uT,rfl⟩);exact aV rfl ⟨uT,rfl⟩;exact aV a ⟨uT,rfl⟩
def qq4:ag prog 283 SC:=
 conv (aT Af f283 (fr:=λx=>M5 x.2.1 x.1) (ps:=jE)) _ _ (λ_ _ x _ _ h=>qq3 x.2.1 x.1 h)
def SB:Ct:=⟨jE,[ak,i64],λx=>((fl x.2.1 x.1).1,(fl x.2.1 x.1).2,()),λx=>[bi x.2.1]⟩
def M4(s:ak.q)(f:ae.q):Fr (aa [ak,i64]):=
 Jb (J (eS s (dk f).1>=0)) (Jv (s,8,())) (Jb (J (((List.length (aJ s):Nat):Int)>=2000)) (Jv (s,2,())) (Jb (!(lA s f).2) (Jv (s,7,()))
  (Jd (cj (lA s f).1.1) (Jd (bf s.1) (Jd nF (Jd ((aJ s).length<=100000) (Jv (I4 s (gt kK (aJ s) (dk f,[],())),(fz (lA s f).1.1 s.1 (dk f)).2,()))))))))
def qq1(s:ak.q)(f:ae.q)(a:bi s):(M4 s f).ok/\(M4 s f).get=((fl s f).1,(fl s f).2,()):=by unfold fl;cases b:J (eS s (dk f).1>=0);refine aN b ?_;cases c:J (((List.length (aJ s):Nat):Int)>=2000);refine aN rfl ?_;cases d : !(lA s f).2;refine aN rfl ?_;exact aw (RU a _) (aw a.1 (aw (λ_ _=>uT) (aw a.2.2.1 ⟨uT,rfl⟩)));exact aV rfl ⟨uT,rfl⟩;exact aV rfl ⟨uT,rfl⟩;exact aV b ⟨uT,rfl⟩
def qq2:ag prog 284 SB:=
 conv (aT Af f284 (fr:=λx=>M4 x.2.1 x.1) (ps:=jE)) _ _ (λ_ _ x _ _ h=>qq1 x.2.1 x.1 h)
def S7:Ct:=⟨jE,[ak,i64],λx=>((eY x.2.1 x.1).1,(eY x.2.1 x.1).2,()),λx=>[bi x.2.1]⟩
def M1(s:ak.q)(f:ae.q):Fr (aa [ak,i64]):=
 let a:=((aJ s).length:Int);Jb (J (gI s f<0)) (Jv (s,7,())) (Jd (0<=gI s f/\gI s f<a) (Jd ((aJ s).length<=100000) (Jd (0<=gI s f/\gI s f<a) (Jv (I4 s ((aJ s).set (gI s f).toNat (pG s f).1),(pG s f).2,())))))
def qqu(s:ak.q)(f:ae.q)(c:bi s):(M1 s f).ok/\(M1 s f).get=((eY s f).1,(eY s f).2,()):=by unfold eY;cases a:J (gI s f<0);refine aN a ?_;have b:=uch a;exact aw (FI b) (aw c.2.2.1 (aw (FI b) ⟨uT,rfl⟩));exact aV a ⟨uT,rfl⟩
def qqv:ag prog 296 S7:=
 conv (aT Af f296 (fr:=λx=>M1 x.2.1 x.1) (ps:=jE)) _ _ (λ_ _ x _ _ h=>qqu x.2.1 x.1 h)
abbrev ko:List PT:=[.d .unit,.d ae]
def OI(f:ae.q):ae.q:=(bF f,aM f,0,ej f,dA f,((0,0,()),(0,0,0,0,()),[],()),iv f,dk f,lu f,dB f,())
def wQ:Ct:=⟨ko,[ae],λx=>(OI x.2.1,()),λ_=>[]⟩
def zk5:ag prog 261 wQ:=
 conv (aT aL f261 (fr:=λx=>Jv (OI x.2.1,())) (ps:=ko) (rs:=[ae])) _ _ (λ_ _ _ _ _ _=>⟨uT,rfl⟩)
def OJ(f:ae.q):ae.q:=(bF f,aM f,0,ej f,dA f,ma f,(0,0,0,(0,0,0,0,()),[],0,()),dk f,lu f,dB f,())
def wR:Ct:=⟨ko,[ae],λx=>(OJ x.2.1,()),λ_=>[]⟩
def zk6:ag prog 262 wR:=
 conv (aT aL f262 (fr:=λx=>Jv (OJ x.2.1,())) (ps:=ko) (rs:=[ae])) _ _ (λ_ _ _ _ _ _=>⟨uT,rfl⟩)
def OK(f:ae.q):ae.q:=(bF f,aM f,0,0,dA f,ma f,iv f,dk f,lu f,dB f,())
def wS:Ct:=⟨ko,[ae],λx=>(OK x.2.1,()),λ_=>[]⟩
def zk7:ag prog 263 wS:=
 conv (aT aL f263 (fr:=λx=>Jv (OK x.2.1,())) (ps:=ko) (rs:=[ae])) _ _ (λ_ _ _ _ _ _=>⟨uT,rfl⟩)
def OL(f:ae.q):ae.q:=(bF f,aM f,iw f,ej f,dA f,ma f,iv f,(0,0,0,0,0,0,()),lu f,dB f,())
def wT:Ct:=⟨ko,[ae],λx=>(OL x.2.1,()),λ_=>[]⟩
def zk8:ag prog 264 wT:=
 conv (aT aL f264 (fr:=λx=>Jv (OL x.2.1,())) (ps:=ko) (rs:=[ae])) _ _ (λ_ _ _ _ _ _=>⟨uT,rfl⟩)
def OM(f:ae.q):ae.q:=(bF f,aM f,0,ej f,dA f,ma f,iv f,dk f,(0,0,0,()),dB f,())
def wV:Ct:=⟨ko,[ae],λx=>(OM x.2.1,()),λ_=>[]⟩
def zk9:ag prog 265 wV:=
 conv (aT aL f265 (fr:=λx=>Jv (OM x.2.1,())) (ps:=ko) (rs:=[ae])) _ _ (λ_ _ _ _ _ _=>⟨uT,rfl⟩)
def ON(f:ae.q):ae.q:=(bF f,aM f,iw f,ej f,dA f,ma f,iv f,dk f,lu f,(0,0,(0,0,()),0,0,0,0,0,()),())
def wW:Ct:=⟨ko,[ae],λx=>(ON x.2.1,()),λ_=>[]⟩
def zla:ag prog 266 wW:=
 conv (aT aL f266 (fr:=λx=>Jv (ON x.2.1,())) (ps:=ko) (rs:=[ae])) _ _ (λ_ _ _ _ _ _=>⟨uT,rfl⟩)
def OO(f:ae.q):ae.q:=(bF f,aM f,iw f,ej f,0,ma f,iv f,dk f,lu f,dB f,())
def wX:Ct:=⟨ko,[ae],λx=>(OO x.2.1,()),λ_=>[]⟩
def zlb:ag prog 314 wX:=
 conv (aT aL f314 (fr:=λx=>Jv (OO x.2.1,())) (ps:=ko) (rs:=[ae])) _ _ (λ_ _ _ _ _ _=>⟨uT,rfl⟩)
def qpw:List (FuncId×Ct):=[(64,Kl),(65,Ev),(66,t7),(67,qS),(68,Ay),(69,wK),(70,kw),(261,wQ),(262,wR),(263,wS),(264,wT),(265,wV),(266,wW),(314,wX)]
def qgh:Cx:=cx qpw []
def qgi:CxOK prog qgh:=aQ aH ⟨qwp,ql4,PH,KA,SG,SN,zh,zk5,zk6,zk7,zk8,zk9,zla,zlb,uT⟩ trivial
def Bj(x:ap [.d ae]):Fr (aa [.bool]):=
 let c:=x.1.2.2;let h:=c.2.2.2.2;let b:=((),x.1,());let a:=Kl.f (x.1.2.1,());let g:=bif bif (dd jb a.1.1).isNone then Z else J (x.1.1<1)then Z else J (x.1.1>292194);Jd (g=Y->a.1.1=1->az ([]++([]++[])++wQ.ok b)) (Jd (g=Y->a.1.1≠1->az [a.1.1=2->az ([]++([]++[])++wR.ok b),a.1.1≠2->az [a.1.1=3->az ([]++([]++[])++wS.ok b),a.1.1≠3->az [a.1.1=4->az ([]++([]++[])++wT.ok b),a.1.1≠4->az [a.1.1=5->az ([]++([]++[])++wV.ok b),a.1.1≠5->az [a.1.1=6->az ([]++([]++[])++wW.ok b),a.1.1≠6->az ((a.1.1=7)::([]++([]++[])++wX.ok b))]]]]]) (Jb (bif bif bif (dd jb a.1.1).isNone then Z else J (x.1.1<1)then Z else J (x.1.1>292194)then Z else !(Ev.f ((bif a.1.1==1 then wQ.f b else bif a.1.1==2 then wR.f b else bif a.1.1==3 then wS.f b else bif a.1.1==4 then wT.f b else bif a.1.1==5 then wV.f b else bif a.1.1==6 then wW.f b else wX.f b).1,())).1) (Jv (Y,())) (Jb (dd jb a.1.1==U 169) (Jv (bif bif J (c.1>=1)then J (c.1<=1000000000)else Y then (t7.f (c.2.2.2.1,())).1 else Y,())) (Jb (dd jb a.1.1==U 171) (Jv (bif bif bif J (c.1>=1)then J (c.1<=1000000000)else Y then (qS.f (h.1,())).1 else Y then h.1.1==x.1.1 else Y,())) (Jb (dd jb a.1.1==U 173) (Jv (bif bif bif J (c.1>=1)then J (c.1<=1000000000)else Y then J (c.2.1>=1)else Y then J (c.2.1<=1000000000000000)else Y,())) (Jb (dd jb a.1.1==U 174) (Jv (bif (Ay.f (h.2.1,())).1 then h.2.1.2.2.2.2.1==x.1.1 else Y,())) (Jb (dd jb a.1.1==U 176) (Jv (bif bif bif J (c.1>=1)then J (c.1<=1000000000)else Y then (wK.f (h.2.2.1,())).1 else Y then h.2.2.1.1==x.1.1 else Y,())) (Jb (dd jb a.1.1==U 178) (Jv ((kw.f (h.2.2.2.1,())).1,())) (Jv (bif J (c.2.2.1>=1)then J (c.2.2.1<=x.1.1)else Y,()))))))))))
def qud:ag prog 45 (bg [.d ae] [.bool] Bj):=
 aT qgi f45
def se(f:ae.q):ae.q:=
 bif aM f==1 then OI f else bif aM f==2 then OJ f else bif aM f==3 then OK f else bif aM f==4 then OL f else bif aM f==5 then OM f else bif aM f==6 then ON f else OO f
def md(f:ae.q):Bool:=J (iw f>=1)&&J (iw f<=1000000000)
def pp(f:ae.q):Bool:=
 bif aM f==1 then md f&&i9 (ma f)else bif aM f==2 then (md f&&fk (iv f))&&(iv f).1==bF f
  else bif aM f==3 then (md f&&J (ej f>=1))&&J (ej f<=1000000000000000)else bif aM f==4 then nN (dk f)&&(dk f).2.2.2.2.1==bF f
  else bif aM f==5 then (md f&&lc (lu f))&&(lu f).1==bF f else bif aM f==6 then gG (dB f)else J (dA f>=1)&&J (dA f<=bF f)
def cG(f:ae.q):Bool:=
 (J (1<=aM f)&&J (aM f<=7))&&((J (1<=bF f)&&J (bF f<=292194))&&(wE (se f)&&pp f))
def gQ(a b:Bool):(bif a then b else Y)=(a&&b):=by cases a<;>rfl
def wF(a b:Bool):(bif a then Z else b)=(a || b):=by cases a<;>rfl
def Yx{k:Int}(h:1<=k/\k<=7)(a:k≠1)(b:k≠2)(c:k≠3)(d:k≠4)(e:k≠5)(f:k≠6):k=7:=by omega
def qx4{f:ae.q}(h:aM f<1\/aM f>7):(Bj (f,())).ok/\(Bj (f,())).get=(cG f,()):=by
 have d:=Ni h;have c:cG f=false:=by
  unfold cG;rcases h with h|h
  rw[show J (1<=aM f)=Y from udw (by omega)];rfl;rw[show J (aM f<=7)=Y from udw (by omega),uee];rfl
 rw[c];have b:(bif bif (dd jb (aM f)).isNone then Z else J (bF f<1)then Z else J (bF f>292194))=true:=by rw[d];rfl
 refine aw (λa=>absurd (b.symm.trans a) (by decide)) (aw (λa=>absurd (b.symm.trans a) (by decide)) (aV ?_ ⟨uT,rfl⟩));show(bif (bif bif (dd jb (aM f)).isNone then Z else J (bF f<1)then Z else J (bF f>292194))then Z else _)=Z;rw[b];rfl
def qx5{f:ae.q}(h:1<=aM f/\aM f<=7):(Bj (f,())).ok/\(Bj (f,())).get=(cG f,()):=by
 have t:(bif bif (dd jb (aM f)).isNone then Z else J (bF f<1)then Z else J (bF f>292194))=(J (bF f<1) || J (bF f>292194)):=by rcases qs h with e|e|e|e|e|e|e<;>rw[e]<;>exact wF _ _
 refine aw (λ_ _=>uT) (aw (λ_=>?_) ?_);show aM f≠1->(_/\_);intro m;exact⟨λ_=>uT,λn=>⟨λ_=>uT,λo=>⟨λ_=>uT,λp=>⟨λ_=>uT,λr=>⟨λ_=>uT,λs=>Yx h m n o p r s⟩⟩⟩⟩⟩;have v:(bif aM f==1 then wQ.f ((),f,())else bif aM f==2 then wR.f ((),f,())else bif aM f==3 then wS.f ((),f,())else bif aM f==4 then wT.f ((),f,())else bif aM f==5 then wV.f ((),f,())else bif aM f==6 then wW.f ((),f,())else wX.f ((),f,()))=(se f,()):=by unfold se;rcases qs h with e|e|e|e|e|e|e<;>rw[e]<;>rfl
 have u:(J (1<=aM f)&&J (aM f<=7))=true:=by rw[ueb h.1,ueb h.2];rfl
 have a:(bif bif bif (dd jb (aM f)).isNone then Z else J (bF f<1)then Z else J (bF f>292194)then Z else !(Ev.f ((bif aM f==1 then wQ.f ((),f,())else bif aM f==2 then wR.f ((),f,())else bif aM f==3 then wS.f ((),f,())else bif aM f==4 then wT.f ((),f,())else bif aM f==5 then wV.f ((),f,())else bif aM f==6 then wW.f ((),f,())else wX.f ((),f,())).1,())).1)
   = !((J (1<=bF f)&&J (bF f<=292194))&&wE (se f)):=by
  rw[v,t,wF];rw[Bool.not_and,Bool.not_and,<- decide_not,<- decide_not];congr 2;exact udi.mpr (by omega);exact udi.mpr (by omega)
 cases b:(J (1<=bF f)&&J (bF f<=292194))&&wE (se f);have c:cG f=false:=by unfold cG;rw[<- ued (J (1<=bF f)&&_),b,Bool.false_and,uee]
 rw[c];exact aV (a.trans (by rw[b];rfl)) ⟨uT,rfl⟩
 ·have c:cG f=pp f:=by unfold cG;rw[<- ued (J (1<=bF f)&&_),b,u,uem,uem]
  rw[c];refine aN (a.trans (by rw[b];rfl)) ?_;obtain⟨x,k,id,d,g,z,ch,y,w,A,_⟩:=f;have i:=qs h;rcases i with e|e|e|e|e|e|e
  all_goals
   have l:=e;subst l
  exact aV rfl ⟨uT,by rw[gQ,gQ];rfl⟩;exact aN rfl (aV rfl ⟨uT,by rw[gQ,gQ,gQ];rfl⟩);exact aN rfl (aN rfl (aV rfl ⟨uT,by rw[gQ,gQ,gQ];rfl⟩));exact aN rfl (aN rfl (aN rfl (aV rfl ⟨uT,by rw[gQ];rfl⟩)));exact aN rfl (aN rfl (aN rfl (aN rfl (aV rfl ⟨uT,by rw[gQ,gQ,gQ];rfl⟩))));exact aN rfl (aN rfl (aN rfl (aN rfl (aN rfl (aV rfl ⟨uT,rfl⟩)))));exact aN rfl (aN rfl (aN rfl (aN rfl (aN rfl (aN rfl ⟨uT,by rw[gQ];rfl⟩)))))
def E4:Ct:=⟨[.d ae],[.bool],λx=>(cG x.1,()),λ_=>[]⟩
def V5:ag prog 45 E4:=conv qud _ _ (λ_ _ x _ _ _=>by by_cases h:1<=aM x.1/\aM x.1<=7;exact qx5 h;exact qx4 (by omega))
section
open Go.Shelf Go.Lib
def Uv:List (Int×TypeId):=[(1,200),(2,201),(3,202),(4,203),(5,204),(6,205),(7,206)]
def N5(k:Int)(v:Value):Value:=match dd Uv k with
 |some a=>.iface a v
 |none=>.nilIface
def Xl(v:Value):Array Value:=#[.nilIface,.iface 200 v,.iface 201 v,.iface 202 v,.iface 203 v,.iface 204 v,.iface 205 v,.iface 206 v]
def za2(k:Int)(a:1<=k/\k<=7)(v:Value)(w:World):(Instr.index 207 (.agg (Xl v)) (.int .i64 k)).run prog w=.ok (N5 k v) w:=by rcases qs a with rfl|rfl|rfl|rfl|rfl|rfl|rfl<;>kernel_rfl
def zbb(k:Int)(h:1<=k/\k<=7)(a:Array Value)(l:a.size=39)(d:a[1]?= U (.int .i64 k))(R:Ending->World->Prop)(w:World)(e:∀ o,R (.returned (N5 k (.agg a))) (w.alloc o)):Calls prog 57 #[.agg a] w R:=by
 have b:(w.alloc (.cells a 46)).heap[w.heap.size]?= U (.cells a 46 (0,0)):=World.alloc_heap_new w _;have i:(w.alloc (.cells a 46)).rangeAt w.heap.size 0 a.toList:=λj v m=>by rw[tE b];simpa using m
 have f:(w.alloc (.cells a 46)).cell? ⟨w.heap.size,1,V⟩=U (.int .i64 k):=by rw[tE b];exact d
 have g:(prog.info? 46).map (·.size)=U a.toList.length:=by rw[ubu,l];kernel_rfl
 have c:=za2 k h (.agg a);unfold Xl at c
 go_enter func57,ntmps57
 go_wp2_with (first|(refine wpList_load_mid rfl 46 _ rfl w.heap.size 0 rfl a.toList _ i underlying46 rfl g ?_)|simp only[c,f,ubf])
 exact e _
def SH:Ct:=⟨[.d ae],[.ic Uv ae],λx=>((aM x.1,x.1),()),λx=>[1<=aM x.1/\aM x.1<=7]⟩
def zba:ag prog 57 SH:=by refine⟨enters_of func57 (by kernel_rfl) rfl,λw F m p c i d=>?_⟩;obtain⟨f,_⟩:=m;obtain⟨v,l,rfl,a,g⟩:=i;cases g;have a:bJ w F ae f v:=a;obtain⟨b,rfl⟩:=a.2.1.1 rfl;have k:b.size=39:=a.1;have e:b[1]?= U (.int .i64 (aM f)):=a.2.2.2.1.1;refine zbb (aM f) d b k e _ w λo=>Z2 c ?_;unfold N5;split;rename_i n h;exact W9 h a;rename_i h;exact Yq h
end
def qgj:Cx:=cx [(45,E4)] []
def qgk:CxOK prog qgj:=aQ aH ⟨V5,uT⟩ trivial
def jv(s:ak.q)(f:ae.q):Int:=bif !(cG f)then 1 else bif J (bF f<=kg s)then 12 else 0
def Kj:Ct:=⟨[.d ak,.d ae],[i64],λx=>(jv x.1 x.2.1,()),λ_=>[]⟩
def zge:ag prog 56 Kj:=
 conv (aT qgk f56 (fr:=λx=>Jb (!(cG x.2.1)) (Jv (1,())) (Jb (J (bF x.2.1<=kg x.1)) (Jv (12,())) (Jv (0,())))) (ps:=Kj.ps) (rs:=[i64])) _ _ (λ_ _ x _ _ _=>by obtain⟨s,f,_⟩:=x;show _/\_=(jv s f,());unfold jv;cases a : !(cG f);refine aN (by first|rfl|exact a) ?_;cases b:J (bF f<=kg s);exact aN (by first|rfl|exact b) ⟨uT,rfl⟩;exact aV (by first|rfl|exact b) ⟨uT,rfl⟩;exact aV (by first|rfl|exact a) ⟨uT,rfl⟩)
def qpx:List (FuncId×Ct):=[(56,Kj),(57,SH),(267,S9),(279,S8),(283,SC),(284,SB),(296,S7),(298,SD),(313,SA)]
def qgl:Cx:=cx qpx []
def qgm:CxOK prog qgl:=aQ aH ⟨zge,zba,qqz,qqx,qq4,qq2,qqv,qq5,qq0,uT⟩ trivial
abbrev vD:ak.q:=(([],()),[],[],[],0,())
def kB(s:ak.q)(f:ae.q):aa [ak,i64]:=bif aM f==1 then ((fB s f).1,(fB s f).2,())else bif aM f==2 then ((fA s f).1,(fA s f).2,())else bif aM f==3 then ((fD s f).1,(fD s f).2,())else bif aM f==4 then ((fl s f).1,(fl s f).2,())else bif aM f==5 then ((eY s f).1,(eY s f).2,())else bif aM f==6 then ((fE s f).1,(fE s f).2,())else ((gi s f).1,(gi s f).2,())
def gU(s:ak.q)(f:ae.q):ak.q×Int:=((kB s f).1,(kB s f).2.1)
def dq(s:ak.q)(f:ae.q):ak.q×Int:=
 bif jv s f != 0 then (vD,jv s f)else bif (gU s f).2 != 0 then (vD,(gU s f).2)else ((gU s f).1,0)
abbrev RL:List PT:=[.d ak,.d ae]
def tx:Ct:=⟨RL,[ak,i64],λx=>((dq x.1 x.2.1).1,(dq x.1 x.2.1).2,()),λx=>[bi x.1]⟩
def M0(s:ak.q)(f:ae.q):Fr (aa [ak,i64]):=
 Jb (jv s f != 0) (Jv (vD,jv s f,())) (Jd (1<=aM f/\aM f<=7) (Jd (aM f=1->az [bi s]) (Jd (aM f≠1->az [aM f=2->az [bi s],aM f≠2->az [aM f=3->az [bi s],aM f≠3->az [aM f=4->az [bi s],aM f≠4->az [aM f=5->az [bi s],aM f≠5->az [aM f=6->az ([]:List Prop),aM f≠6->az [aM f=7]]]]]])
  (Jb ((kB s f).2.1 != 0) (Jv (vD,(kB s f).2.1,())) (Jv ((kB s f).1,0,()))))))
def NQ{s:ak.q}{f:ae.q}(h:jv s f=0):cG f=Z/\kg s<bF f:=by unfold jv at h;cases a:cG f;rw[a]at h;have h:(1:Int)=0:=h;exact absurd h (by decide);rw[a]at h;refine⟨rfl,?_⟩;by_cases b:bF f<=kg s;rw[ueb b]at h;exact absurd h (by decide);omega
def BG{f:ae.q}(h:cG f=Z):1<=aM f/\aM f<=7:=by unfold cG at h;rw[udd,udd]at h;exact⟨ucx h.1.1,ucx h.1.2⟩
def qq6(s:ak.q)(f:ae.q)(a:bi s):(M0 s f).ok/\(M0 s f).get=((dq s f).1,(dq s f).2,()):=by
 unfold dq;cases b:jv s f != 0;refine aN (by first|rfl|exact b) ?_;have e:jv s f=0:=by simpa using b
 have d:=BG (NQ e).1;refine aw d (aw (λ_=>a) (aw (λg=>?_) ?_));exact⟨λ_=>a,λh=>⟨λ_=>a,λi=>⟨λ_=>a,λk=>⟨λ_=>a,λl=>⟨λ_=>uT,λm=>Yx d g h i k l m⟩⟩⟩⟩⟩;cases c:(gU s f).2 != 0;exact aN (by first|rfl|exact c) ⟨uT,rfl⟩;exact aV (by first|rfl|exact c) ⟨uT,rfl⟩;exact aV (by first|rfl|exact b) ⟨uT,rfl⟩
def Lj:ag prog 34 tx:=
 conv (aT qgm f34 (fr:=λx=>M0 x.1 x.2.1) (ps:=RL) (rs:=[ak,i64])) _ _ (λ_ _ x _ _ h=>qq6 x.1 x.2.1 h)
def qgn:Cx:=cx [(34,tx),(35,A7)] []
def Q6:CxOK prog qgn:=aQ aH ⟨Lj,Yo,uT⟩ trivial
abbrev vm:Pt:=⟨41,0,⟨[(22,.d i64),(21,.d i64),(20,.d (.sl ae)),(1,.d i64)],[.x 4 59 ak,.r 4 4 0,.x 6 59 ak,.r 6 6 0]⟩,⟨[],[.x 4 59 ak,.r 4 4 0,.x 6 59 ak,.r 6 6 0]⟩,⟨[],[]⟩⟩
abbrev Dd:Type:=ap [.d i64]×dj [.x 4 59 ak,.r 4 4 0,.x 6 59 ak,.r 6 6 0]
def oX(e:ae.q)(s:Dd):Fr Dd:=
 let a:=tx.f (s.2.2.1,e,());Jb (J (e.1>s.1.1)) (Jv s) (Jd (bi s.2.2.1) (Jb (a.2.1==0) (Jv ((s.1.1,()),s.2.1,a.1,())) (Jv s)))
def sE(x:vm.M.X):Int×List ae.q×Dd:=(x.1.1,x.1.2.2.1,x.1.2.2.2,x.2)
def VZ(x:vm.M.X):Prop:=x.1.2.1=(x.1.2.2.1.length:Int)
def YX(s:Dd):vm.E.X:=((),s.2.1,s.2.2.1,())
def ze1:af prog (.loop (au f16 0)) vm.M vm (FF oX sE VZ YX):=
 zT Q6 (λ_ _=>.n .o) ae.j (λx=>x.1.2.1) (λx s=>((I6.wrap (x.1.1+1),x.1.2.1,x.1.2.2.1,s.1),s.2)) (λ_ h=>h)
def zk1(y:vm.M.X):Dd:=ft oX ((sE y).2.1.drop (sE y).1.toNat) (sE y).2.2
def zht(y:vm.M.X):Prop:=kQ oX ((sE y).2.1.drop (sE y).1.toNat) (sE y).2.2
def qu2(x:ap [.d aE,.d i64]):Fr (aa [ak,i64]):=
 let a:=((0,((List.length x.1.2.1):Int),x.1.2.1,x.2.1,()),(([],()),[],[],[],0,()),(A7.f ((x.1.1.1,()),())).1,());Jb (J (((List.length x.1.2.1):Int)>2000)) (Jv ((([],()),[],[],[],0,()),2,())) (Jd (InL (VZ a) (sE a)) (Jd (zht a) (Jv ((YX (zk1 a)).2.2.1,0,()))))
def qu3:ag prog 16 (bg [.d aE,.d i64] [ak,i64] qu2):=
 cZ Q6 ze1
def qz9{i:Int}{l:List α}{x a:α}(h:a∈je i l [x]):a∈l\/a=x:=by
 unfold je at h;rw[udt,udt]at h;rcases h with (h|h)|h
 exact .inl (ubq h);exact .inr (ucf.1 h);exact .inl (ubr h)
def qz8(i:Int)(l:List α)(x:α):(je i l [x]).length=l.length+1:=by unfold je;rw[ub6,ub6,uc6,uc7,ua7];omega
def o9{g:α->Int}{l:List α}{x a:α}(h:a∈gt g l x):a∈l\/a=x:=qz9 h
def Cy(g:α->Int)(l:List α)(x:α):(gt g l x).length=l.length+1:=qz8 _ l x
def qd{l:List α}{x a:α}(h:a∈l.set i x):a∈l\/a=x:=uap h
def L9{t:bh.q}(h:bf t):bi (hZ t):=⟨h,ufj _,ufj _,λa b=>by cases b⟩
def qs3{s:ak.q}(f:ae.q)(h:bi s):bi (fB s f).1:=by
 unfold fB;cases e:J (aI s f>=0);cases c:J (((List.length (bW s):Nat):Int)>=2000);have d:=uch c;refine⟨h.1,?_,h.2.2.1,λa b=>?_⟩;show(gt ev (bW s) ((bH f).1,0,())).length<=100000;rw[Cy];omega;rcases o9 b with b|b
 exact h.2.2.2 a b;rw[b];exact Sx _ _ _;exact h;exact h
def UH{s:ak.q}(i:Nat)(x:bn.q)(h:bi s)(c:cj x.1):bi (mE s ((bW s).set i x)):=by
 refine⟨h.1,?_,h.2.2.1,λa b=>?_⟩;show((bW s).set i x).length<=100000;rw[udp];exact h.2.1;rcases qd b with b|b
 exact h.2.2.2 a b;rw[b];exact c
def qs2{s:ak.q}(f:ae.q)(h:bi s):bi (fA s f).1:=by unfold fA;cases a:J (aI s f<0);cases b:(aJ s).any (lO f);exact UH _ _ h (ZC (Bi h (uch a)));exact h;exact h
def qs9{s:ak.q}(f:ae.q)(h:bi s):bi (fD s f).1:=by unfold fD;cases a:J (aI s f<0);cases b:J (ej f>I6.wrap (4000000000000000000-(gc s (aI s f)).2.1));exact UH _ _ h (Bi h (uch a));exact h;exact h
def qs5{s:ak.q}(f:ae.q)(h:bi s):bi (fl s f).1:=by unfold fl;cases c:J (eS s (dk f).1>=0);cases a:J (((List.length (aJ s):Nat):Int)>=2000);have b:=uch a;cases d : !(lA s f).2;refine⟨h.1,h.2.1,?_,h.2.2.2⟩;show(gt kK (aJ s) (dk f,[],())).length<=100000;rw[Cy];omega;exact h;exact h;exact h
def qs1{s:ak.q}(f:ae.q)(h:bi s):bi (eY s f).1:=by unfold eY;cases a:J (gI s f<0);refine⟨h.1,h.2.1,?_,h.2.2.2⟩;show((aJ s).set (gI s f).toNat (pG s f).1).length<=100000;rw[udp];exact h.2.2.1;exact h
def qta{s:ak.q}(f:ae.q)(h:bi s):bi (fE s f).1:=by unfold fE;cases oZ s (dB f);cases J (((List.length (bT s):Nat):Int)>=100);cases jV (bT s) (dB f);exact⟨h.1,h.2.1,h.2.2.1,h.2.2.2⟩;exact h;exact h;exact h
def qs4{s:ak.q}(f:ae.q)(h:bi s):bi (gi s f).1:=by unfold gi;cases J (dA f<=kg s);exact⟨h.1,h.2.1,h.2.2.1,h.2.2.2⟩;exact h
def UF{s:ak.q}(f:ae.q)(h:bi s):bi (gU s f).1:=by show bi (kB s f).1;unfold kB;cases aM f==1;cases aM f==2;cases aM f==3;cases aM f==4;cases aM f==5;cases aM f==6;exact qs4 f h;exact qta f h;exact qs1 f h;exact qs5 f h;exact qs9 f h;exact qs2 f h;exact qs3 f h
def l5(s:ak.q)(f:ae.q):ak.q:=bif (dq s f).2==0 then (dq s f).1 else s
def Dp{s:ak.q}{f:ae.q}(h:(dq s f).2=0):jv s f=0/\(gU s f).2=0/\(dq s f).1=(gU s f).1:=by
 unfold dq at h |-;cases a:jv s f != 0;have d:jv s f=0:=by simpa using a
 rw[a]at h;cases b:(gU s f).2 != 0;exact⟨d,by simpa using b,rfl⟩;rw[b]at h;have c:(gU s f).2=0:=h;rw[c]at b;exact absurd b (by decide);rw[a]at h;have c:jv s f=0:=h;rw[c]at a;exact absurd a (by decide)
def qs6{s:ak.q}(f:ae.q)(h:bi s):bi (l5 s f):=by unfold l5;cases a:(dq s f).2==0;exact h;show bi (dq s f).1;rw[(Dp (ufv a)).2.2];exact UF f h
def lD(b:Int)(s:ak.q)(f:ae.q):ak.q:=bif J (bF f>b)then s else l5 s f
def UI{b:Int}{s:ak.q}(f:ae.q)(h:bi s):bi (lD b s f):=by unfold lD;cases J (bF f>b);exact qs6 f h;exact h
def kF(b:Int)(l:List ae.q)(s:ak.q):ak.q:=l.foldl (lD b) s
def UG{b:Int}:(l:List ae.q) -> {s:ak.q}->bi s->bi (kF b l s)
 |[],_,h=>h
 |f::l,_,h=>UG l (UI f h)
def dW(j:aE.q)(b:Int):ak.q×Int:=bif J (((List.length (α:=ae.q) j.2.1:Nat):Int)>2000)then (vD,2)else (kF b j.2.1 (hZ j.1),0)
def zg9(e:ae.q)(b:Int)(q s:ak.q)(d:bi s):(oX e ((b,()),q,s,())).ok/\(oX e ((b,()),q,s,())).get=((b,()),q,lD b s e,()):=by unfold lD;cases a:J (bF e>b);refine aN (by first|rfl|exact a) (aw d ?_);unfold l5;cases c:(dq s e).2==0;exact aN (by first|rfl|exact c) ⟨uT,rfl⟩;exact aV (by first|rfl|exact c) ⟨uT,rfl⟩;exact aV (by first|rfl|exact a) ⟨uT,rfl⟩
def Yy(b:Int)(q:ak.q):(l:List ae.q)->(s:ak.q)->bi s->kQ oX l ((b,()),q,s,())/\ft oX l ((b,()),q,s,())=((b,()),q,kF b l s,())
 |[],_,_=>⟨uT,rfl⟩
 |e::l,s,d=>by have a:=zg9 e b q s d;have c:=Yy b q l (lD b s e) (UI e d);refine⟨⟨a.1,?_⟩,?_⟩;rw[a.2];exact c.1;show ft oX l (oX e ((b,()),q,s,())).get=_;rw[a.2];exact c.2
def wN:Ct:=⟨[.d aE,.d i64],[ak,i64],λx=>((dW x.1 x.2.1).1,(dW x.1 x.2.1).2,()),λx=>[bf x.1.1]⟩
def Og:ag prog 16 wN:=conv qu3 _ _ (λ_ _ x _ _ a=>by obtain⟨j,b,_⟩:=x;have a:bf j.1:=a;show _/\_=((dW j b).1,(dW j b).2,());unfold dW;cases h:J (((List.length (α:=ae.q) j.2.1:Nat):Int)>2000);have d:=uch h;have c:=Yy b vD (List.drop 0 j.2.1) (hZ j.1) (L9 a);refine aN (by first|rfl|exact h) (aw ⟨rfl,ufe _,ub4 _,?_⟩ (aw c.1 ⟨uT,?_⟩));show((List.length (α:=ae.q) j.2.1:Nat):Int)<=_;omega;show((ft oX (List.drop 0 j.2.1) ((b,()),vD,hZ j.1,())).2.2.1,0,())=_;rw[c.2,ueg];rfl;exact aV (by first|rfl|exact h) ⟨uT,rfl⟩)
def qgo:Cx:=cx [(71,mK ar)] []
def Q7:CxOK prog qgo:=aQ aH ⟨AW,uT⟩ trivial
def qua(x:ap [.d ae]):Fr (aa [ae]):=
 let c:=mK ar;let a:=x.1.2.2.2.2.2;let b:=a.2.1.2.2;Jd (List.length a.1.2.2.1<=1000000) (Jd (List.length b.2.2.1<=1000000) (Jv ((x.1.1,x.1.2.1,x.1.2.2.1,x.1.2.2.2.1,x.1.2.2.2.2.1,(a.1.1,a.1.2.1,(c.f (a.1.2.2.1,())).1,()),(a.2.1.1,a.2.1.2.1,b.1,b.2.1,(c.f (b.2.2.1,())).1,b.2.2.2.1,()),a.2.2.1,a.2.2.2.1,a.2.2.2.2.1,()),())))
def qub:ag prog 46 (bg [.d ae] [ae] qua):=
 aT Q7 f46
def qt4(x:ap [.d aE]):Fr (aa [i64]):=
 let a:=((0,((List.length x.1.2.1):Int),x.1.2.1,0,()),());Jd (InL (VW a) (s9 a)) (Jd (zhq a) (Jv ((YU (zky a)).1.1,())))
def qt5:ag prog 44 (bg [.d aE] [i64] qt4):=
 cZ Q7 zd8
def fo(f:ae.q):Prop:=(ma f).2.2.1.length<=1000000/\(iv f).2.2.2.2.1.length<=1000000
def E3:Ct:=⟨[.d ae],[ae],λx=>(x.1,()),λx=>[fo x.1]⟩
def qwv:ag prog 46 E3:=conv qub _ _ (λ_ _ x _ _ h=>aw h.1 (aw h.2 ⟨uT,rfl⟩))
def AU(d:Int)(f:ae.q):Int:=bif aM f==7 then (if d<dA f then dA f else d)else d
def KK(l:List ae.q):Int:=l.foldl AU 0
def qol(e:ae.q)(d:Int):(oV e ((d,()),())).ok/\(oV e ((d,()),())).get=((AU d e,()),()):=by unfold AU;cases h:aM e==7;exact aN (by first|rfl|exact h) ⟨uT,rfl⟩;exact aV (by first|rfl|exact h) ⟨uT,rfl⟩
def Tq:(l:List ae.q)->(d:Int)->kQ oV l ((d,()),())/\ft oV l ((d,()),())=((l.foldl AU d,()),())
 |[],_=>⟨uT,rfl⟩
 |e::l,d=>by have a:=qol e d;have b:=Tq l (AU d e);refine⟨⟨a.1,?_⟩,?_⟩;rw[a.2];exact b.1;show ft oV l (oV e ((d,()),())).get=_;rw[a.2];exact b.2
def JX:Ct:=⟨[.d aE],[i64],λx=>(KK x.1.2.1,()),λ_=>[]⟩
def Xf{j:aE.q}(h:bJ w F aE j v):((List.length (α:=ae.q) j.2.1:Nat):Int)<=9223372036854775807:=by have a:List.length (α:=ae.q) j.2.1<=maxLen:=(aG.wf h.2.2).2.1.1;unfold maxLen at a;omega
def qsm:ag prog 44 JX:=conv qt5 _ _ (λw F x e b _=>by obtain⟨j,_⟩:=x;obtain⟨v,d,rfl,c,_⟩:=b;have a:=Tq (List.drop 0 j.2.1) 0;refine aw ⟨rfl,ufe _,ub4 _,Xf c⟩ (aw a.1 ⟨uT,?_⟩);show((ft oV (List.drop 0 j.2.1) ((0,()),())).1.1,())=_;rw[a.2,ueg];rfl)
def qgp:Cx:=cx [(46,E3),(44,JX),(45,E4)] []
def IL:CxOK prog qgp:=aQ aH ⟨qwv,qsm,V5,uT⟩ trivial
abbrev vl:Pt:=⟨28,0,⟨[(11,.d i64),(10,.d i64),(9,.d (.sl ae)),(1,.d i64)],[.x 2 27 aE,.r 2 2 0,.x 4 27 aE,.r 4 4 0,.o 5 46 ae]⟩,⟨[],[.x 2 27 aE,.r 2 2 0,.x 4 27 aE,.r 4 4 0,.o 5 46 ae]⟩,⟨[],[]⟩⟩
abbrev Dc:Type:=ap [.d i64]×dj [.x 2 27 aE,.r 2 2 0,.x 4 27 aE,.r 4 4 0,.o 5 46 ae]
def n8(e:ae.q)(s:Dc):Fr Dc:=
 let b:=s.2.2.2.1;let a:=E3.f (e,());Jb (J (e.1<=s.1.1)) (Jd (fo e) (Jd (b.length + [a.1].length<=maxLen/\(b.length + [a.1].length)*344<=140737488355328) (Jv ((s.1.1,()),s.2.1,s.2.2.1,b++[a.1],())))) (Jv s)
def sD(x:vl.M.X):Int×List ae.q×Dc:=(x.1.1,x.1.2.2.1,x.1.2.2.2,x.2)
def VY(x:vl.M.X):Prop:=x.1.2.1=(x.1.2.2.1.length:Int)
def YW(s:Dc):vl.E.X:=((),s.2.1,s.2.2.1,s.2.2.2.1,())
def zeo:af prog (.loop (au f29 0)) vl.M vl (FF n8 sD VY YW):=
 zT IL (λ_ _=>.n .o) ae.j (λx=>x.1.2.1) (λx s=>((I6.wrap (x.1.1+1),x.1.2.1,x.1.2.2.1,s.1),s.2)) (λ_ h=>h)
def zk0(y:vl.M.X):Dc:=ft n8 ((sD y).2.1.drop (sD y).1.toNat) (sD y).2.2
def zhs(y:vl.M.X):Prop:=kQ n8 ((sD y).2.1.drop (sD y).1.toNat) (sD y).2.2
def LN(x:ap [.d aE,.d ae]):Fr (aa [aE,i64]):=
 let k:=JX.f (x.1,());let g:=(([],()),[],());let c:=E3.f (x.2.1,());let b:=List.drop ((0:Int)).toNat x.1.2.1;let a:=((List.length x.1.2.1):Int);let h:=List.take (a-(0:Int)).toNat b;Jb (!(E4.f (x.2.1,())).1) (Jv (g,1,())) (Jb (J (a>=2000)) (Jv (g,2,())) (Jd (J (a>0)=Z->0<=I6.wrap (a-1)/\I6.wrap (a-1)<a) (Jb (bif J (a>0)then J (x.2.1.1<(List.getD x.1.2.1 (I6.wrap (a-1)).toNat ae.j).1)else Y) (Jv (g,4,())) (Jb (bif J (x.2.1.1<=k.1)then Z else bif x.2.1.2.1==7 then J (x.2.1.2.2.2.2.1<=k.1)else Y) (Jv (g,12,())) (Jd (0<=(0:Int)/\(0:Int)<=a/\a<=a/\a=a) (Jd (fo x.2.1) (Jd (0 < [c.1].length/\h.length + [c.1].length<=maxLen/\(h.length + [c.1].length)*344<=140737488355328) (Jv (((x.1.1.1,()),List.take (a-(0:Int)).toNat b++[c.1],()),0,())))))))))
def quc:ag prog 19 (bg [.d aE,.d ae] [aE,i64] LN):=
 aT IL f19
def LO(x:ap [.d aE,.d i64]):Fr (aa [aE]):=
 let a:=((0,((List.length x.1.2.1):Int),x.1.2.1,x.2.1,()),x.1,(([],()),[],()),[],());let b:=YW (zk0 a);Jd (InL (VY a) (sD a)) (Jd (zhs a) (Jv (((b.2.1.1.1,()),b.2.2.2.1,()),())))
def que:ag prog 29 (bg [.d aE,.d i64] [aE] LO):=
 cZ IL zeo
abbrev ov:aE.q:=(([],()),[],())
def rJ(l:List ae.q)(f:ae.q):Bool:=match l.getLast? with
 |some g=>J (bF f<bF g)
 |none=>Y
def HH(l:List ae.q)(f:ae.q):Bool:=bif J (bF f<=KK l)then Z else bif aM f==7 then J (dA f<=KK l)else Y
def j5(j:aE.q)(f:ae.q):aE.q×Int:=
 bif !(cG f)then (ov,1)else bif J (((List.length (α:=ae.q) j.2.1:Nat):Int)>=2000)then (ov,2)else bif rJ j.2.1 f then (ov,4)else bif HH j.2.1 f then (ov,12)else ((j.1,j.2.1++[f],()),0)
def JY:Ct:=⟨[.d aE,.d ae],[aE,i64],λx=>((j5 x.1 x.2.1).1,(j5 x.1 x.2.1).2,()),λx=>[fo x.2.1]⟩
def Xx(l:List ae.q)(f:ae.q)(b:l.length<2000):(bif J (((List.length l:Nat):Int)>0)then J (bF f<(List.getD l (I6.wrap (((List.length l:Nat):Int)-1)).toNat ae.j).1)else Y)=rJ l f:=by
 unfold rJ;cases l with
 |nil=>rfl
 |cons a r=>
  have c:I6.wrap (((a::r).length:Int)-1)=r.length:=by rw[IntWalk.i64_in _ (by simp at b |-;omega)];simp
  rw[c,ueb (by simp:(((a::r).length:Nat):Int)>0),uao,uah];have:((r.length:Int)).toNat=(a::r).length-1:=by simp
  rw[this,uaq (by simp)];rfl
def zbq{l:List ae.q}(a:l.length<2000):J (((List.length l:Nat):Int)>0)=Z->0<=I6.wrap (((List.length l:Nat):Int)-1)/\I6.wrap (((List.length l:Nat):Int)-1)<((List.length l:Nat):Int):=λh=>by have h:=ucx h;rw[IntWalk.i64_in _ (by omega)];omega
def qww(t:bh.q)(l:List ae.q)(f:ae.q)(g:cG f=Z->fo f):(LN ((t,l,()),f,())).ok/\(LN ((t,l,()),f,())).get=((j5 (t,l,()) f).1,(j5 (t,l,()) f).2,()):=by
 unfold j5;cases a : !(cG f);refine aN a ?_;cases e:J (((List.length l:Nat):Int)>=2000);refine aN rfl ?_;have b:l.length<2000:=by have:=uch e;omega
 refine aw (zbq b) ?_;cases c:rJ l f;refine aN ((Xx l f b).trans c) ?_;cases d:HH l f;refine aN d (aw ⟨ufe _,by omega,ufe _,rfl⟩ (aw (g (by simpa using a)) (aw ⟨Nat.one_pos,?_,?_⟩ ⟨uT,?_⟩)));show(List.take (((List.length l:Nat):Int)-0).toNat (List.drop 0 l)).length+1<=maxLen;rw[uc6,uc7];unfold maxLen;omega;show((List.take (((List.length l:Nat):Int)-0).toNat (List.drop 0 l)).length+1)*344<=140737488355328;rw[uc6,uc7];omega;show((t,List.take (((List.length l:Nat):Int)-0).toNat (List.drop 0 l)++[f],()),0,())=_;rw[ueg,ua3 (by omega)];rfl;exact aV d ⟨uT,rfl⟩;exact aV ((Xx l f b).trans c) ⟨uT,rfl⟩;exact aV rfl ⟨uT,rfl⟩;exact aV a ⟨uT,rfl⟩
def qwx:ag prog 19 JY:=conv quc _ _ (λ_ _ x _ _ h=>qww x.1.1 x.1.2.1 x.2.1 λ_=>h)
def D8(j:aE.q)(b:Int):aE.q:=(j.1,j.2.1.filter (λf=>J (bF f<=b)),())
def qdp(b:Int)(q r:aE.q):(l a:List ae.q)->(∀ f∈l,fo f)->a.length+l.length<=100000->kQ n8 l ((b,()),q,r,a,())/\ft n8 l ((b,()),q,r,a,())=((b,()),q,r,a++l.filter (λf=>J (bF f<=b)),())
 |[],a,_,_=>⟨uT,by rw[List.filter_nil,uds];rfl⟩
 |e::l,a,i,k=>by
  rw[uda]at k;have d:(n8 e ((b,()),q,r,a,())).ok/\(n8 e ((b,()),q,r,a,())).get=((b,()),q,r,(if bF e<=b then a++[e]else a),()):=by by_cases h:bF e<=b;rw[uf0 h];refine aV (ueb h) (aw (i e ucc) (aw ⟨?_,?_⟩ ⟨uT,rfl⟩));show a.length+1<=maxLen;unfold maxLen;omega;show(a.length+1)*344<=140737488355328;omega;rw[uf1 h];exact aN (udw h) ⟨uT,rfl⟩
  have g:=qdp b q r l (if bF e<=b then a++[e]else a) (λf c=>i f (ubj _ c)) (by split<;>first|omega|(rw[ub6,ua7];omega));refine⟨⟨d.1,?_⟩,?_⟩;rw[d.2];exact g.1;show ft n8 l (n8 e ((b,()),q,r,a,())).get=_;rw[d.2,g.2];by_cases h:bF e<=b;rw[uf0 h,List.filter_cons_of_pos (by simpa using h),ucr];rfl;rw[uf1 h,List.filter_cons_of_neg (by simpa using h)]
def SE:Ct:=⟨[.d aE,.d i64],[aE],λx=>(D8 x.1 x.2.1,()),λx=>[∀ f∈x.1.2.1,fo f,List.length (α:=ae.q) x.1.2.1<=100000]⟩
def qya(t:bh.q)(l:List ae.q)(b:Int)(c:∀ f∈l,fo f)(d:l.length<=100000):(LO ((t,l,()),b,())).ok/\(LO ((t,l,()),b,())).get=(D8 (t,l,()) b,()):=by have a:=qdp b (t,l,()) ov (List.drop 0 l) [] (by rw[ueg];exact c) (by rw[ueg];simp;omega);refine aw ⟨rfl,ufe _,ub4 _,?_⟩ (aw a.1 ⟨uT,?_⟩);show((List.length l:Nat):Int)<=_;omega;show((((ft n8 (List.drop 0 l) ((b,()),(t,l,()),ov,[],())).2.1.1.1,()),(ft n8 (List.drop 0 l) ((b,()),(t,l,()),ov,[],())).2.2.2.1,()),())=_;rw[a.2,ueg,udn];rfl
def qyb:ag prog 29 SE:=conv que _ _ (λ_ _ x _ _ h=>qya x.1.1 x.1.2.1 x.2.1 h.1 h.2)
def qgq:Cx:=cx [(19,JY),(16,wN),(34,tx)] []
def qgr:CxOK prog qgq:=aQ aH ⟨qwx,Og,Lj,uT⟩ trivial
def qvc(x:ap [.d aE,.d ae]):Fr (aa [aE,i64]):=
 let g:=JY.f x;let b:=(([],()),[],());let a:=wN.f (x.1,292194,());let c:=tx.f (a.1,x.2.1,());Jd (fo x.2.1) (Jb (g.2.1 != 0) (Jv (b,g.2.1,())) (Jd (bf (x.1.1.1,())) (Jb (a.2.1 != 0) (Jv (b,a.2.1,())) (Jd (bi a.1) (Jb (c.2.1 != 0) (Jv (b,c.2.1,())) (Jv (g.1,0,())))))))
def qvd:ag prog 14 (bg [.d aE,.d ae] [aE,i64] qvc):=
 aT qgr f14
def cN(j:aE.q)(f:ae.q):aE.q×Int:=
 bif (j5 j f).2 != 0 then (ov,(j5 j f).2)else bif (dW j 292194).2 != 0 then (ov,(dW j 292194).2)else bif (dq (dW j 292194).1 f).2 != 0 then (ov,(dq (dW j 292194).1 f).2)else ((j5 j f).1,0)
def qs7{j:aE.q}(b:Int)(h:bf j.1):bi (dW j b).1:=by unfold dW;cases J (((List.length (α:=ae.q) j.2.1:Nat):Int)>2000);exact UG _ (L9 h);exact⟨⟨ufj _,λv d=>by cases d⟩,ufj _,ufj _,λa c=>by cases c⟩
def t6:Ct:=⟨[.d aE,.d ae],[aE,i64],λx=>((cN x.1 x.2.1).1,(cN x.1 x.2.1).2,()),λx=>[fo x.2.1,bf x.1.1]⟩
def Pz:ag prog 14 t6:=conv qvd _ _ (λ_ _ x _ _ h=>by obtain⟨j,f,_⟩:=x;obtain⟨e,d⟩:fo f/\bf j.1:=h;show _/\_=((cN j f).1,(cN j f).2,());unfold cN;refine aw e ?_;cases a:(j5 j f).2 != 0;refine aN (by first|rfl|exact a) (aw d ?_);cases b:(dW j 292194).2 != 0;refine aN (by first|rfl|exact b) (aw (qs7 _ d) ?_);cases c:(dq (dW j 292194).1 f).2 != 0;exact aN (by first|rfl|exact c) ⟨uT,rfl⟩;exact aV (by first|rfl|exact c) ⟨uT,rfl⟩;exact aV (by first|rfl|exact b) ⟨uT,rfl⟩;exact aV (by first|rfl|exact a) ⟨uT,rfl⟩)
def qt8(x:ap [.d ae]):Fr (aa [.bool]):=
 Jv (bif J (((List.length x.1.2.2.2.2.2.1.2.2.1):Int)<=50)then J (((List.length x.1.2.2.2.2.2.2.1.2.2.2.2.1):Int)<=50)else Y,())
def qt9:ag prog 53 (bg [.d ae] [.bool] qt8):=
 aT aL f53
def pQ(f:ae.q):Bool:=bif J (((List.length (ma f).2.2.1:Nat):Int)<=50)then J (((List.length (iv f).2.2.2.2.1:Nat):Int)<=50)else Y
def Kb:Ct:=⟨[.d ae],[.bool],λx=>(pQ x.1,()),λ_=>[]⟩
def qtb:ag prog 53 Kb:=conv qt9 _ _ (λ_ _ _ _ _ _=>⟨uT,rfl⟩)
def UB{f:ae.q}(h:pQ f=Z):fo f:=by unfold pQ at h;rw[gQ,udd]at h;have a:=ucx h.1;have b:=ucx h.2;exact⟨by omega,by omega⟩
def qgs:Cx:=cx [(53,Kb)] []
def qgt:CxOK prog qgs:=aQ aH ⟨qtb,uT⟩ trivial
abbrev oC:Pt:=⟨36,0,⟨[(6,.d i64)],[.x 2 27 aE,.r 2 2 0]⟩,⟨[],[]⟩,⟨[(4,.d .bool)],[]⟩⟩
abbrev zx:Type:=ap []×dj [.x 2 27 aE,.r 2 2 0]
def zD(e:ae.q)(s:zx):Fr (zx ⊕ oC.R.X):=
 Jb (!(Kb.f (e,())).1) (Jv (.inr ((Y,()),()))) (Jv (.inl ((),s.2.1,())))
def sC(x:oC.M.X):Int×List ae.q×zx:=(x.1.1,x.2.1.2.1,x.1.2,x.2)
def VX(x:oC.M.X):Prop:=True
def zig(s:zx):oC.E.X:=((),())
def qp5:zx:=(aY _,cf _)
def TK:oC.R.X:=(aY _,cf _)
def zek:af prog (.loop (au f26 0)) oC.M oC (FL zD sC VX zig Rd.back qp5 TK):=
 sQ qgt (λ_ _=>.n .o) ae.j (λx=>((x.2.1.2.1.length:Nat):Int)) (λx s=>((I6.wrap (x.1.1+1),s.1),s.2)) (λ_ _=>rfl)
def zkz(y:oC.M.X):zx ⊕ oC.R.X:=eC zD ((sC y).2.1.drop (sC y).1.toNat) (sC y).2.2
def zhr(y:oC.M.X):Prop:=l6 zD ((sC y).2.1.drop (sC y).1.toNat) (sC y).2.2
def qgu:Cx:=cx [(52,Ka)] []
def qgv:CxOK prog qgu:=aQ aH ⟨qs8,uT⟩ trivial
def qt6(x:ap [.d aE,.d i64]):Fr (aa [.bool]):=
 let a:=((0,()),x.1,());let b:=zkz a;Jb (bif !(Ka.f ((0,0,((0,0,()),(0,0,0,0,()),[],()),[],()),(x.1.1.1,()),())).1 then Z else J (((List.length x.1.2.1):Int)>x.2.1)) (Jv (Y,())) (Jd (InL (VX a) (sC a)) (Jd (zhr a) (Jb (dV b) (Jv (Z,())) (Jv ((e9 TK b).1.1,())))))
def qt7:ag prog 26 (bg [.d aE,.d i64] [.bool] qt6):=
 cZ qgv zek
def zpx{a ok:Prop}{g:σ ⊕ ρ}{v:ρ->Bool}{d:ρ}{s1:σ}{c:ρ}{b:Bool}(f:a)(i:ok)(h:g=if b=Z then .inl s1 else .inr c)(k:v c=Y):
  (Jd a (Jd ok (Jb (dV g) (Jv ((Z,()):aa [.bool])) (Jv (v (e9 d g),()))))).ok/\(Jd a (Jd ok (Jb (dV g) (Jv ((Z,()):aa [.bool])) (Jv (v (e9 d g),()))))).get=(b,()):=by
 cases b;have e:=h;subst e;exact aw f (aw i (aN rfl ⟨uT,by show(v c,())=_;rw[k]⟩));have e:=h;subst e;exact aw f (aw i (aV rfl ⟨uT,rfl⟩))
def acE(e:ba.q×ba.q):Bool:=e.1.1==e.2.1&&(e.1.2.1==e.2.2.1&&(e.1.2.2.1==e.2.2.2.1&&Z))
def clE(a b:dx.q):Bool:=a.1==b.1&&(a.2.1==b.2.1&&(a.2.2.1==b.2.2.1&&(a.2.2.2.1==b.2.2.2.1&&(a.2.2.2.2.1==b.2.2.2.2.1&&(a.2.2.2.2.2.1==b.2.2.2.2.2.1&&Z)))))
def zl8(a b:aq.q):Bool:=bif bif !(clE a.1 b.1)then Z else ((List.length (α:=ba.q) a.2.1:Nat):Int) != ((List.length (α:=ba.q) b.2.1:Nat):Int)then Y else (List.zip (α:=ba.q) (β:=ba.q) a.2.1 b.2.1).all acE
def qmk:Ct:=⟨[.d aq,.d aq],[.bool],λx=>(zl8 x.1 x.2.1,()),λ_=>[]⟩
def Ou{a b:Bool}(h:(bif a then Z else b)=Y):a=Y/\b=false:=by cases a<;>cases b<;>first|exact⟨rfl,rfl⟩|cases h
def jc(j:aE.q)(n:Int):Bool:=bif bif !(pP iy j.1)then Z else J (((List.length (α:=ae.q) j.2.1:Nat):Int)>n)then Y else j.2.1.all pQ
def E5:Ct:=⟨[.d aE,.d i64],[.bool],λx=>(jc x.1 x.2.1,()),λ_=>[]⟩
def L5:ag prog 26 E5:=conv qt7 _ _ (λw F x g b _=>by
 obtain⟨j,n,_⟩:=x;obtain⟨v,f,rfl,d,_⟩:=b;have a:=Xf d;show _/\_=(jc j n,());unfold jc;cases h:(bif !(pP iy j.1)then Z else J (((List.length (α:=ae.q) j.2.1:Nat):Int)>n));refine aN h (zpx (v:=λr=>r.1.1) (s1:=((),j,())) (c:=((Y,()),())) ⟨uT,ufe _,ub4 _,a⟩ (Oi (step:=zD) _ (λe _ s=>⟨λ_=>uT,λ_=>uT⟩) _) ?_ rfl);show eC zD (List.drop 0 j.2.1) _=_;rw[ueg,MR (step:=zD) (I:=λ_=>True) (p:=pQ) (c:=((Y,()),())) (λe s _=>?_) _ _ trivial];cases j.2.1.all pQ<;>rfl
 show(Jb (!(pQ e)) _ _).get=_;cases pQ e<;>rfl
 exact aV h ⟨uT,rfl⟩)
def Bf{j:aE.q}{n:Int}(h:jc j n=Z):bf j.1/\((List.length (α:=ae.q) j.2.1:Nat):Int)<=n/\∀ f∈j.2.1,pQ f=true:=by
 unfold jc at h;cases a:(bif !(pP iy j.1)then Z else J (((List.length j.2.1:Nat):Int)>n));rw[a]at h;obtain⟨b,c⟩:=Ou a;have d:pP iy j.1=true:=by simpa using b
 exact⟨(qsy d).2,by have:=uch c;omega,uc9.mp h⟩;rw[a]at h;cases h
def qvn(x:ap [.d ay,.d ay]):Fr (aa [.bool]):=
 let b:=x.1.2.2.2;let a:=x.2.1.2.2.2;Jv (bif bif bif bif bif (AA.f (b.2.1,a.2.1,())).1 then x.1.1==x.2.1.1 else Y then x.1.2.1==x.2.1.2.1 else Y then x.1.2.2.1==x.2.1.2.2.1 else Y then b.1.1==a.1.1&&(b.1.2.1==a.1.2.1&&(b.1.2.2.1==a.1.2.2.1&&(b.1.2.2.2.1==a.1.2.2.2.1&&Z)))else Y then b.2.2.1==a.2.2.1 else Y,())
def qvo(x:ap [.d dF,.d dF]):Fr (aa [.bool]):=
 let b:=x.1.2.1;let a:=x.2.1;Jv (bif bif (AA.f (x.1.2.2.1,a.2.2.1,())).1 then x.1.1.1==a.1.1&&(x.1.1.2.1==a.1.2.1&&Z)else Y then b.1==a.2.1.1&&(b.2.1==a.2.1.2.1&&(b.2.2.1==a.2.1.2.2.1&&(b.2.2.2.1==a.2.1.2.2.2.1&&Z)))else Y,())
def zmb(a b:ay.q):Bool:=(qvn (a,b,())).get.1
def zow(a b:dF.q):Bool:=(qvo (a,b,())).get.1
def shB(a b:aD.q):Bool:=bif bif bif !(zow a.2.2.1 b.2.2.1)then Z else a.1 != b.1 then Z else a.2.1 != b.2.1 then Z else ((List.length (α:=ay.q) a.2.2.2.1:Nat):Int) != ((List.length (α:=ay.q) b.2.2.2.1:Nat):Int)
def shF(a b:aD.q):Bool:=bif shB a b then Y else (List.zip (α:=ay.q) (β:=ay.q) a.2.2.2.1 b.2.2.2.1).all λe=>zmb e.1 e.2
def cSH:Ct:=⟨[.d aD,.d aD],[.bool],λx=>(shF x.1 x.2.1,()),λ_=>[]⟩
abbrev vq:Pt:=⟨127,0,⟨[(6,.d i64)],[.x 2 59 ak,.r 2 2 0,.x 3 59 ak,.r 3 3 0]⟩,⟨[],[.x 2 59 ak,.r 2 2 0,.x 3 59 ak,.r 3 3 0]⟩,⟨[(4,.d .bool)],[]⟩⟩
abbrev zz:Type:=ap []×dj [.x 2 59 ak,.r 2 2 0,.x 3 59 ak,.r 3 3 0]
def zot(e:(bn.q×bn.q))(s:zz):Fr (zz ⊕ vq.R.X):=
 Jb (bif !(cSH.f (e.1.1,e.2.1,())).1 then Z else e.1.2.1 != e.2.2.1) (Jv (.inr ((Y,()),()))) (Jv (.inl ((),s.2.1,s.2.2.1,())))
def PR(x:vq.M.X):Int×List (bn.q×bn.q)×zz:=(x.1.1,x.2.1.2.1.zip x.2.2.1.2.1,x.1.2,x.2)
def zik(s:zz):vq.E.X:=((),s.2.1,s.2.2.1,())
def qp8:zz:=(aY _,cf _)
def zk2(y:vq.M.X):zz ⊕ vq.R.X:=eC zot ((PR y).2.1.drop (PR y).1.toNat) (PR y).2.2
abbrev vr:Pt:=⟨127,2,⟨[(8,.d i64)],[.x 2 59 ak,.r 2 2 0,.x 3 59 ak,.r 3 3 0]⟩,⟨[],[.x 2 59 ak,.r 2 2 0,.x 3 59 ak,.r 3 3 0]⟩,⟨[(4,.d .bool)],[]⟩⟩
abbrev z7:Type:=ap []×dj [.x 2 59 ak,.r 2 2 0,.x 3 59 ak,.r 3 3 0]
def zou(e:(aq.q×aq.q))(s:z7):Fr (z7 ⊕ vr.R.X):=
 Jb (!(qmk.f (e.1,e.2,())).1) (Jv (.inr ((Y,()),()))) (Jv (.inl ((),s.2.1,s.2.2.1,())))
def PS(x:vr.M.X):Int×List (aq.q×aq.q)×z7:=(x.1.1,x.2.1.2.2.1.zip x.2.2.1.2.2.1,x.1.2,x.2)
def zil(s:z7):vr.E.X:=((),s.2.1,s.2.2.1,())
def qp9:z7:=(aY _,cf _)
def zk3(y:vr.M.X):z7 ⊕ vr.R.X:=eC zou ((PS y).2.1.drop (PS y).1.toNat) (PS y).2.2
abbrev en0(a b:ak.q):vq.M.X:=((0,()),a,b,())
abbrev o0(a b:ak.q):vq.E.X:=zik (fq qp8 (zk2 (en0 a b)))
abbrev en1(a b:ak.q):vr.M.X:=((0,()),(o0 a b).2.1,(o0 a b).2.2.1,())
abbrev o1(a b:ak.q):vr.E.X:=zil (fq qp9 (zk3 (en1 a b)))
def ZB{j:aE.q}{f:ae.q}(h:(j5 j f).2=0):cG f=Z/\(j5 j f).1=(j.1,j.2.1++[f],())/\rJ j.2.1 f=Y/\HH j.2.1 f=Y/\((List.length (α:=ae.q) j.2.1:Nat):Int)<2000:=by unfold j5 at h |-;cases b:cG f;rw[b]at h;have h:(1:Int)=0:=h;exact absurd h (by decide);rw[b]at h;cases a:J (((List.length (α:=ae.q) j.2.1:Nat):Int)>=2000);rw[a]at h;cases c:rJ j.2.1 f;rw[c]at h;cases d:HH j.2.1 f;exact⟨rfl,rfl,rfl,rfl,by have:=uch a;omega⟩;rw[d]at h;have h:(12:Int)=0:=h;exact absurd h (by decide);rw[c]at h;have h:(4:Int)=0:=h;exact absurd h (by decide);rw[a]at h;have h:(2:Int)=0:=h;exact absurd h (by decide)
def CG{j:aE.q}{f:ae.q}(h:(cN j f).2=0):(j5 j f).2=0/\(dW j 292194).2=0/\(dq (dW j 292194).1 f).2=0/\(cN j f).1=(j.1,j.2.1++[f],()):=by
 unfold cN at h |-;cases a:(j5 j f).2 != 0;have d:(j5 j f).2=0:=by simpa using a
 rw[a]at h;cases b:(dW j 292194).2 != 0;have e:(dW j 292194).2=0:=by simpa using b
 rw[b]at h;cases c:(dq (dW j 292194).1 f).2 != 0;exact⟨d,e,by simpa using c,(ZB d).2.1⟩;rw[c]at h;have h:(dq (dW j 292194).1 f).2=0:=h;rw[h]at c;exact absurd c (by decide);rw[b]at h;have h:(dW j 292194).2=0:=h;rw[h]at b;exact absurd b (by decide);rw[a]at h;have h:(j5 j f).2=0:=h;rw[h]at a;exact absurd a (by decide)
def ML{f:ae.q}(h:cG f=Z):1<=bF f/\bF f<=292194:=by unfold cG at h;simp only[udd,ucu]at h;exact h.2.1
def qgw:Cx:=cx [(70,kw),(113,nO),(140,iD)] []
def qgx:CxOK prog qgw:=aQ aH ⟨zh,CH,rC,uT⟩ trivial
def Md(x:ap [.d ah,.d ax]):Fr (aa [.bool]):=
 let c:=kw.f (x.1,());let b:=nO.f (x.2.1,());let a:=iD.f (x.1.2.2.1,x.2.1.2.2.1,());Jd ((bif bif c.1 then b.1 else Y then a.1 else Y)=Z->¬x.2.1.2.2.2.1<0) (Jv (bif bif bif c.1 then b.1 else Y then a.1 else Y then I6.wrap ((Bvo I6.bits (Int.fdiv x.1.2.2.2.2.2.2.2.1 (2 ^ min (Int.toNat x.2.1.2.2.2.1) I6.bits)) &&& Bvo I6.bits 1).toNat:Int)==1 else Y,()))
def qvx:ag prog 166 (bg [.d ah,.d ax] [.bool] Md):=
 aT qgx f166
def vR(t:ah.q)(l:ax.q):Bool:=(Md (t,l,())).get.1
def mL:Ct:=⟨[.d ah,.d ax],[.bool],λx=>(vR x.1 x.2.1,()),λ_=>[]⟩
def OA{l:ax.q}(h:l8 l=Z):0<=l.2.2.2.1/\l.2.2.2.1<=7:=by
 unfold l8 xE at h;have e:∀ (b:Bool) (x y:Fr (aa [.bool])),(Jb b x y).get=bif b then x.get else y.get:=λb x y=>by cases b<;>rfl
 simp only[e]at h;have k:∀ z:aa [.bool],(Jv z).get=z:=λ_=>rfl;simp only[k]at h;cases a:(fj.f ((0,7,()),[l.2.2.2.1],())).1;cases d:(fj.f ((1,1000000000,()),[l.1],())).1<;>cases g:(fj.f ((0,1000000000,()),[l.2.1],())).1<;>cases i:(fj.f ((1,292194,()),[l.2.2.1],())).1<;>simp only[d,g,i,a]at h<;>cases h
 have c:iI 0 7 [l.2.2.2.1]=true:=a;unfold iI at c;simpa using c
def qcq {t:ah.q} {l:ax.q} (h:(bif bif gG t then l8 l else Y then (iD.f (t.2.2.1,l.2.2.1,())).1 else Y)=Z):gG t=Z/\l8 l=Z/\(iD.f (t.2.2.1,l.2.2.1,())).1=true:=by rw[gQ,gQ,udd,udd]at h;exact⟨h.1.1,h.1.2,h.2⟩
def D5:ag prog 166 mL:=conv qvx _ _ (λ_ _ x _ _ _=>by obtain⟨t,l,_⟩:=x;refine⟨⟨λh=>?_,uT⟩,rfl⟩;exact ufp.mpr (OA (qcq h).2.1).1)
def Sy(e:0<=a/\a<=255)(f:0<=p/\p<=7):
  I6.wrap ((Bvo I6.bits (Int.fdiv a (2 ^ min (Int.toNat p) I6.bits)) &&& Bvo I6.bits 1).toNat:Int)=if a.toNat.testBit p.toNat then 1 else 0:=by
 have b:∀ n:Fin 256,∀ k:Fin 8,I6.wrap ((Bvo I6.bits (Int.fdiv ((n.1:Nat):Int) (2 ^ min (Int.toNat ((k.1:Nat):Int)) I6.bits)) &&& Bvo I6.bits 1).toNat:Int)=if n.1.testBit k.1 then 1 else 0:=by decide +kernel
 have h:=b ⟨a.toNat,by omega⟩ ⟨p.toNat,by omega⟩;have c:((a.toNat:Nat):Int)=a:=by omega
 have d:((p.toNat:Nat):Int)=p:=by omega
 simp only[c,d]at h;exact h
def qk4{b:Int}(h:0<=a/\a<=255)(i:0<=b/\b<=255):
  I6.wrap ((Bvo I6.bits a &&& Bvo I6.bits b).toNat:Int)=((a.toNat &&& b.toNat:Nat):Int):=by
 have e:∀ n:Fin 256,(Bvo I6.bits ((n.1:Nat):Int)).toNat=n.1:=by decide +kernel
 have c:=e ⟨a.toNat,by omega⟩;have d:=e ⟨b.toNat,by omega⟩;have f:((a.toNat:Nat):Int)=a:=by omega
 have g:((b.toNat:Nat):Int)=b:=by omega
 simp only[f,g]at c d;rw[BitVec.toNat_and,c,d];have:a.toNat &&& b.toNat<=a.toNat:=Nat.and_le_left;exact IntWalk.i64_in _ (by omega)
def gd(t:ah.q)(d p:Int):Bool:=(t.2.1==1&&eH t.2.2.1.1 t.2.2.1.2.1 d)&&t.2.2.2.2.2.2.2.1.toNat.testBit p.toNat
abbrev per(t:ah.q):Int:=t.2.2.2.2.2.2.2.1
abbrev mJ(t:ah.q):Int:=t.2.2.2.1
def S2(b:Bool)(x y:Fr α):(Jb b x y).get=bif b then x.get else y.get:=by cases b<;>rfl
def qdu(z:α):(Jv z).get=z:=rfl
def Yl(p:Prop)(x:Fr α):(Jd p x).get=x.get:=rfl
def uV{t:ah.q}{d:Int}(e:0<=per t/\per t<=255)(g:0<=p/\p<=7):cS t d p=if gd t d p=Z then mJ t else 0:=by
 unfold cS LW;simp only[S2,Yl];have f:=Sy e g;show(bif bif bif t.2.1 != 1 then Z else !(eH t.2.2.1.1 t.2.2.1.2.1 d)then Z else I6.wrap ((Bvo I6.bits (Int.fdiv (per t) (2 ^ min (Int.toNat p) I6.bits)) &&& Bvo I6.bits 1).toNat:Int)==0 then ((0:Int),())else (mJ t,())).1=_;rw[f];unfold gd;by_cases b:t.2.1=1;cases h:eH t.2.2.1.1 t.2.2.1.2.1 d;simp;cases i:(per t).toNat.testBit p.toNat<;>simp[b]
 have c:(t.2.1==1)=false:=by simpa using b
 have a:(t.2.1 != 1)=true:=by simpa using b
 rw[c,a];rfl
def H3{t:ah.q}(h:gG t=Z):1<=per t/\per t<=255:=by
 have b:iI 1 255 [per t]=true:=by
  cases e:iI 1 255 [per t];unfold gG ub at h;have a:(fj.f ((1,255,()),[t.2.2.2.2.2.2.2.1],())).1=false:=e;simp only[a]at h;cases c:(fj.f ((1,1000000000,()),[t.1],())).1<;>simp only[c]at h
  cases h;cases d:((qV.f (t.2.2.1,())).1==0)<;>simp only[d]at h<;>cases h
  rfl
 unfold iI at b;simpa using b
def zlk{t:ah.q}(h:gG t=Z)(k:t.2.1=1):1<=mJ t/\mJ t<=10000:=by
 have c:iI 1 10000 [mJ t]=true:=by
  cases i:iI 1 10000 [mJ t];unfold gG ub at h;have a:(fj.f ((1,10000,()),[t.2.2.2.1],())).1=false:=i;have b:(t.2.1==1)=true:=by simp[k]
  simp only[a,b]at h;cases d:(fj.f ((1,1000000000,()),[t.1],())).1<;>simp only[d]at h
  cases h;cases e:((qV.f (t.2.2.1,())).1==0)<;>simp only[e]at h
  cases g:(fj.f ((1,255,()),[t.2.2.2.2.2.2.2.1],())).1<;>simp only[g]at h<;>cases h
  cases h;rfl
 unfold iI at c;simpa using c
structure TR (t:ah.q):Prop where
 per:1<=per t/\per t<=255
 bp:t.2.1=1->1<=mJ t/\mJ t<=10000
def PM{t:ah.q}(h:gG t=Z):TR t:=⟨H3 h,zlk h⟩
def qc7{t:ah.q}(h:TR t){d:Int}(e:0<=p/\p<=7):0<=cS t d p/\cS t d p<=10000:=by
 have b:=h.per;rw[uV ⟨by omega,b.2⟩ e];split;rename_i a;have c:t.2.1=1:=by unfold gd at a;rw[udd,udd]at a;exact ufv a.1.1
 have:=h.bp c;omega;omega
def zjb{t:ah.q}(h:gG t=Z){d:Int}(a:0<=p/\p<=7):0<=cS t d p/\cS t d p<=10000:=qc7 (PM h) a
def dL(g:ah.q->Int):List ah.q->Int
 |[]=>0
 |t::l=>g t+dL g l
def PD(g:ah.q->Int)(t:ah.q)(l:List ah.q):dL g (t::l)=g t+dL g l:=rfl
def RZ(l:List ah.q)(t:ah.q):jH l t=t::l.map (jh t):=rfl
def zo9(g:ah.q->Int)(t:ah.q)(l:List ah.q):dL g (jH l t)=g t+dL (λy=>g (jh t y)) l:=by
 rw[RZ,PD];congr 1
 induction l with
 |nil=>rfl
 |cons a r b=>rw[uel,PD,PD,b]
def zqb{A B C a S:Int}(b:A=0+B)(c:B=C+S)(d:C=a):A=a+S:=by omega
def Il(g:ah.q->Int):(a b:List ah.q)->dL g (a++b)=dL g a+dL g b
 |[],b=>by show dL g b=0+_;omega
 |t::a,b=>by show g t+dL g (a++b)=g t+dL g a+dL g b;rw[Il g a b];omega
def zo4(g:ah.q->Int)(k:ah.q->Int)(l:List ah.q)(t:ah.q):dL g (gt k l t)=g t+dL g l:=by
 show dL g (je _ l [t])=_;generalize (if gr k l t<0 then (l.length:Int)else gr k l t)=i;unfold je;rw[Il,Il];have h:dL g l=dL g (l.take i.toNat)+dL g (l.drop i.toNat):=by rw[<- Il,uba]
 show _+(g t+0)+_=_;omega
def qb3{g k:ah.q->Int}:(l:List ah.q)->(∀ t∈l,g t<=k t)->dL g l<=dL k l
 |[],_=>ufe _
 |t::l,h=>by have b:=h t ucc;have c:=qb3 l (λx a=>h x (ubj _ a));show g t+dL g l<=k t+dL k l;omega
def qb2{d:Int}:(l:List ah.q)->(s:Int)->(∀ t∈l,0<=cS t d p/\cS t d p<=10000)->0<=s->s+10000*(l.length:Int)<=1000000000->zM d p l s=s+dL (λt=>cS t d p) l
 |[],s,_,_,_=>by show s=s+0;omega
 |t::l,s,h,e,a=>by have f:=h t ucc;rw[uda]at a;have b:I6.wrap (s+cS t d p)=s+cS t d p:=IntWalk.i64_in _ (by omega);show zM d p l (I6.wrap (s+cS t d p))=s+(cS t d p+dL _ l);rw[b,qb2 l (s+cS t d p) (λx c=>h x (ubj _ c)) (by omega) (by omega)];omega
def Xw(P:ah.q->Prop)[DecidablePred P]:(l:List ah.q)->(∃ t∈l,P t)->∃ x∈l,P x/\∀ y∈l,P y->y.2.2.1.1<=x.2.2.1.1
 |[],h=>by obtain⟨t,f,_⟩:=h;cases f
 |a::l,h=>by
  by_cases i:∃ t∈l,P t;obtain⟨x,n,m,d⟩:=Xw P l i;by_cases g:P a/\x.2.2.1.1<a.2.2.1.1;refine⟨a,ucc,g.1,λy c b=>?_⟩;rcases uej.1 c with rfl|c
  exact ufe _;have:=d y c b;exact ue6 this (uev g.2);refine⟨x,ubj _ n,m,λy c b=>?_⟩;rcases uej.1 c with rfl|c
  exact ufp.1 λk=>g ⟨b,k⟩;exact d y c b;obtain⟨t,f,e⟩:=h;rcases uej.1 f with rfl|f
  refine⟨t,ucc,e,λy c b=>?_⟩;rcases uej.1 c with rfl|c
  exact ufe _;exact absurd ⟨y,c,b⟩ i;exact absurd ⟨t,f,e⟩ i
def qpt{l:List ah.q}(c:0<=p/\p<=7)(h:zM day p l 0>10000):xm l day=true:=by
 have b:=ueb h;have a:p=0\/p=1\/p=2\/p=3\/p=4\/p=5\/p=6\/p=7:=by omega
 unfold xm;rcases a with rfl|rfl|rfl|rfl|rfl|rfl|rfl|rfl<;>simp only[tH,Int.reduceAdd,b,Bool.true_or,Bool.or_true]
def ZN{t x:ah.q}(a:1<=per t/\per t<=255)(b:1<=per x/\per x<=255):per (jh t x)=(((per x).toNat &&& (per t).toNat:Nat):Int)/\0<=per (jh t x)/\per (jh t x)<=255:=by have h:per (jh t x)=(((per x).toNat &&& (per t).toNat:Nat):Int):=qk4 ⟨ue6 (by decide) b.1,b.2⟩ ⟨ue6 (by decide) a.1,a.2⟩;have c:(per x).toNat &&& (per t).toNat<=(per x).toNat:=Nat.and_le_left;rw[h];exact⟨rfl,by omega,by omega⟩
def zkm{t x:ah.q}{d:Int}(c:1<=per t/\per t<=255)(e:1<=per x/\per x<=255)(a:gd x d p=Z)(b:(per t).toNat.testBit p.toNat=Z):gd (jh t x) d p=true:=by unfold gd at a |-;rw[udd]at a |-;refine⟨a.1,?_⟩;show(per (jh t x)).toNat.testBit p.toNat=Z;rw[(ZN c e).1];show(((per x).toNat &&& (per t).toNat)).testBit p.toNat=Z;rw[Nat.testBit_and,b,uen];exact a.2
def Nm{b d:Int}:eH a b d=Z↔1<=a/\b<=292195/\a<=d/\d<b:=by unfold eH;exact decide_eq_true_iff
def zio{l:List ah.q}{t:ah.q}(G:∀ x∈l,TR x)(N:TR t)(hn:l.length<=1000)(s:jV l t=Y){d:Int}(u:0<=p/\p<=7)(g:gd t d p=Z):
  cS t d p+dL (λx=>cS x d p) l<=10000:=by
 have E:=N.per;refine ufp.1 λT=>?_;have h:∀ x∈t::l,TR x:=λx o=>by
  rcases uej.1 o with rfl|o
  exact N;exact G x o
 obtain⟨x,o,m,B⟩:=Xw (λy=>gd y d p=Z) (t::l) ⟨t,ucc,g⟩;have R:x.2.2.1.1<=d:=by unfold gd at m;rw[udd,udd]at m;exact(Nm.1 m.1.2).2.2.1
 have k:∀ y∈t::l,gd y d p=Z->gd y x.2.2.1.1 p=true:=λy b a=>by have hm:=B y b a;unfold gd at a |-;rw[udd,udd]at a |-;have H:=Nm.1 a.1.2;exact⟨⟨a.1.1,Nm.2 ⟨H.1,H.2.1,hm,Int.lt_of_le_of_lt R H.2.2.2⟩⟩,a.2⟩
 have P:(per t).toNat.testBit p.toNat=true:=by unfold gd at g;rw[udd]at g;exact g.2
 have n:∀ y∈t::l,0<=per y/\per y<=255:=λy b=>⟨ue6 (by decide) (h y b).per.1,(h y b).per.2⟩;have c:∀ y∈l,0<=cS (jh t y) x.2.2.1.1 p/\cS (jh t y) x.2.2.1.1 p<=10000/\cS y d p<=cS (jh t y) x.2.2.1.1 p:=λy b=>by
  have C:=(G y b).per;rw[uV (ZN E C).2 u,uV (n y (ubj _ b)) u];by_cases a:gd y d p=Z;have e:=zkm E C (k y (ubj _ b) a) P;have w:y.2.1=1:=by unfold gd at a;rw[udd,udd]at a;exact ufv a.1.1
  have r:=(G y b).bp w;rw[uf0 e,uf0 a];exact⟨ue6 (by decide) r.1,r.2,ufe _⟩;rw[uf1 a];split;rename_i e;have w:y.2.1=1:=by unfold gd at e;rw[udd,udd]at e;exact ufv e.1.1
  have r:=(G y b).bp w;exact⟨ue6 (by decide) r.1,r.2,ue6 (by decide) r.1⟩;exact⟨ufe _,by decide,ufe _⟩
 have Q:cS t x.2.2.1.1 p=cS t d p:=by rw[uV (n t ucc) u,uV (n t ucc) u,uf0 g,uf0 (k t ucc g)]
 have O:=qc7 N (d:=x.2.2.1.1) u;have D:zM x.2.2.1.1 p (jH l t) 0=cS t d p+dL (λy=>cS (jh t y) x.2.2.1.1 p) l:=by
  have f:∀ y∈jH l t,0<=cS y x.2.2.1.1 p/\cS y x.2.2.1.1 p<=10000:=λy b=>by
   rcases uej.1 b with rfl|b
   exact O;obtain⟨z,v,rfl⟩:=ufa.1 b;exact⟨(c z v).1,(c z v).2.1⟩
  have A:(0:Int)+10000*((jH l t).length:Int)<=1000000000:=by rw[RZ,uda,ud3];omega
  have W:=qb2 (jH l t) 0 f (ufe _) A;exact zqb W (zo9 (λy=>cS y x.2.2.1.1 p) t l) Q
 have hle:=qb3 l λy b=>(c y b).2.2;have K:=qpt u (by rw[D];omega);have w:t.2.1=1:=by have i:=g;unfold gd at i;rw[udd,udd]at i;exact ufv i.1.1
 have L:eH t.2.2.1.1 t.2.2.1.2.1 x.2.2.1.1=true:=by have e:=k t ucc g;unfold gd at e;rw[udd,udd]at e;exact e.1.2
 have M:∃ z∈jH l t,qf z t (jH l t)=true:=by
  have F:∀ z:ah.q,z.2.2.1.1=x.2.2.1.1->qf z t (jH l t)=true:=λz v=>by unfold qf;rw[v];show(bif eH t.2.2.1.1 t.2.2.1.2.1 x.2.2.1.1 then xm (jH l t) x.2.2.1.1 else Y)=Z;rw[L,K];rfl
  rcases uej.1 o with rfl|o
  exact⟨x,ucc,F x rfl⟩;exact⟨jh t x,ubj _ (List.mem_map_of_mem o),F _ rfl⟩
 unfold jV at s;rw[show(t.2.1 != 1)=Y by simp[w]]at s;have s:(jH l t).any (λz=>qf z t (jH l t))=false:=s;obtain⟨z,v,S⟩:=M;rw[uc3]at s;exact s z v S
def zit{l:List ah.q}{t:ah.q}(f:∀ x∈l,gG x=Z)(e:gG t=Z)(g:l.length<=1000)(h:jV l t=Y){d:Int}(c:0<=p/\p<=7)(k:dL (λx=>cS x d p) l<=10000):
  cS t d p+dL (λx=>cS x d p) l<=10000:=by
 have a:=H3 e;by_cases b:gd t d p=Z;exact zio (λx i=>PM (f x i)) (PM e) g h c b;rw[uV ⟨ue6 (by decide) a.1,a.2⟩ c,uf1 b];omega
structure QI (s:ak.q):Prop where
 right:∀ t∈bT s,gG t=true
 len:(bT s).length<=100
 sum:∀ d p,0<=p/\p<=7->dL (λt=>cS t d p) (bT s)<=10000
def zi{s a:ak.q}(h:QI s)(e:bT a=bT s):QI a:=⟨by rw[e];exact h.right,by rw[e];exact h.len,by rw[e];exact h.sum⟩
def zj6(t:bh.q):QI (hZ t):=⟨λt a=>(by cases a),ufj _,λ_ _ _=>by show(0:Int)<=10000;decide⟩
def zj7{s:ak.q}{f:ae.q}(h:QI s)(e:gG (dB f)=Z):QI (fE s f).1:=by
 unfold fE;cases k:oZ s (dB f);cases g:J (((List.length (bT s):Nat):Int)>=100);cases i:jV (bT s) (dB f);have b:(bT s).length<100:=by have:=uch g;omega
 refine⟨λt a=>?_,?_,λd p c=>?_⟩;rcases o9 a with a|rfl
 exact h.right t a;exact e;show(gt (λt=>t.1) (bT s) (dB f)).length<=100;rw[Cy];omega;show dL (λt=>cS t d p) (gt (λt=>t.1) (bT s) (dB f))<=10000;rw[zo4];exact zit h.right e (by omega) i c (h.sum d p c);exact h;exact h;exact h
def V6{f:ae.q}(h:cG f=Z)(c:aM f=6):gG (dB f)=true:=by unfold cG at h;rw[udd,udd,udd]at h;have b:=h.2.2;rw[udd]at b;have a:=b.2;unfold pp at a;rw[c]at a;exact a
def zqs(s:ak.q)(f:ae.q):bT (fB s f).1=bT s:=by
 unfold fB;cases J (aI s f>=0);cases J (((List.length (bW s):Nat):Int)>=2000)<;>rfl
 rfl
def zqr(s:ak.q)(f:ae.q):bT (fA s f).1=bT s:=by
 unfold fA;cases J (aI s f<0);cases (aJ s).any (lO f)<;>rfl
 rfl
def zqv(s:ak.q)(f:ae.q):bT (fD s f).1=bT s:=by
 unfold fD;cases J (aI s f<0);cases J (ej f>I6.wrap (4000000000000000000-(gc s (aI s f)).2.1))<;>rfl
 rfl
def zqu(s:ak.q)(f:ae.q):bT (fl s f).1=bT s:=by
 unfold fl;cases J (eS s (dk f).1>=0);cases J (((List.length (aJ s):Nat):Int)>=2000);cases !(lA s f).2<;>rfl
 rfl;rfl
def zqq(s:ak.q)(f:ae.q):bT (eY s f).1=bT s:=by unfold eY;cases J (gI s f<0)<;>rfl
def zqt(s:ak.q)(f:ae.q):bT (gi s f).1=bT s:=by unfold gi;cases J (dA f<=kg s)<;>rfl
def zj5{s:ak.q}{f:ae.q}(h:QI s)(b:cG f=Z):QI (gU s f).1:=by
 have a:=BG b;have e:∀ k,aM f=k->(gU s f).1=(bif k==1 then (fB s f).1 else bif k==2 then (fA s f).1 else bif k==3 then (fD s f).1 else bif k==4 then (fl s f).1 else bif k==5 then (eY s f).1 else bif k==6 then (fE s f).1 else (gi s f).1):=λk a=>by
  show(kB s f).1=_;unfold kB;rw[a];cases k==1;cases k==2;cases k==3;cases k==4;cases k==5;cases k==6<;>rfl
  rfl;rfl;rfl;rfl;rfl
 rcases qs a with k|k|k|k|k|k|k<;>rw[e _ k]
 exact zi h (zqs s f);exact zi h (zqr s f);exact zi h (zqv s f);exact zi h (zqu s f);exact zi h (zqq s f);exact zj7 h (V6 b k);exact zi h (zqt s f)
def rZ(l:ax.q)(s:Int)(t:ah.q):Int:=bif bif t.2.1==1 then vR t l else Y then I6.wrap (s+t.2.2.2.1)else s
def zp1{t:ah.q}{l:ax.q}(i:t.2.1=1)(h:vR t l=Z):gG t=Z/\(0<=l.2.2.2.1/\l.2.2.2.1<=7)/\gd t l.2.2.1 l.2.2.2.1=true:=by unfold vR Md at h;rw[Yl,qdu,gQ,udd]at h;obtain⟨b,e,f⟩:=qcq h.1;have c:=OA e;have d:=H3 b;refine⟨b,c,?_⟩;have a:=h.2;rw[Sy ⟨ue6 (by decide) d.1,d.2⟩ c]at a;unfold gd;rw[udd,udd];refine⟨⟨by rw[i];rfl,f⟩,?_⟩;cases g:t.2.2.2.2.2.2.2.1.toNat.testBit l.2.2.2.1.toNat;rw[g]at a;exact absurd a (by decide);rfl
def ZE(l:ax.q)(i:0<=l.2.2.2.1/\l.2.2.2.1<=7):(ts:List ah.q)->(n:Int)->(∀ t∈ts,gG t=Z)->0<=n->n+10000*(ts.length:Int)<=1000000000->ts.foldl (rZ l) n<=n+dL (λt=>cS t l.2.2.1 l.2.2.2.1) ts
 |[],n,_,_,_=>by show n<=n+0;omega
 |t::ts,n,o,r,w=>by
  have p:=o t ucc;have e:=zjb p (d:=l.2.2.1) i;have k:rZ l n t<=n+cS t l.2.2.1 l.2.2.2.1/\0<=rZ l n t:=by
   unfold rZ;cases h:(bif t.2.1==1 then vR t l else Y);exact⟨Int.le_add_of_nonneg_right e.1,r⟩;rw[gQ,udd]at h;have z:=ufv h.1;obtain⟨_,_,v⟩:=zp1 z h.2;have f:=H3 p;have y:cS t l.2.2.1 l.2.2.2.1=mJ t:=by rw[uV ⟨ue6 (by decide) f.1,f.2⟩ i,uf0 v]
   show I6.wrap (n+mJ t)<=_/\0<=I6.wrap (n+mJ t);rw[y,IntWalk.i64_in _ (by omega)];exact⟨ufe _,by omega⟩
  have g:=ZE l i ts (rZ l n t) (λx A=>o x (ubj _ A)) k.2 (Mr k.1 e.2 w);exact Mn g k.1
where
 Mr {a b c:Int} {m:Nat} (u:a<=b+c) (g:c<=10000) (B:b+10000*((m+1:Nat):Int)<=1000000000):a+10000*((m:Nat):Int)<=1000000000:=by omega
 Mn {a b c m s:Int} (u:a<=b+s) (g:b<=m+c):a<=m+(c+s):=by omega
def Up(g:α->Int)(l:List α):Prop:=l.Pairwise λa b=>g a<g b
def qdm{g:α->Int}{l:List α}{x:α}(h:Up g l)(n:∀ y,l[i]?= U y->g x=g y):Up g (l.set i x):=by
 unfold Up at *;rw[uan]at *;intro a b c f d;rw[udp]at c f;have e:∀ k (m:k<l.length),g ((l.set i x)[k]'(by rw[udp];exact m))=g l[k]:=λk m=>by rw[List.getElem_set];split;rename_i e;subst e;exact n _ (uaq m);rfl
 rw[e a c,e b f];exact h a b c f d
def qdl{g:α->Int}{x:α}:(l:List α)->(k:Nat)->Up g l->(∀ i y,l[i]?= U y->i<k->g y<g x)->(∀ i y,l[i]?= U y->k<=i->g x<g y)->Up g (l.take k++[x]++l.drop k):=by
 intro l k h o p;unfold Up at *;rw[ubp,ubp];refine⟨⟨h.sublist (List.take_sublist k l),uay _ _,λa f b m=>?_⟩,h.sublist (List.drop_sublist k l),λa f b m=>?_⟩;obtain⟨i,d⟩:=ubs f;rw[ucf.1 m];have c:i<k:=by
  rcases uer i k with e|e
  exact e;rw[List.getElem?_take_eq_none e]at d;cases d
 rw[List.getElem?_take_of_lt c]at d;exact o i a d c;obtain⟨j,n⟩:=ubs m;rw[ub1]at n;rcases udt.1 f with f|f
 obtain⟨i,d⟩:=ubs f;have c:i<k:=by
  rcases uer i k with e|e
  exact e;rw[List.getElem?_take_eq_none e]at d;cases d
 rw[List.getElem?_take_of_lt c]at d;exact ue3 (o i a d c) (p (k+j) b n (Nat.le_add_right _ _));rw[ucf.1 f];exact p (k+j) b n (Nat.le_add_right _ _)
def Vg(g:α->Bool):(l:List α)->(i k:Int)->gl g l i=U k->∀ (m:Nat) (y:α),l[m]?= U y->i+(m:Int)<k->g y=Y
 |[],_,_,h,_,_,_,_=>nomatch h
 |x::r,i,k,h,m,y,a,b=>by
  unfold gl at h;split at h;cases h;omega;rename_i c;cases m with
  |zero=>cases a;simpa using c
  |succ m=>exact Vg g r (i+1) k h m y a (by omega)
def PX{g:α->Int}{l:List α}{x:α}(h:Up g l)(s:∀ y∈l,g y≠g x):Up g (gt g l x):=by
 show Up g (je (if gr g l x<0 then (l.length:Int)else gr g l x) l [x]);unfold je;by_cases n:gr g l x<0;rw[uf0 n];have o:=Gp n;refine qdl l _ h (λi y a _=>?_) (λi y a B=>?_);have m:=ubg a;have:=o y m;have t:=uch this;have u:=s y m;omega;have:=(uak.1 a).1;omega;rw[uf1 n];have b:0<=gY (λy=>J (g y>g x)) l:=by unfold gr at n;omega
 obtain⟨C,z,E,e⟩:=pY b;have e:=ucx e;refine qdl l _ h (λi y a A=>?_) (λi y a B=>?_);have m:=ubg a;have w:J (g y>g x)=false:=by
  have D:gl (λy=>J (g y>g x)) l 0=U (gY (λy=>J (g y>g x)) l):=by
   unfold gY at b |-;cases v:gl (λy=>J (g y>g x)) l 0 with
   |none=>rw[v]at b;exact absurd b (by decide)
   |some k=>rfl
  refine Vg _ l 0 _ D i y a ?_;have:gr g l x=gY (λy=>J (g y>g x)) l:=rfl;omega
 have t:=uch w;have u:=s y m;omega;have f:l[(gr g l x).toNat]?= U z:=E;rcases uer (gr g l x).toNat i with r|r
 have c:=(uak.1 a);have d:=(uak.1 f);have p:=(uan.1 h) (gr g l x).toNat i d.1 c.1 r;rw[d.2,c.2]at p;omega;have:i=(gr g l x).toNat:=by omega
 rw[this]at a;rw[f]at a;cases a;omega
structure RI (s:ak.q):Prop where
 due:∀ a∈bW s,(fT a.1 s.1).2=0
 accs:Up ev (bW s)
 paid:∀ a∈bW s,0<=a.2.1/\a.2.1<=4000000000000000000
 pol:∀ g∈aJ s,∃ a∈bW s,ev a=g.1.2.1
 fils:Up kK (aJ s)
 tres:Up (λt:ah.q=>t.1) (bT s)
 clo:0<=kg s
 tl:(bT s).length<=100
def zlh(t:bh.q):RI (hZ t):=⟨λa h=>(by cases h),List.Pairwise.nil,λa h=>(by cases h),λg h=>(by cases h),List.Pairwise.nil,List.Pairwise.nil,ufe _,ufj _⟩
def zgy{s:ak.q}{id:Int}(h:¬ dw s id>=0):∀ a∈bW s,ev a≠id:=λa b=>by have:=Gp (g:=λa=>ev a==id) (l:=bW s) (by unfold dw at h;omega) a b;simpa using this
def zgx{s:ak.q}{id:Int}(h:¬ eS s id>=0):∀ g∈aJ s,kK g≠id:=λa b=>by have:=Gp (g:=λa=>kK a==id) (l:=aJ s) (by unfold eS at h;omega) a b;simpa using this
def tc{s:ak.q}{id:Int}(h:¬ dw s id<0):(bW s)[(dw s id).toNat]?= U (gc s (dw s id))/\ev (gc s (dw s id))=id:=by
 obtain⟨f,x,c,d⟩:=pY (g:=λa=>ev a==id) (l:=bW s) (by unfold dw at h;omega);have b:(bW s)[(dw s id).toNat]?= U x:=c;have e:gc s (dw s id)=x:=by show(bW s).getD (dw s id).toNat bn.j=x;rw[uah,b];rfl
 rw[e];exact⟨b,ufv d⟩
def UX{s:ak.q}{id:Int}(h:¬ eS s id<0):(aJ s)[(eS s id).toNat]?= U (FH s (eS s id))/\kK (FH s (eS s id))=id:=by
 obtain⟨f,x,c,d⟩:=pY (g:=λa=>kK a==id) (l:=aJ s) (by unfold eS at h;omega);have b:(aJ s)[(eS s id).toNat]?= U x:=c;have e:FH s (eS s id)=x:=by show(aJ s).getD (eS s id).toNat aq.j=x;rw[uah,b];rfl
 rw[e];exact⟨b,ufv d⟩
def Ye{g:α->Int}{l:List α}{x y:α}(h:y∈l\/y=x):y∈gt g l x:=by
 show y∈je _ l [x];generalize (if gr g l x<0 then (l.length:Int)else gr g l x)=i;unfold je;rw[udt,udt];rcases h with h|h
 rw[<- uba i.toNat l,udt]at h;rcases h with h|h
 exact .inl (.inl h);exact .inr h;exact .inl (.inr (ucf.2 h))
def qma{id a:Int}{t:dF.q}(h:(mH id a t).2=0):(mH id a t).1.1=id:=by unfold mH at h |-;cases b:wD id a t;rfl;rw[b]at h;have h:(1:Int)=0:=h;exact absurd h (by decide)
def ZD{h:aD.q}{c:ay.q}(e:(kV h c).2=0):(kV h c).1.1=h.1:=by unfold kV at e |-;split at e;rename_i a;rw[uf0 a];split at e;exact absurd e (by decide);rename_i b;rw[uf1 b];split at e;exact absurd e (by decide);rename_i d;rw[uf1 d];rfl;exact absurd e (by decide)
def T3{g:aq.q}{a:ba.q}(e:(eX g a).2=0):(eX g a).1.1=g.1:=by unfold eX at e |-;cases b : !(lc a);rw[b]at e;cases c:J (((List.length (α:=ba.q) g.2.1:Nat):Int)>=2000);rw[c]at e;cases d:J (a.1<qb g);rw[d]at e;cases f:(m9 g).2.2.2.2.2.1==(a.2.1==5);rw[f]at e;cases h:A8 g a;rfl;rw[h]at e;have e:(5:Int)=0:=e;exact absurd e (by decide);rw[f]at e;have e:(10:Int)=0:=e;exact absurd e (by decide);rw[d]at e;have e:(4:Int)=0:=e;exact absurd e (by decide);rw[c]at e;have e:(2:Int)=0:=e;exact absurd e (by decide);rw[b]at e;have e:(1:Int)=0:=e;exact absurd e (by decide)
def J4{b:Int}(h:(bif a==0 then b else a)=0):a=0/\b=0:=by cases c:a==0;rw[c]at h;have h:a=0:=h;rw[h]at c;exact absurd c (by decide);rw[c]at h;exact⟨ufv c,h⟩
def zle{s:ak.q}{f:ae.q}(h:RI s)(e:(fB s f).2=0):RI (fB s f).1:=by
 unfold fB at e |-;cases c:J (aI s f>=0);rw[c]at e;cases i:J (((List.length (bW s):Nat):Int)>=2000);rw[i]at e;have e:(bif (bH f).2==0 then (fT (bH f).1 s.1).2 else (bH f).2)=0:=e;obtain⟨k,l⟩:=J4 e;have d:ev ((bH f).1,0,())=iw f:=qma k;have n:=zgy (uch c);refine⟨λa b=>?_,PX h.accs (λy p=>by rw[d];exact n y p),λa b=>?_,λg m=>?_,h.fils,h.tres,h.clo,h.tl⟩;rcases o9 b with b|rfl
 exact h.due a b;exact l;rcases o9 b with b|rfl
 exact h.paid a b;exact⟨ufe _,(by decide:(0:Int)<=4000000000000000000)⟩;obtain⟨a,b,o⟩:=h.pol g m;exact⟨a,Ye (.inl b),o⟩;rw[i]at e;have e:(2:Int)=0:=e;exact absurd e (by decide);rw[c]at e;have e:(8:Int)=0:=e;exact absurd e (by decide)
def qaa{s:ak.q}(h:RI s){b x:bn.q}(m:(bW s)[i]?= U b)(f:ev x=ev b)(p:(fT x.1 s.1).2=0)(u:0<=x.2.1/\x.2.1<=4000000000000000000):RI (mE s ((bW s).set i x)):=by
 refine⟨λa c=>?_,qdm h.accs (λy o=>by rw[m]at o;cases o;exact f),λa c=>?_,λg r=>?_,h.fils,h.tres,h.clo,h.tl⟩;rcases qd c with c|rfl
 exact h.due a c;exact p;rcases qd c with c|rfl
 exact h.paid a c;exact u;obtain⟨a,c,d⟩:=h.pol g r;obtain⟨k,n⟩:=ubs c;have t:=(uak.1 m).1;by_cases l:k=i;subst l;rw[m]at n;cases n;exact⟨x,ubg (ua0 t),f.trans d⟩;exact⟨a,ubg ((ubi (λe=>l e.symm)).trans n),d⟩
def zld{s:ak.q}{f:ae.q}(h:RI s)(e:(fA s f).2=0):RI (fA s f).1:=by unfold fA at e |-;cases a:J (aI s f<0);rw[a]at e;cases c:(aJ s).any (lO f);rw[c]at e;have e:(bif (pH s f).2==0 then (fT (pH s f).1 s.1).2 else (pH s f).2)=0:=e;obtain⟨d,g⟩:=J4 e;obtain⟨b,k⟩:=tc (uch a);have i:=h.paid _ (ubg b);exact qaa h b (ZD d) g i;rw[c]at e;have e:(10:Int)=0:=e;exact absurd e (by decide);rw[a]at e;have e:(7:Int)=0:=e;exact absurd e (by decide)
def zi5{m:Int}(b:0<=a/\a<=4000000000000000000)(c:1<=m/\m<=1000000000000000)(h:¬ m>I6.wrap (4000000000000000000-a)):0<=I6.wrap (a+m)/\I6.wrap (a+m)<=4000000000000000000:=by rw[IntWalk.i64_in _ (by omega)]at h;rw[IntWalk.i64_in _ (by omega)];omega
def zli{s:ak.q}{f:ae.q}(h:RI s)(i:1<=ej f/\ej f<=1000000000000000)(e:(fD s f).2=0):RI (fD s f).1:=by unfold fD at e |-;cases b:J (aI s f<0);rw[b]at e;cases d:J (ej f>I6.wrap (4000000000000000000-(gc s (aI s f)).2.1));obtain⟨c,l⟩:=tc (uch b);have a:=ubg c;have g:=h.due _ a;have k:=zi5 (h.paid _ a) i (uch d);exact qaa h c rfl g k;rw[d]at e;have e:(5:Int)=0:=e;exact absurd e (by decide);rw[b]at e;have e:(7:Int)=0:=e;exact absurd e (by decide)
def zlg{s:ak.q}{f:ae.q}(h:RI s)(e:(fl s f).2=0):RI (fl s f).1:=by
 unfold fl at e |-;cases a:J (eS s (dk f).1>=0);rw[a]at e;cases d:J (((List.length (aJ s):Nat):Int)>=2000);rw[d]at e;cases b : !(lA s f).2;have n:=zgx (uch a);have l:¬ dw s (dk f).2.1<0:=λm=>by
  have:(lA s f).2=false:=by show(gO s (dk f).2.1).2=Y;unfold gO;rw[uf1 (by omega)]
  rw[this]at b;cases b
 obtain⟨i,k⟩:=tc l;refine⟨h.due,h.accs,h.paid,λg c=>?_,PX h.fils (λy o=>n y o),h.tres,h.clo,h.tl⟩;rcases o9 c with c|rfl
 exact h.pol g c;exact⟨_,ubg i,k⟩;rw[b]at e;have e:(7:Int)=0:=e;exact absurd e (by decide);rw[d]at e;have e:(2:Int)=0:=e;exact absurd e (by decide);rw[a]at e;have e:(8:Int)=0:=e;exact absurd e (by decide)
def zlc{s:ak.q}{f:ae.q}(h:RI s)(e:(eY s f).2=0):RI (eY s f).1:=by
 unfold eY at e |-;cases c:J (gI s f<0);rw[c]at e;have e:(pG s f).2=0:=e;have d:=T3 e;obtain⟨b,k⟩:=UX (uch c);refine⟨h.due,h.accs,h.paid,λg a=>?_,qdm h.fils (λy i=>by rw[b]at i;cases i;exact ufy (·.1) d),h.tres,h.clo,h.tl⟩;rcases qd a with a|rfl
 exact h.pol g a;rw[d];exact h.pol _ (ubg b);exact h
def zlj{s:ak.q}{f:ae.q}(h:RI s)(e:(fE s f).2=0):RI (fE s f).1:=by unfold fE at e |-;cases a:oZ s (dB f);rw[a]at e;cases b:J (((List.length (bT s):Nat):Int)>=100);cases g:jV (bT s) (dB f);refine⟨h.due,h.accs,h.paid,h.pol,h.fils,PX h.tres (λy d=>?_),h.clo,?_⟩;unfold oZ at a;rw[uc3]at a;have:=a y d;simpa using this;have c:=uch b;show(gt (λt:ah.q=>t.1) (bT s) (dB f)).length<=100;rw[Cy];omega;exact h;exact h;exact h
def zlf{s:ak.q}{f:ae.q}(h:RI s)(a:1<=dA f):RI (gi s f).1:=by unfold gi;cases b:J (dA f<=kg s);exact⟨h.due,h.accs,h.paid,h.pol,h.fils,h.tres,ue6 (by decide) a,h.tl⟩;exact h
def BF{f:ae.q}(h:cG f=Z):pp f=true:=by unfold cG at h;rw[udd,udd,udd]at h;have a:=h.2.2;rw[udd]at a;exact a.2
def qx0{f:ae.q}(h:cG f=Z)(b:aM f=3):1<=ej f/\ej f<=1000000000000000:=by have a:=BF h;unfold pp at a;rw[b]at a;have a:((md f&&J (ej f>=1))&&J (ej f<=1000000000000000))=true:=a;rw[udd,udd]at a;exact⟨ucx a.1.2,ucx a.2⟩
def V4{f:ae.q}(h:cG f=Z)(b:aM f=7):1<=dA f/\dA f<=bF f:=by have a:=BF h;unfold pp at a;rw[b]at a;have a:(J (dA f>=1)&&J (dA f<=bF f))=true:=a;rw[udd]at a;exact⟨ucx a.1,ucx a.2⟩
def TU(s:ak.q)(f:ae.q):gU s f=(bif aM f==1 then fB s f else bif aM f==2 then fA s f else bif aM f==3 then fD s f else bif aM f==4 then fl s f else bif aM f==5 then eY s f else bif aM f==6 then fE s f else gi s f):=by
 show((kB s f).1,(kB s f).2.1)=_;unfold kB;cases aM f==1;cases aM f==2;cases aM f==3;cases aM f==4;cases aM f==5;cases aM f==6<;>rfl
 rfl;rfl;rfl;rfl;rfl
def zrj{d:Int}{l:List ay.q}{c:ay.q}(h:d<c.1):lF d (([]++l)++[c])=lF d l:=by
 unfold lF;rw[udn,ucj];have:List.filter (λx:ay.q=>J (x.1<=d)) [c]=[]:=by rw[List.filter_cons_of_neg (by simpa using h)];rfl
 rw[this,uds]
def qlj{h:aD.q}{c:ay.q}{d:Int}(b:d<c.1):ip (pm h c) d=ip h d:=by unfold ip;have e:(pm h c).2.1=h.2.1:=rfl;have a:lF d (pm h c).2.2.2.1=lF d h.2.2.2.1:=zrj b;rw[e,a];rfl
def qph{h:aD.q}{t:bh.q}{c:dx.q}{d:ay.q}(a:c.2.2.2.2.1<d.1):fz (pm h d) t c=fz h t c:=by
 have e:fG (pm h d) t c.2.2.2.2.1=fG h t c.2.2.2.2.1:=by unfold fG;rw[qlj a]
 unfold fz;rw[e];rfl
def zjz{h:aD.q}{d:ay.q}(a:(kV h d).2=0):(kV h d).1=pm h d:=by unfold kV at a |-;split;rename_i b;rw[uf0 b]at a;split;rename_i c;rw[uf0 c]at a;cases a;rename_i c;rw[uf1 c]at a;split;rename_i e;rw[uf0 e]at a;cases a;rfl;rename_i b;rw[uf1 b]at a;cases a
def Ve:{l:List ar.q}->(em p l).2=Z->(em p l).1.1=p
 |[],h=>by cases h
 |c::l,h=>by unfold em at h |-;split;rename_i a;exact a;rename_i a;rw[uf1 a]at h;exact Ve h
def qpi{h:aD.q}{t:bh.q}{c:dx.q}(e:(fz h t c).2=0):(fz h t c).1.1=c.2.2.1:=by unfold fz at e |-;split;rename_i b;rw[uf0 b]at e;split;rename_i d;rw[uf0 d]at e;split;rename_i f;rw[uf0 f]at e;split;rename_i a;rw[uf0 a]at e;unfold Fh at e |-;split;rename_i g;rw[uf0 g]at e;split;rename_i i;exact Ve i;rename_i i;rw[uf1 i]at e;exact absurd e (by decide);rename_i g;rw[uf1 g]at e;exact absurd e (by decide);rename_i a;rw[uf1 a]at e;exact absurd e a;rename_i f;rw[uf1 f]at e;exact absurd e (by decide);rename_i d;rw[uf1 d]at e;exact absurd e (by decide);rename_i b;rw[uf1 b]at e;exact absurd e (by decide)
def Fb(last:Int):List ba.q->Prop
 |[]=>True
 |a::l=>(last<=a.1/\lc a=Z)/\Fb a.1 l
def Tg:(l:List ba.q)->(last:Int)->(a:ba.q)->Fb last l->(match l.getLast? with|some b=>b.1|none=>last)<=a.1->lc a=Z->Fb last (l++[a])
 |[],_,_,_,d,e=>⟨⟨d,e⟩,uT⟩
 |b::l,last,a,h,d,e=>by
  refine⟨h.1,Tg l b.1 a h.2 ?_ e⟩;cases l with
  |nil=>exact d
  |cons c r=>rw[List.getLast?_cons_cons]at d;exact d
def KT{g:aq.q}{a:ba.q}(e:(eX g a).2=0):(eX g a).1=(g.1,g.2.1++[a],())/\lc a=Z/\qb g<=a.1/\List.length (α:=ba.q) g.2.1<2000:=by unfold eX at e |-;cases d:lc a;rw[d]at e;have e:(1:Int)=0:=e;exact absurd e (by decide);rw[d]at e;cases b:J (((List.length (α:=ba.q) g.2.1:Nat):Int)>=2000);rw[b]at e;cases c:J (a.1<qb g);rw[c]at e;cases f:(m9 g).2.2.2.2.2.1==(a.2.1==5);rw[f]at e;cases h:A8 g a;exact⟨rfl,rfl,ufp.1 (uch c),by have:=uch b;omega⟩;rw[h]at e;have e:(5:Int)=0:=e;exact absurd e (by decide);rw[f]at e;have e:(10:Int)=0:=e;exact absurd e (by decide);rw[c]at e;have e:(4:Int)=0:=e;exact absurd e (by decide);rw[b]at e;have e:(2:Int)=0:=e;exact absurd e (by decide)
structure CI (s:ak.q):Prop where
 ri:RI s
 cov:∀ g∈aJ s,∃ a∈bW s,ev a=g.1.2.1/\(fz a.1 s.1 g.1).2=0
 acts:∀ g∈aJ s,Fb g.1.2.2.2.2.1 g.2.1
 len:∀ g∈aJ s,List.length (α:=ba.q) g.2.1<=2000
def qoc(t:bh.q):CI (hZ t):=⟨zlh t,λg h=>(by cases h),λg h=>(by cases h),λg h=>(by cases h)⟩
def qn8{s:ak.q}{f:ae.q}(h:CI s)(e:(fB s f).2=0):CI (fB s f).1:=by have b:=zle h.ri e;unfold fB at e b |-;cases c:J (aI s f>=0);rw[c]at e b;cases d:J (((List.length (bW s):Nat):Int)>=2000);rw[d]at b;refine⟨b,λg m=>?_,h.acts,h.len⟩;obtain⟨a,l,i,k⟩:=h.cov g m;exact⟨a,Ye (.inl l),i,k⟩;exact h;exact h
def To{s:ak.q}(h:CI s){b x:bn.q}(o:(bW s)[i]?= U b)(f:ev x=ev b)(u:RI (mE s ((bW s).set i x)))(r:∀ g∈aJ s,ev b=g.1.2.1->(fz b.1 s.1 g.1).2=0->(fz x.1 s.1 g.1).2=0):CI (mE s ((bW s).set i x)):=by refine⟨u,λg n=>?_,h.acts,h.len⟩;obtain⟨a,p,d,m⟩:=h.cov g n;obtain⟨k,l⟩:=ubs p;have t:=(uak.1 o).1;by_cases c:k=i;subst c;rw[o]at l;cases l;exact⟨x,ubg (ua0 t),f.trans d,r g n d m⟩;exact⟨a,ubg ((ubi (λe=>c e.symm)).trans l),d,m⟩
def qn7{s:ak.q}{f:ae.q}(h:CI s)(b:(iv f).1=bF f)(e:(fA s f).2=0):CI (fA s f).1:=by
 have a:=zld h.ri e;unfold fA at e a |-;cases m:J (aI s f<0);rw[m]at e a;cases n:(aJ s).any (lO f);rw[n]at e a;have e:(bif (pH s f).2==0 then (fT (pH s f).1 s.1).2 else (pH s f).2)=0:=e;obtain⟨l,u⟩:=J4 e;obtain⟨o,p⟩:=tc (uch m);refine To h o (ZD l) a λg r t c=>?_;have k:=(uc3.1 n) g r;have i:g.1.2.2.2.2.1<(iv f).1:=by
  rw[b];refine ufo.1 λd=>k ?_;unfold lO;have:(g.1.2.1==iw f)=true:=by rw[<- t,p];simp
  rw[this];exact ueb d
 show(fz (pH s f).1 s.1 g.1).2=0;rw[zjz l,qph i];exact c;exact h;exact h
def qod{s:ak.q}{f:ae.q}(h:CI s)(k:1<=ej f/\ej f<=1000000000000000)(e:(fD s f).2=0):CI (fD s f).1:=by have a:=zli h.ri k e;unfold fD at e a |-;cases c:J (aI s f<0);rw[c]at e a;cases i:J (ej f>I6.wrap (4000000000000000000-(gc s (aI s f)).2.1));rw[i]at a;obtain⟨d,l⟩:=tc (uch c);exact To h d rfl a λg m n b=>b;exact h;exact h
def qki{s:ak.q}(h:Up ev (bW s)){a:bn.q}(t:a∈bW s):gO s (ev a)=(a,Z):=by
 have n:¬ dw s (ev a)<0:=λc=>by have:=Gp (g:=λb=>ev b==ev a) (l:=bW s) c a t;simp at this
 obtain⟨i,r⟩:=tc n;have e:gc s (dw s (ev a))=a:=by
  obtain⟨k,p⟩:=ubs t;have d:=uak.1 i;have f:=uak.1 p;rcases uct (dw s (ev a)).toNat k with c|m|o
  have:=(uan.1 h) _ _ d.1 f.1 c;rw[d.2,f.2,r]at this;exact absurd this (uep _);rw[m]at i;rw[i]at p;exact ud4 p;have:=(uan.1 h) _ _ f.1 d.1 o;rw[d.2,f.2,r]at this;exact absurd this (uep _)
 unfold gO;rw[uf0 (by omega)];exact ufz e rfl
def qob{s:ak.q}{f:ae.q}(h:CI s)(e:(fl s f).2=0):CI (fl s f).1:=by
 have b:=zlg h.ri e;unfold fl at e b |-;cases l:J (eS s (dk f).1>=0);rw[l]at e b;cases m:J (((List.length (aJ s):Nat):Int)>=2000);rw[m]at e b;cases c : !(lA s f).2;rw[c]at e b;have e:(fz (lA s f).1.1 s.1 (dk f)).2=0:=e;have n:¬ dw s (dk f).2.1<0:=λo=>by
  have:(lA s f).2=false:=by show(gO s (dk f).2.1).2=Y;unfold gO;rw[uf1 (by omega)]
  rw[this]at c;cases c
 obtain⟨i,k⟩:=tc n;have d:(lA s f).1=gc s (dw s (dk f).2.1):=by show(gO s (dk f).2.1).1=_;unfold gO;rw[uf0 (by omega)]
 refine⟨b,λg a=>?_,λg a=>?_,λg a=>?_⟩;rcases o9 a with a|rfl
 exact h.cov g a;exact⟨_,ubg i,k,by rw[<- d];exact e⟩;rcases o9 a with a|rfl
 exact h.acts g a;trivial;rcases o9 a with a|rfl
 exact h.len g a;exact ufj _;exact h;exact h;exact h
def qn6{s:ak.q}{f:ae.q}(h:CI s)(e:(eY s f).2=0):CI (eY s f).1:=by
 have m:=zlc h.ri e;unfold eY at e m |-;cases o:J (gI s f<0);rw[o]at e m;have e:(pG s f).2=0:=e;obtain⟨i,n,k,l⟩:=KT e;obtain⟨p,r⟩:=UX (uch o);have b:=ubg p;have d:=h.cov _ b;have c:=h.acts _ b;refine⟨m,λg a=>?_,λg a=>?_,λg a=>?_⟩;rcases qd a with a|rfl
 exact h.cov g a;rw[i];exact d;rcases qd a with a|rfl
 exact h.acts g a;rw[i];exact Tg _ _ _ c k n;rcases qd a with a|rfl
 exact h.len g a;rw[i];show List.length (_++[_])<=2000;rw[ub6,ua7];exact l;exact h
def qoe{s:ak.q}{f:ae.q}(h:CI s)(e:(fE s f).2=0):CI (fE s f).1:=by have a:=zlj h.ri e;unfold fE at e a |-;cases b:oZ s (dB f);rw[b]at a;cases c:J (((List.length (bT s):Nat):Int)>=100);rw[c]at a;cases d:jV (bT s) (dB f);rw[d]at a;exact⟨a,h.cov,h.acts,h.len⟩;exact h;exact h;exact h
def qn9{s:ak.q}{f:ae.q}(h:CI s)(c:1<=dA f):CI (gi s f).1:=by have a:=zlf h.ri c;unfold gi at a |-;cases b:J (dA f<=kg s);rw[b]at a;exact⟨a,h.cov,h.acts,h.len⟩;exact h
def qx1{f:ae.q}(h:cG f=Z)(b:aM f=2):(iv f).1=bF f:=by have a:=BF h;unfold pp at a;rw[b]at a;have a:((md f&&fk (iv f))&&(iv f).1==bF f)=true:=a;rw[udd]at a;exact ufv a.2
def qoa{s:ak.q}{f:ae.q}(h:CI s)(a:cG f=Z)(e:(gU s f).2=0):CI (gU s f).1:=by
 have b:=BG a;rw[TU]at e |-;rcases qs b with k|k|k|k|k|k|k<;>rw[k]at e |-
 exact qn8 h e;exact qn7 h (qx1 a k) e;exact qod h (qx0 a k) e;exact qob h e;exact qn6 h e;exact qoe h e;exact qn9 h (V4 a k).1
def oL(k:aE.q)(f:ae.q):aE.q:=bif (cN k f).2==0 then (cN k f).1 else k
abbrev ew:Ty:=.pair i64 (.pair i64 .unit)
abbrev bj:Ty:=.pair i64 (.pair ar (.pair aP .unit))
abbrev bQ:Ty:=.pair i64 (.pair i64 (.pair i64 (.pair i64 (.pair i64 (.pair i64 .unit)))))
abbrev cO:Ty:=.pair bQ (.pair .bool .unit)
abbrev aA:Ty:=.pair i64 (.pair ba .unit)
abbrev db:Ty:=.pair i64 (.pair i64 (.pair i64 .unit))
abbrev cL:Ty:=.pair i64 (.pair i64 (.pair i64 .unit))
abbrev bD:Ty:=.pair i64 (.pair i64 .unit)
abbrev aW:Ty:=.pair i64 (.pair i64 (.pair (.sl bD) .unit))
abbrev bq:Ty:=.pair (.sl aW) .unit
abbrev dX:Ty:=.pair i64 (.pair i64 (.pair i64 (.pair i64 (.pair i64 (.pair i64 (.pair i64 (.pair i64 (.pair i64 (.pair i64 .unit)))))))))
abbrev bE:Ty:=.pair i64 (.pair dX (.pair u64 .unit))
def CV6:Cx:=cx [(166,mL),(95,kv),(70,kw)] []
def QQ:CxOK prog CV6:=aQ aH ⟨D5,Aw,zh,uT⟩ trivial
def F9(x:ap [.d ah,.d ax]):Fr (aa [i64,.bool]):=
 Jb (bif x.1.2.1 != 1 then Z else !(mL.f x).1) (Jv (0,Y,())) (Jv ((kv.f (x.2.1.2.2.2.2.1,x.1.2.2.2.1,())).1,Z,()))
def qvh:ag prog 124 ⟨[.d ah,.d ax],[i64,.bool],λxs=>(F9 xs).get,λxs=>[(F9 xs).ok]⟩:=
 cF QQ (Λ:=bK) (fn:=f124) (aY [.d ah,.d ax]) (by kernel_rfl) (λc E _=>bm c 0) (λx=>by kernel_rfl)
def EV:Ct:=⟨[.d ah,.d ax],[i64,.bool],λx=>(F9 x).get,λ_=>[]⟩
def SX:ag prog 124 EV:=conv qvh _ _ (λ_ _ x _ _ _=>⟨by unfold F9;repeat' first|exact trivial|intro _|refine⟨?_,?_⟩|decide,rfl⟩)
def LQ(x:ap [.d ah]):Fr (aa [.bool]):=
 Jv (bif (kw.f (x.1,())).1 then x.1.2.1 != 1 else Y,())
def qul:ag prog 203 ⟨[.d ah],[.bool],λxs=>(LQ xs).get,λxs=>[(LQ xs).ok]⟩:=
 cF QQ (Λ:=bK) (fn:=f203) (aY [.d ah]) (by kernel_rfl) (λc E _=>bm c 0) (λx=>by kernel_rfl)
def EL:Ct:=⟨[.d ah],[.bool],λx=>(LQ x).get,λ_=>[]⟩
def qm3:ag prog 203 EL:=conv qul _ _ (λ_ _ x _ _ _=>⟨uT,rfl⟩)
def CV7:Cx:=cx [(203,EL),(95,kv),(136,kZ)] []
def QS:CxOK prog CV7:=aQ aH ⟨qm3,Aw,AX,uT⟩ trivial
def Fz(x:ap [.d ah,.d i64]):Fr (aa [i64]):=
 Jb (bif !(EL.f (x.1,())).1 then Z else J (x.2.1<=x.1.2.2.2.2.1)) (Jv (0,())) (Jv (if I6.wrap (x.2.1-x.1.2.2.2.2.1)<x.1.2.2.2.2.2.1 then I6.wrap (x.2.1-x.1.2.2.2.2.1)else x.1.2.2.2.2.2.1,()))
def quj:ag prog 172 ⟨[.d ah,.d i64],[i64],λxs=>(Fz xs).get,λxs=>[(Fz xs).ok]⟩:=
 cF QS (Λ:=bK) (fn:=f172) (aY [.d ah,.d i64]) (by kernel_rfl) (λc E _=>bm c 0) (λx=>by kernel_rfl)
def py:Ct:=⟨[.d ah,.d i64],[i64],λx=>(Fz x).get,λ_=>[]⟩
def SR:ag prog 172 py:=conv quj _ _ (λ_ _ x _ _ _=>⟨by unfold Fz;repeat' first|exact trivial|intro _|refine⟨?_,?_⟩|decide,rfl⟩)
def F4(x:ap [.d ah]):Fr (aa [i64]):=
 Jb (!(EL.f (x.1,())).1) (Jv (0,())) (Jv (I6.wrap (x.1.2.2.2.2.2.1*I6.wrap (1+x.1.2.2.2.2.2.2.1)),()))
def quk:ag prog 170 ⟨[.d ah],[i64],λxs=>(F4 xs).get,λxs=>[(F4 xs).ok]⟩:=
 cF QS (Λ:=bK) (fn:=f170) (aY [.d ah]) (by kernel_rfl) (λc E _=>bm c 0) (λx=>by kernel_rfl)
def tB:Ct:=⟨[.d ah],[i64],λx=>(F4 x).get,λ_=>[]⟩
def SS:ag prog 170 tB:=conv quk _ _ (λ_ _ x _ _ _=>⟨by unfold F4;repeat' first|exact trivial|intro _|refine⟨?_,?_⟩|decide,rfl⟩)
abbrev yK:Pt:=⟨19,0,⟨[(9,.d i64),(8,.d i64),(7,.d aP),(0,.d i64)],[]⟩,⟨[(0,.d i64)],[]⟩,⟨[],[]⟩⟩
def P2(k:Int×(List Int))(b:Prop)(i:Int)(e:i64.q)(s:Int):Fr (Int):=
 Jd b (Jv (if e<s then e else s))
def Rr:yK.M.X->Fr yK.Out:=FG (λx=>(x.1.1,(x.1.2.1,x.1.2.2.1),x.1.2.2.2.1)) (λk=>k.1) (λk=>k.2) P2 (λk s=>((s,()),()))
def zea:af prog (.loop (au f139 0)) yK.M yK Rr:=
 cX aL (λi k s=>((i,k.1,k.2,s,()),())) i64.j
def qyl:=λk s=>bw (P2 k True) 0 k.2 s
def zhd:=λk s=>bY (P2 k True) 0 k.2 s
def zsq(a:Gm):St->Option Tr:=yK.han a yK.M Rr
def Eb:(a:List PT)->ap a->Prop
 |[],_=>True
 |.d t::r,x=>Wf t x.1/\Eb r x.2
 |_::r,x=>Eb r x.2
def vW:{ps:List PT} -> {x:ap ps} -> {vs:List Value}->dm P w F ps x vs->Eb ps x
 |[],_,_,_=>trivial
 |.d _::_,_,_,⟨_,_,_,h,a⟩=>⟨aG.wf h.2.2,vW a⟩
 |.ptr _::r,x,_,⟨_,_,_,_,a⟩=>vW (ps:=r) (x:=x.2) a
 |.fn _ _::r,x,_,⟨_,_,_,_,a⟩=>vW (ps:=r) (x:=x.2) a
 |.pf _ _::r,x,_,⟨_,_,_,_,a⟩=>vW (ps:=r) (x:=x.2) a
 |.pfn _ _::r,x,_,⟨_,_,_,_,a⟩=>vW (ps:=r) (x:=x.2) a
 |.pk f::r,x,_,⟨_,_,_,_,a⟩=>vW (ps:=r) (x:=x.2) a
def cq{a:List PT}{c:List Ty}{fr:ap a->Fr (aa c)}(h:ag P f ⟨a,c,λxs=>(fr xs).get,λxs=>[(fr xs).ok]⟩)(ok:ap a->List Prop)(d:∀ xs,Eb a xs->az (ok xs)->(fr xs).ok):ag P f ⟨a,c,λx=>(fr x).get,ok⟩:=
 conv h _ ok (λ_ _ xs _ e b=>⟨d xs (vW e) b,rfl⟩)
def Xu{E:Env}{Λ:Nat->St->Option Tr}{c b0 b1:Code}(k:cD c=2)(b:Go.Ab.loopB c 0=U b0)(d:Go.Ab.loopB c 1=U b1)(f:km P E b0 (Λ 0))(g:km P E b1 (Λ 1)):co P E Λ c 0:=by
 refine mf c 0 λi h a=>?_;have e:=Go.Ab.loopB_lt a
 match i,a,e with
 |0,a,_=>rw[b]at a;cases a;exact f
 |1,a,_=>rw[d]at a;cases a;exact g
 |i+2,_,e=>omega
def jd(h:n<=maxLen):InK (n:Int) 0 n:=⟨rfl,ufe _,ub4 _,by unfold maxLen at h;omega⟩
def yx{step:Int->T->σ->Fr σ}(h:∀ i e s,(step i e s).ok):(l:List T)->(i:Int)->(s:σ)->bY step i l s
 |[],_,_=>trivial
 |_::r,_,_=>⟨h _ _ _,yx h r _ _⟩
def Oh{step:Int->T->σ->Fr (σ ⊕ ρ)}(h:∀ i e s,(step i e s).ok):(l:List T)->(i:Int)->(s:σ)->eI step i l s
 |[],_,_=>trivial
 |_::r,_,_=>⟨h _ _ _,by split;exact Oh h r _ _;trivial⟩
def qz{p q:Prop}{g:σ}{k:σ->Fr α}(b:p)(c:q)(a:∀ s,(k s).ok):(cT p q g k).ok:=⟨b,c,a g⟩
def sS{p q:Prop}{g:σ ⊕ ρ}{d:σ}{a:ρ}{k:σ->Fr α}{r:ρ->Fr α}(c:p)(e:q)(b:∀ s,(k s).ok)(f:∀ y,(r y).ok):(iS p q g d a k r).ok:=⟨c,e,λ_=>b _,λ_=>f _⟩
def LJ(x:ap [.d i64,.d aP]):Fr (aa [i64]):=
 cT (InK (((List.length x.2.1):Int)) 0 (List.length x.2.1)) (zhd (((List.length x.2.1):Int),x.2.1) x.1) (qyl (((List.length x.2.1):Int),x.2.1) x.1) (λa=>Jv (if a<0 then 0 else a,()))
def qtz:ag prog 139 ⟨[.d i64,.d aP],[i64],λxs=>(LJ xs).get,λxs=>[(LJ xs).ok]⟩:=
 cF aL (Λ:=(λ_=>zsq eN.Γ)) (fn:=f139) (aY [.d i64,.d aP]) (by kernel_rfl) (λc E a=>fH a (by kernel_rfl) (b:=au f139 0) (by kernel_rfl) (af.han aL rfl zea)) (λx=>by kernel_rfl)
def nQ:Ct:=⟨[.d i64,.d aP],[i64],λx=>(LJ x).get,λ_=>[]⟩
def SQ:ag prog 139 nQ:=cq qtz _ (λx a _=>qz (jd a.2.1.1) (by refine yx (λ_ _ _=>?_) _ _ _;exact⟨uT,uT⟩) (λ_=>uT))
def qhi:Cx:=cx [(139,nQ),(95,kv)] []
def QC:CxOK prog qhi:=aQ aH ⟨SQ,Aw,uT⟩ trivial
def LI(x:ap [.d ar,.d i64]):Fr (aa [i64]):=
 Jv ((nQ.f (I6.wrap (x.2.1-x.1.2.2.2.1),[x.1.2.1],())).1,())
def qty:ag prog 137 ⟨[.d ar,.d i64],[i64],λxs=>(LI xs).get,λxs=>[(LI xs).ok]⟩:=
 cF QC (Λ:=bK) (fn:=f137) (aY [.d ar,.d i64]) (by kernel_rfl) (λc E _=>bm c 0) (λx=>by kernel_rfl)
def AI:Ct:=⟨[.d ar,.d i64],[i64],λx=>(LI x).get,λ_=>[]⟩
def qmx:ag prog 137 AI:=cq qty _ (λx a _=>uT)
def LK(x:ap [.d ar,.d i64]):Fr (aa [i64]):=
 Jv ((kv.f (x.2.1,x.1.2.2.2.2.1,())).1,())
def qt0:ag prog 138 ⟨[.d ar,.d i64],[i64],λxs=>(LK xs).get,λxs=>[(LK xs).ok]⟩:=
 cF QC (Λ:=bK) (fn:=f138) (aY [.d ar,.d i64]) (by kernel_rfl) (λc E _=>bm c 0) (λx=>by kernel_rfl)
def AJ:Ct:=⟨[.d ar,.d i64],[i64],λx=>(LK x).get,λ_=>[]⟩
def qmy:ag prog 138 AJ:=cq qt0 _ (λx a _=>uT)
abbrev zt:Ty:=.pair i64 .unit
def XvT:FuncId->Option (Func×(Nat->St->Option Tr)):=cR [(171,(f171,bK))]
def qhj:Cx:=dI [(166,mL),(172,py)] [] (iJ prog (cx [] []) XvT)
def qhk:CxOK prog qhj:=dP aH ⟨D5,SR,uT⟩ trivial (jt (aQ (cs:=[]) (ps:=[]) aH trivial trivial) (nD (by kernel_rfl) sP))
abbrev yR:Pt:=⟨58,1,⟨[(39,.d i64),(38,.d i64),(37,.d (.sl ax))],[.x 2 44 ah,.r 2 2 0,.o 7 3 i64,.x 35 320 zt,.r 8 35 (1000000000+171)]⟩,⟨[],[.o 7 3 i64]⟩,⟨[],[]⟩⟩
def Ib(k:Int×(List ax.q)×ah.q)(b:Prop)(i:Int)(e:ax.q)(s:(List Int)×zt.q):Fr ((List Int)×zt.q):=
 Jd b (Jb ((mL.f (k.2.2,e,())).1) (Jd (0<=i/\i<(s.1.length:Int)) (Jd (Int.toNat i<s.1.length) (Jv (s.1.set (Int.toNat i) (if s.2.1<(py.f (k.2.2,e.2.2.2.2.1,())).1 then s.2.1 else (py.f (k.2.2,e.2.2.2.2.1,())).1),I6.wrap (s.2.1-if s.2.1<(py.f (k.2.2,e.2.2.2.2.1,())).1 then s.2.1 else (py.f (k.2.2,e.2.2.2.2.1,())).1),())))) (Jv (s.1,s.2.1,())))
def R0:yR.M.X->Fr yR.Out:=FG (λx=>(x.1.1,(x.1.2.1,x.1.2.2.1,x.2.1),(x.2.2.1,x.2.2.2.1))) (λk=>k.1) (λk=>k.2.1) Ib (λk s=>((),s.1,()))
def zes:af prog (.loop (au f122 0)) yR.M yR R0:=
 cX qhk (λi k s=>((i,k.1,k.2.1,()),k.2.2,s.1,s.2,())) ax.j
def VS:=λk s=>bw (Ib k True) 0 k.2.1 s
def YG:=λk s=>bY (Ib k True) 0 k.2.1 s
def zsy(a:Gm):St->Option Tr:=yR.han a yR.M R0
def qzn:ag prog 165 (ge ax):=
 xT (cZ (fn:=f165) aL (yg ax (af.of_run aL (bs:=0) rfl rfl rfl (λ_=>bm _ 0) (λx=>by kernel_rfl))) (ps:=[.d (.sl ax),jP ax]) (rs:=[i64]) (fr:=r8 ax))
def qg0:Cx:=cx [(165,ge ax)] []
def qg1:CxOK prog qg0:=aQ aH ⟨qzn,uT⟩ trivial
def Sc:ag prog 115 (ir ax):=
 conv (aT qg1 f115 (fr:=λx=>Jv (J (gY (λn=>(x.2.1 (n,())).1) x.1>=0),())) (ps:=[.d (.sl ax),jP ax]) (rs:=[.bool])) _ _
  (λ_ _ x _ _ _=>⟨uT,ufz (BR _ x.1) rfl⟩)
def qzo:ag prog 58 (ge bD):=
 xT (cZ (fn:=f58) aL (yg bD (af.of_run aL (bs:=0) rfl rfl rfl (λ_=>bm _ 0) (λx=>by kernel_rfl))) (ps:=[.d (.sl bD),jP bD]) (rs:=[i64]) (fr:=r8 bD))
def qg2:Cx:=cx [(58,ge bD)] []
def qg3:CxOK prog qg2:=aQ aH ⟨qzo,uT⟩ trivial
def qk5:ag prog 37 (ir bD):=
 conv (aT qg3 f37 (fr:=λx=>Jv (J (gY (λn=>(x.2.1 (n,())).1) x.1>=0),())) (ps:=[.d (.sl bD),jP bD]) (rs:=[.bool])) _ _
  (λ_ _ x _ _ _=>⟨uT,ufz (BR _ x.1) rfl⟩)
def qzm:ag prog 80 (ge bj):=
 xT (cZ (fn:=f80) aL (yg bj (af.of_run aL (bs:=0) rfl rfl rfl (λ_=>bm _ 0) (λx=>by kernel_rfl))) (ps:=[.d (.sl bj),jP bj]) (rs:=[i64]) (fr:=r8 bj))
def qhl:Cx:=cx [(113,nO)] []
def qhm:CxOK prog qhl:=aQ aH ⟨CH,uT⟩ trivial
def LP(x:ap [.d ax]):Fr (aa [.bool]):=
 Jv (!(nO.f (x.1,())).1,())
def quh:ag prog 169 ⟨[.d ax],[.bool],λxs=>(LP xs).get,λxs=>[(LP xs).ok]⟩:=
 cF qhm (Λ:=bK) (fn:=f169) (aY [.d ax]) (by kernel_rfl) (λc E _=>bm c 0) (λx=>by kernel_rfl)
def EK:Ct:=⟨[.d ax],[.bool],λx=>(LP x).get,λ_=>[]⟩
def qm1:ag prog 169 EK:=cq quh _ (λx a _=>uT)
def QD:Cx:=cx [(70,kw),(115,ir ax),(169,EK),(170,tB)] []
def QE:CxOK prog QD:=aQ aH ⟨zh,Sc,qm1,SS,uT⟩ trivial
def Bk(x:ap [.d ah,.d (.sl ax)]):Fr (aa [aP,i64]):=
 Jd ((bif !(kw.f (x.1,())).1 then Z else x.1.2.1 != 2)=Y->∀ (x:aa [ax]),gN [ax] x->az (EK.ok (x.1,()))) (Jb (bif bif !(kw.f (x.1,())).1 then Z else x.1.2.1 != 2 then Z else ((ir ax).f (x.2.1,λx=>EK.f (x.1,()),())).1) (Jv ([],1,())) (Jb (J (((List.length x.2.1):Int)>2000)) (Jv ([],2,())) (Jd (0<=((List.length x.2.1):Int)/\((List.length x.2.1):Int)<=((List.length x.2.1):Int)/\((List.length x.2.1):Int)<=(maxLen:Int)/\((List.length x.2.1):Int)*(8:Int)<=140737488355328) (cT (InK (((List.length x.2.1):Int)) 0 (List.length x.2.1)) (YG (((List.length x.2.1):Int),x.2.1,x.1) (Lrp (((List.length x.2.1):Int)).toNat 0,(tB.f (x.1,())).1,())) (VS (((List.length x.2.1):Int),x.2.1,x.1) (Lrp (((List.length x.2.1):Int)).toNat 0,(tB.f (x.1,())).1,())) (λa=>Jv (a.1,0,()))))))
def qui:ag prog 122 ⟨[.d ah,.d (.sl ax)],[aP,i64],λxs=>(Bk xs).get,λxs=>[(Bk xs).ok]⟩:=
 cF QE (Λ:=(λ_=>zsy QD.Γ)) (fn:=f122) (aY [.d ah,.d (.sl ax)]) (by kernel_rfl) (λc E a=>fH a (by kernel_rfl) (b:=au f122 0) (by kernel_rfl) (af.han QE rfl zes)) (λx=>by kernel_rfl)
def X1(h:J ((n:Int)>2000)=Y):n<=2000:=by have:=uch h;omega
def ou{l:List α}(a:i<n)(b:l.length=n):(0<=(i:Int)/\(i:Int)<(l.length:Int))/\Int.toNat (i:Int)<l.length:=by rw[b,uc0];exact⟨⟨ub4 _,Int.ofNat_lt.2 a⟩,a⟩
def eO{l:List α}{e:α}(h:l[i]?= U e):i<l.length:=(uak.1 h).1
def zci(t:ah.q)(l:List ax.q)(s:List Int×zt.q)(a:s.1.length=l.length):
  YG ((l.length:Int),l,t) s/\(VS ((l.length:Int),l,t) s).1.length=l.length:=
 dK (step:=Ib ((l.length:Int),l,t) True) (λ_ (s:List Int×zt.q)=>s.1.length=l.length) l (λi e s d a=>by obtain⟨b,c⟩:=ou (eO d) a;exact⟨uT,λ_=>⟨b,c,(show(List.set _ _ _).length=_ by rw[udp];exact a)⟩,λ_=>a⟩) s a
def Xz(t:ah.q)(l:List ax.q):(Bk (t,l,())).s7 (λy=>y.1=[]\/y.1.length=l.length):=by unfold Bk;refine⟨λ_ _ _=>uT,λ_=>.inl rfl,λ_=>⟨λ_=>.inl rfl,λh=>?_⟩⟩;have a:l.length<=2000:=X1 h;exact⟨yj (ueq a (by decide)),ii (A:=λ(s:List Int×zt.q)=>s.1.length=l.length) (eU (ueq a (by decide))) (zci t l _ (by show(Lrp _ _).length=_;rw[ubc,uc0])) (λs b=>.inr b)⟩
def AL:Ct:=⟨[.d ah,.d (.sl ax)],[aP,i64],λx=>(Bk x).get,λ_=>[]⟩
def qm2:ag prog 122 AL:=cq qui _ (λx _ _=>(dt (Xz x.1 x.2.1)).1)
def zcj(t:ah.q)(l:List ax.q):(AL.f (t,l,())).1=[]\/(AL.f (t,l,())).1.length=l.length:=(dt (Xz t l)).2
def QF:Cx:=nV [(166,mL)] [] [(1000000000000+126,.rw 0 3)] (λ_ _ _ _=>V)
def IN:CxOK prog QF:=pE (cs:=[(166,mL)]) (ps:=[]) (rs:=[(1000000000000+126,.rw 0 3)]) aH ⟨D5,uT⟩ trivial ⟨uT,uT⟩ (λ_ _ _ _ _ h=>(nomatch h))
abbrev NM:Ty:=.pair i64 i64
abbrev yO:Pt:=⟨57,0,⟨[(13,.d i64),(12,.d i64),(11,.d (.sl ax))],[.x 2 44 ah,.r 2 2 0,.o 5 (fJ 126 0 3) aP,.o 6 fh NM]⟩,⟨[],[.o 5 (fJ 126 0 3) aP]⟩,⟨[],[]⟩⟩
def Ia(k:Int×(List ax.q)×ah.q)(b:Prop)(i:Int)(e:ax.q)(s:(List (List Int))×(List NM.q)):Fr ((List (List Int))×(List NM.q)):=
 let g:=(s.1.length:Int);let c:=jf s.2 e.2.1 0-1;let a:=I6.wrap c;let d:=s.1.getD a.toNat aP.j;Jd b (Jb (!(mL.f (k.2.2,e,())).1) (Jv (s.1,s.2)) (Jb (bif e.2.1 != 0 then J (jf s.2 e.2.1 0>0)else Y) (Jd (0<=I6.wrap c/\I6.wrap c<g) (Jd (a.toNat<s.1.length) (Jd (List.length d + [i].length<=maxLen/\(List.length d + [i].length)*8<=140737488355328) (Jd (0<=I6.wrap c/\I6.wrap c<g) (Jd (a.toNat<s.1.length/\a.toNat=a.toNat) (Jv (s.1.set a.toNat (s.1.getD a.toNat aP.j++[i]),s.2))))))) (Jd (s.1.length + [[i]].length<=maxLen/\(s.1.length + [[i]].length)*24<=140737488355328) (Jd (s.2.length<maxLen) (Jv (s.1++[[i]],eZ s.2 e.2.1 ((s.1++[[i]]).length:Int)))))))
def Rv:yO.M.X->Fr yO.Out:=FG (λx=>(x.1.1,(x.1.2.1,x.1.2.2.1,x.2.1),(x.2.2.1,x.2.2.2.1))) (λk=>k.1) (λk=>k.2.1) Ia (λk s=>((),s.1,()))
def zej:af prog (.loop (au f173 0)) yO.M yO Rv:=
 cX IN (λi k s=>((i,k.1,k.2.1,()),k.2.2,s.1,s.2,())) ax.j
def VQ:=λk s=>bw (Ia k True) 0 k.2.1 s
def YB:=λk s=>bY (Ia k True) 0 k.2.1 s
def zsu(a:Gm):St->Option Tr:=yO.han a yO.M Rv
def LM(x:ap [.d ah,.d (.sl ax)]):Fr (aa [.sl aP]):=
 cT (InK (((List.length x.2.1):Int)) 0 (List.length x.2.1)) (YB (((List.length x.2.1):Int),x.2.1,x.1) ([],[])) (VQ (((List.length x.2.1):Int),x.2.1,x.1) ([],[])) (λa=>Jv (a.1,()))
def qt3:ag prog 173 ⟨[.d ah,.d (.sl ax)],[.sl aP],λxs=>(LM xs).get,λxs=>[(LM xs).ok]⟩:=
 cF IN (Λ:=(λ_=>zsu QF.Γ)) (fn:=f173) (aY [.d ah,.d (.sl ax)]) (by kernel_rfl) (λc E a=>fH a (by kernel_rfl) (b:=au f173 0) (by kernel_rfl) (af.han IN rfl zej)) (λx=>by kernel_rfl)
def zgn{l:List (Int×Int)}{n:Int}:∀ p∈eZ l n y,p∈l\/p=(n,y):=by
 induction l with
 |nil=>intro p a;exact .inr (ucf.1 a)
 |cons x r c=>
  intro p a;unfold eZ at a;cases b:x.1==n with
  |true=>
   rw[b]at a;rcases uej.1 a with h|h
   exact .inr h;exact .inl (ubj _ h)
  |false=>
   rw[b]at a;rcases uej.1 a with h|h
   exact .inl (h ▸ ucc);rcases c p h with h|h
   exact .inl (ubj _ h);exact .inr h
def zgm{l:List (Int×Int)}{n:Int}:(eZ l n y).length<=l.length+1:=by
 induction l with
 |nil=>exact ufd _
 |cons x r a=>
  unfold eZ;cases b:x.1==n with
  |true=>exact ufk _
  |false=>exact udk a
def zgi{l:List (Int×Int)}{n:Int}(h:jf l n 0>0):∃ p∈l,p.2=jf l n 0:=by unfold jf at h |-;split at h;rename_i x a;exact⟨x,List.mem_of_find?_eq_some a,rfl⟩;exact absurd h (by decide)
structure EvI (n i:Nat) (s:List (List Int)×List (Int×Int)):Prop where
 len:s.1.length<=i
 at_:∀ g∈s.1,g.length<=i/\∀ k∈g,0<=k/\k<(n:Int)
 mlen:s.2.length<=i
 map:∀ p∈s.2,1<=p.2/\p.2<=(s.1.length:Int)
def EvI.up{s:List (List Int)×List (Int×Int)}(h:EvI n i s):EvI n (i+1) s:=
 ⟨uc4 h.len,λg a=>⟨uc4 (h.at_ g a).1,(h.at_ g a).2⟩,uc4 h.mlen,h.map⟩
def EvI.put{j:Nat}{s:List (List Int)×List (Int×Int)}(h:EvI n i s)(r:i<n)(d:j<s.1.length):EvI n (i+1) (s.1.set j (s.1.getD j []++[(i:Int)]),s.2):=by
 have l:s.1.getD j []∈s.1:=by rw[uah,uaq d];exact udj d
 refine⟨?_,λg c=>?_,uc4 h.mlen,λp o=>?_⟩;show(List.set _ _ _).length<=_;rw[udp];exact uc4 h.len;rcases uap c with a|a
 exact(h.up.at_ g a);subst a;obtain⟨e,f⟩:=h.at_ _ l;refine⟨?_,λk m=>?_⟩;rw[ub6];exact udk e;rcases udt.1 m with b|b
 exact f k b;rw[ucf.1 b];omega;show _/\_<=((List.set _ _ _).length:Int);rw[udp];exact h.map p o
def EvI.new{s:List (List Int)×List (Int×Int)}{m:Int}(h:EvI n i s)(f:i<n):EvI n (i+1) (s.1++[[(i:Int)]],eZ s.2 m ((s.1++[[(i:Int)]]).length:Int)):=by
 have c:(s.1++[[(i:Int)]]).length=s.1.length+1:=by rw[ub6];rfl
 refine⟨?_,λg b=>?_,ueq zgm (udk h.mlen),λp e=>?_⟩;show(s.1++[[(i:Int)]]).length<=_;rw[c];exact udk h.len;rcases udt.1 b with a|a
 exact h.up.at_ g a;rw[ucf.1 a];refine⟨udk (ufj _),λk d=>?_⟩;rw[ucf.1 d];omega;show _/\_<=((s.1++[[(i:Int)]]).length:Int);rcases zgn p e with a|a
 have:=h.map p a;rw[c];omega;rw[a,c];omega
def Lx(t:ah.q)(l:List ax.q)(B:l.length<=1000000):
  YB ((l.length:Int),l,t) ([],[])/\EvI l.length l.length (VQ ((l.length:Int),l,t) ([],[])):=by
 have A:=fI;refine dK (step:=Ia ((l.length:Int),l,t) True) (EvI l.length) l (λi e s r b=>?_) _ ⟨ufd _,λ_ h=>(nomatch h),ufd _,λ_ h=>(nomatch h)⟩;have n:=eO r;refine⟨uT,λ_=>b.up,λ_=>⟨λc=>?_,λ_=>⟨?_,?_,b.new n⟩⟩⟩;have d:jf s.2 e.2.1 0>0:=by
  have c:(bif e.2.1 != 0 then J (jf s.2 e.2.1 0>0)else Y)=true:=c;cases m:(e.2.1 != 0)with
  |true=>rw[m]at c;exact ucx c
  |false=>rw[m]at c;cases c
 obtain⟨p,u,k⟩:=zgi d;have a:=b.map p u;rw[k]at a;have o:=b.len;generalize jf s.2 e.2.1 0=v at d a;change Int at v;have y:I6.wrap (v-1)=v-1:=cV (by omega);rw[y];have w:1<=v:=a.1;have x:v<=(s.1.length:Int):=a.2;have f:(v-1).toNat<s.1.length:=by omega
 have z:(s.1.getD (v-1).toNat []).length<=i:=by
  have:s.1.getD (v-1).toNat []∈s.1:=by rw[uah,uaq f];exact udj f
  exact(b.at_ _ this).1
 have g:0<=v-1/\v-1<(s.1.length:Int):=⟨by omega,by omega⟩;refine⟨g,f,?_,g,⟨f,rfl⟩,b.put n f⟩;show(s.1.getD (v-1).toNat []).length+1<=maxLen/\((s.1.getD (v-1).toNat []).length+1)*8<=140737488355328;omega;have o:=b.len;show s.1.length+1<=maxLen/\(s.1.length+1)*24<=140737488355328;omega;have o:=b.mlen;show s.2.length<maxLen;omega
def EJ:Ct:=⟨[.d ah,.d (.sl ax)],[.sl aP],λx=>(LM x).get,λx=>[(List.length (α:=ax.q) x.2.1)<=1000000]⟩
def qm0:ag prog 173 EJ:=cq qt3 _ (λx b a=>⟨jd b.2.1.1,(Lx x.1 x.2.1 a).1,uT⟩)
def qsg(t:ah.q)(l:List ax.q)(a:l.length<=1000000):∀ g∈(EJ.f (t,l,())).1,g.length<=l.length/\∀ k∈g,0<=k/\k<(l.length:Int):=(Lx t l a).2.at_
def qhn:Cx:=cx [(113,nO)] []
def IQ:CxOK prog qhn:=aQ aH ⟨CH,uT⟩ trivial
abbrev yL:Pt:=⟨108,0,⟨[(31,.d i64),(30,.d i64),(29,.d (.sl ax)),(1,.d (.sl ax))],[.x 2 44 ah,.r 2 2 0]⟩,⟨[(1,.d (.sl ax))],[.x 2 44 ah,.r 2 2 0]⟩,⟨[(4,.d aP),(5,.d i64)],[]⟩⟩
def HW(k:Int×(List ax.q)×(List ax.q)×ah.q)(b:Prop)(i:Int)(e:ax.q)(s:Unit):Fr (Unit ⊕ yL.R.X):=
 Jd b (Jb (!(nO.f (e,())).1) (Jv (.inr (([],1,()),()))) (Jv (.inl ())))
def qjf:yL.M.X->Fr yL.Out:=FK (λx=>(x.1.1,(x.1.2.1,x.1.2.2.1,x.1.2.2.2.1,x.2.1),())) (λk=>k.1) (λk=>k.2.1) HW (λk s=>((k.2.2.1,()),k.2.2.2,())) (λ_ y=>Rd.back y) () (aY _,cf _)
def zeg:af prog (.loop (au f123 0)) yL.M yL qjf:=
 lG IQ (λi k s=>((i,k.1,k.2.1,k.2.2.1,()),k.2.2.2,())) ax.j
def qyn:=λk s=>bC (HW k True) 0 k.2.1 s
def zhf:=λk s=>eI (HW k True) 0 k.2.1 s
abbrev yM:Pt:=⟨108,4,⟨[(57,.d i64),(56,.d i64),(55,.d aP),(1,.d (.sl ax)),(9,.d i64),(11,.d aP),(51,.d i64),(50,.d i64),(49,.d (.sl aP)),(13,.d i64)],[.x 2 44 ah,.r 2 2 0,.o 8 3 i64,.o 12 3 i64]⟩,⟨[(1,.d (.sl ax)),(9,.d i64),(11,.d aP),(51,.d i64),(50,.d i64),(49,.d (.sl aP)),(13,.d i64)],[.x 2 44 ah,.r 2 2 0,.o 8 3 i64,.o 12 3 i64]⟩,⟨[],[]⟩⟩
def HX(k:Int×(List Int)×(List ax.q)×Int×(List Int)×Int×Int×(List (List Int))×ah.q×(List Int))(b:Prop)(i:Int)(e:i64.q)(s:Int×(List Int)):Fr (Int×(List Int)):=
 let d:=((List.length k.2.2.1):Int);let a:=List.getD k.2.2.1 (Int.toNat e) ax.j;let c:=a.2.2.2.2.1;Jd b (Jd (0<=e/\e<d) (Jd (s.2.length + [c].length<=maxLen/\(s.2.length + [c].length)*8<=140737488355328) (Jd (0<=e/\e<d) (Jv (I6.wrap (s.1+c),s.2++[c])))))
def WG:Code:=((Go.Ab.loopB (au f123 1) 0).getD .skip)
def Rt:yM.M.X->Fr yM.Out:=FG (λx=>(x.1.1,(x.1.2.1,x.1.2.2.1,x.1.2.2.2.1,x.1.2.2.2.2.1,x.1.2.2.2.2.2.1,x.1.2.2.2.2.2.2.1,x.1.2.2.2.2.2.2.2.1,x.1.2.2.2.2.2.2.2.2.1,x.2.1,x.2.2.1),(x.1.2.2.2.2.2.2.2.2.2.1,x.2.2.2.1))) (λk=>k.1) (λk=>k.2.1) HX (λk s=>((k.2.2.1,k.2.2.2.1,k.2.2.2.2.1,k.2.2.2.2.2.1,k.2.2.2.2.2.2.1,k.2.2.2.2.2.2.2.1,s.1,()),(k.2.2.2.2.2.2.2.2.1,k.2.2.2.2.2.2.2.2.2,s.2,())))
def zeh:af prog (.loop WG) yM.M yM Rt:=
 cX IQ (λi k s=>((i,k.1,k.2.1,k.2.2.1,k.2.2.2.1,k.2.2.2.2.1,k.2.2.2.2.2.1,k.2.2.2.2.2.2.1,k.2.2.2.2.2.2.2.1,s.1,()),k.2.2.2.2.2.2.2.2.1,k.2.2.2.2.2.2.2.2.2,s.2,())) i64.j
def VO:=λk s=>bw (HX k True) 0 k.2.1 s
def Y9:=λk s=>bY (HX k True) 0 k.2.1 s
def zss(a:Gm):St->Option Tr:=yM.han a yM.M Rt
abbrev yN:Pt:=⟨108,6,⟨[(93,.d i64),(92,.d i64),(91,.d aP),(1,.d (.sl ax)),(9,.d i64),(11,.d aP),(51,.d i64),(50,.d i64),(49,.d (.sl aP))],[.x 2 44 ah,.r 2 2 0,.o 8 3 i64]⟩,⟨[(1,.d (.sl ax)),(9,.d i64),(51,.d i64),(50,.d i64),(49,.d (.sl aP))],[.x 2 44 ah,.r 2 2 0,.o 8 3 i64]⟩,⟨[],[]⟩⟩
def HY(k:Int×(List Int)×(List ax.q)×Int×(List Int)×Int×Int×(List (List Int))×ah.q)(b:Prop)(i:Int)(e:i64.q)(s:(List Int)):Fr ((List Int)):=
 let d:=Int.toNat i;let c:=k.2.2.2.2.1;let a:=List.getD c d i64.j;Jd b (Jd (0<=i/\i<((List.length c):Int)) (Jd (0<=List.getD c d i64.j/\List.getD c d i64.j<(s.length:Int)) (Jd (Int.toNat a<s.length) (Jv (s.set (Int.toNat a) e)))))
def WH:Code:=((Go.Ab.loopB (au f123 1) 1).getD .skip)
def Ru:yN.M.X->Fr yN.Out:=FG (λx=>(x.1.1,(x.1.2.1,x.1.2.2.1,x.1.2.2.2.1,x.1.2.2.2.2.1,x.1.2.2.2.2.2.1,x.1.2.2.2.2.2.2.1,x.1.2.2.2.2.2.2.2.1,x.1.2.2.2.2.2.2.2.2.1,x.2.1),x.2.2.1)) (λk=>k.1) (λk=>k.2.1) HY (λk s=>((k.2.2.1,k.2.2.2.1,(k.2.2.2.2.2.1,k.2.2.2.2.2.2.1,k.2.2.2.2.2.2.2.1,())),(k.2.2.2.2.2.2.2.2,s,())))
def zei:af prog (.loop WH) yN.M yN Ru:=
 cX IQ (λi k s=>((i,k.1,k.2.1,k.2.2.1,k.2.2.2.1,k.2.2.2.2.1,k.2.2.2.2.2.1,k.2.2.2.2.2.2.1,k.2.2.2.2.2.2.2.1,()),k.2.2.2.2.2.2.2.2,s,())) i64.j
def VP:=λk s=>bw (HY k True) 0 k.2.1 s
def YA:=λk s=>bY (HY k True) 0 k.2.1 s
def zst(a:Gm):St->Option Tr:=yN.han a yN.M Ru
def IR:Cx:=cx [(70,kw),(113,nO),(172,py),(170,tB),(174,AB),(173,EJ)] []
def DM:CxOK prog IR:=aQ aH ⟨zh,CH,SR,SS,zoh,qm0,uT⟩ trivial
abbrev Hf:Pt:=⟨108,2,⟨[(51,.d i64),(50,.d i64),(49,.d (.sl aP)),(1,.d (.sl ax)),(9,.d i64)],[.x 2 44 ah,.r 2 2 0,.o 8 3 i64]⟩,⟨[],[.o 8 3 i64]⟩,⟨[],[]⟩⟩
def BU(k:Int×(List (List Int))×(List ax.q)×ah.q)(i:Int)(e:List Int)(s:Int×List Int):Int×(List Int)×(List ax.q)×Int×(List Int)×Int×Int×(List (List Int))×ah.q×(List Int):=((e.length:Int),e,k.2.2.1,s.1,e,i,k.1,k.2.1,k.2.2.2,s.2)
def En(t:ah.q)(left a:Int):Int:=if (py.f (t,a,())).1<left then (py.f (t,a,())).1 else left
def xn(t:ah.q)(left:Int)(r:Int×List Int):List Int:=(AB.f (En t left r.1,r.2,())).1
def N1(k:Int×(List (List Int))×(List ax.q)×ah.q)(i:Int)(e:List Int)(s:Int×List Int)(r:Int×List Int):Int×(List Int)×(List ax.q)×Int×(List Int)×Int×Int×(List (List Int))×ah.q:=
 (((xn k.2.2.2 s.1 r).length:Int),xn k.2.2.2 s.1 r,k.2.2.1,I6.wrap (s.1-En k.2.2.2 s.1 r.1),e,i,k.1,k.2.1,k.2.2.2)
def HV(k:Int×(List (List Int))×(List ax.q)×ah.q)(b:Prop)(i:Int)(e:aP.q)(s:Int×List Int):Fr (Int×List Int):=
 Jd b (cT (InK (List.length e:Int) 0 (List.length e)) (Y9 (BU k i e s) (0,[])) (VO (BU k i e s) (0,[])) (λr=>cT (InK ((xn k.2.2.2 s.1 r).length:Int) 0 (xn k.2.2.2 s.1 r).length) (YA (N1 k i e s r) s.2) (VP (N1 k i e s r) s.2) (λo=>Jv (I6.wrap (s.1-En k.2.2.2 s.1 r.1),o))))
def qje:Hf.M.X->Fr Hf.Out:=FG (λx=>(x.1.1,(x.1.2.1,x.1.2.2.1,x.1.2.2.2.1,x.2.1),(x.1.2.2.2.2.1,x.2.2.1))) (λk=>k.1) (λk=>k.2.1) HV (λk s=>((),s.2,()))
def zef:af prog (.loop (au f123 1)) Hf.M Hf qje:=
 cX DM (λi k s=>((i,k.1,k.2.1,k.2.2.1,s.1,()),k.2.2.2,s.2,())) aP.j (Λ:=(λk=>if k=0 then zss IR.Γ else zst IR.Γ)) (hΛ:=λ_=>Xu (by kernel_rfl) (b0:=WG) (b1:=WH) (by kernel_rfl) (by kernel_rfl) (af.han DM rfl zeh) (af.han DM rfl zei))
def VN:=λk s=>bw (HV k True) 0 k.2.1 s
def Y8:=λk s=>bY (HV k True) 0 k.2.1 s
def N0(t:ah.q)(l:List ax.q):Int×(List ax.q)×(List ax.q)×ah.q:=((l.length:Int),l,l,t)
def pN(t:ah.q)(l:List ax.q):List (List Int):=(EJ.f (t,l,())).1
def Fy(x:ap [.d ah,.d (.sl ax)]):Fr (aa [aP,i64]):=
 Jb (bif x.1.2.1 != 3 then Z else !(kw.f (x.1,())).1) (Jv ([],1,()))
  (iS (InK (List.length x.2.1:Int) 0 (List.length x.2.1)) (zhf (N0 x.1 x.2.1) ()) (qyn (N0 x.1 x.2.1) ()) () (aY _,cf _) (λ_=>
   Jb (J ((List.length x.2.1:Int)>2000)) (Jv ([],2,()))
    (Jd (0<=((List.length x.2.1):Int)/\((List.length x.2.1):Int)<=((List.length x.2.1):Int)/\((List.length x.2.1):Int)<=(maxLen:Int)/\((List.length x.2.1):Int)*(8:Int)<=140737488355328)
     (Jd (List.length x.2.1<=1000000)
      (cT (InK ((pN x.1 x.2.1).length:Int) 0 (pN x.1 x.2.1).length) (Y8 (((pN x.1 x.2.1).length:Int),pN x.1 x.2.1,x.2.1,x.1) ((tB.f (x.1,())).1,Lrp (((List.length x.2.1):Int)).toNat 0)) (VN (((pN x.1 x.2.1).length:Int),pN x.1 x.2.1,x.2.1,x.1) ((tB.f (x.1,())).1,Lrp (((List.length x.2.1):Int)).toNat 0))
       (λs=>Jv (s.2,0,())))))) (λy=>Jv y.1))
def qt2:ag prog 123 (bg [.d ah,.d (.sl ax)] [aP,i64] Fy):=
 oc DM zeg zef (fn:=f123)
def qr2(k:Int×(List (List Int))×(List ax.q)×ah.q)(i:Int)(e:List Int)(s:Int×List Int)(d:e.length<=100000/\∀ x∈e,0<=x/\x<(k.2.2.1.length:Int)):
  Y9 (BU k i e s) (0,[])/\(VO (BU k i e s) (0,[])).2.length=e.length:=
 dK (step:=HX (BU k i e s) True) (λj (r:Int×List Int)=>r.2.length=j) e (λj x r c b=>by
  have g:=eO c;have h:=fI;have a:=d.2 x (ubg c);have f:r.2.length<=99999:=by rw[b];omega
  refine⟨uT,a,?_,a,?_⟩;show r.2.length+1<=maxLen/\(r.2.length+1)*8<=140737488355328;omega;show(_++[_]).length=_;rw[ub6];exact ufy (· + 1) b) _ rfl
def qr3(k:Int×(List Int)×(List ax.q)×Int×(List Int)×Int×Int×(List (List Int))×ah.q)(o:List Int)(d:k.2.1.length<=k.2.2.2.2.1.length)(e:∀ x∈k.2.2.2.2.1,0<=x/\x<(o.length:Int)):
  YA k o/\(VP k o).length=o.length:=
 dK (step:=HY k True) (λ_ (r:List Int)=>r.length=o.length) k.2.1 (λj x r f c=>by
  have b:j<k.2.2.2.2.1.length:=ucb (eO f) d;have a:0<=List.getD k.2.2.2.2.1 (Int.toNat (j:Int)) i64.j/\List.getD k.2.2.2.2.1 (Int.toNat (j:Int)) i64.j<(r.length:Int):=by rw[uc0,uah,uaq b,c];exact e _ (udj b)
  refine⟨uT,(ou b rfl).1,a,?_,?_⟩;generalize List.getD k.2.2.2.2.1 (Int.toNat (j:Int)) i64.j=v at a;change Int at v;omega;show(List.set _ _ _).length=_;rw[udp];exact c) _ rfl
def qr5(k:Int×(List (List Int))×(List ax.q)×ah.q)(s:Int×List Int)(m:s.2.length=k.2.2.1.length)(f:∀ g∈k.2.1,g.length<=100000/\∀ x∈g,0<=x/\x<(k.2.2.1.length:Int)):
  Y8 k s/\(VN k s).2.length=k.2.2.1.length:=
 dK (step:=HV k True) (λ_ (r:Int×List Int)=>r.2.length=k.2.2.1.length) k.2.1 (λj e r d c=>by
  have a:=f e (ubg d);refine⟨uT,ii (A:=λ(q:Int×List Int)=>q.2.length=List.length e) (eU (ueq a.1 (by decide))) (qr2 k j e r a) (λq l=>?_)⟩;have b:(xn k.2.2.2 r.1 q).length<=List.length e:=by
   rcases zog (En k.2.2.2 r.1 q.1) q.2 with h|h
   have:xn k.2.2.2 r.1 q=[]:=h;rw[this];exact ufj _;exact Nat.le_of_eq (h.trans l)
  exact ii (A:=λ(o:List Int)=>o.length=r.2.length) (eU (ueq b (ueq a.1 (by decide)))) (qr3 (N1 k j e r q) r.2 b (by rw[c];exact a.2)) (λo i=>i.trans c)) s m
def Uw(t:ah.q)(l:List ax.q)(k:l.length<=maxLen):(Fy (t,l,())).s7 (λy=>y.1=[]\/y.1.length=l.length):=by unfold Fy;refine⟨λ_=>.inl rfl,λ_=>I8 (A:=λ_=>True) (B:=λy=>y.1.1=[]) (jd k) (o5 (step:=HW (N0 t l) True) (λ_ _=>True) (λ(y:yL.R.X)=>y.1.1=[]) l (λ_ _ _ _ _=>⟨uT,λ_=>rfl,λ_=>uT⟩) () trivial) (λ_ _=>⟨λ_=>.inl rfl,λh=>?_⟩) (λy m=>.inl m)⟩;have a:l.length<=2000:=X1 h;refine⟨yj (ueq a (by decide)),ueq a (by decide),?_⟩;have c:l.length<=1000000:=ueq a (by decide);have b:(pN t l).length<=l.length:=(Lx t l c).2.len;refine ii (A:=λ(s:Int×List Int)=>s.2.length=l.length) (eU (ueq b (ueq a (by decide)))) (qr5 (((pN t l).length:Int),pN t l,l,t) _ ?_ (λg f=>?_)) (λs i=>.inr i);show(Lrp _ _).length=_;rw[ubc,uc0];obtain⟨d,e⟩:=qsg t l c g f;exact⟨ueq d (ueq a (by decide)),e⟩
def AK:Ct:=⟨[.d ah,.d (.sl ax)],[aP,i64],λx=>(Fy x).get,λ_=>[]⟩
def qmz:ag prog 123 AK:=cq qt2 _ (λx a _=>(dt (Uw x.1 x.2.1 a.2.1.1)).1)
def qsf(t:ah.q)(l:List ax.q)(a:l.length<=maxLen):(AK.f (t,l,())).1=[]\/(AK.f (t,l,())).1.length=l.length:=(dt (Uw t l a)).2
abbrev NL:Ty:=.pair i64 .bool
def qho:Cx:=cx [(166,mL),(124,EV)] []
def IS:CxOK prog qho:=aQ aH ⟨D5,SX,uT⟩ trivial
abbrev vz:Pt:=⟨21,0,⟨[(9,.d i64),(8,.d i64),(7,.d (.sl ah))],[.o 3 fh NL]⟩,⟨[],[]⟩,⟨[(2,.d .bool)],[]⟩⟩
def qv(k:Int×(List ah.q))(b:Prop)(i:Int)(e:ah.q)(s:(List NL.q)):Fr (((List NL.q)) ⊕ vz.R.X):=
 Jd b (Jb (jf s e.1 Y) (Jv (.inr ((Z,()),()))) (Jd (s.length<maxLen) (Jv (.inl (eZ s e.1 Z)))))
def RD:vz.M.X->Fr vz.Out:=FK (λx=>(x.1.1,(x.1.2.1,x.1.2.2.1),x.2.1)) (λk=>k.1) (λk=>k.2) qv (λk s=>((),())) (λ_ y=>Rd.back y) ([]) (aY _,cf _)
def zfw:af prog (.loop (au f116 0)) vz.M vz RD:=
 lG IS (λi k s=>((i,k.1,k.2,()),s,())) ah.j
def qyu:=λk s=>bC (qv k True) 0 k.2 s
def YK:=λk s=>eI (qv k True) 0 k.2 s
def zs8(a:Gm):St->Option Tr:=vz.han a vz.M RD
abbrev ze:Pt:=⟨29,0,⟨[(10,.d i64),(9,.d i64),(8,.d (.sl ah)),(5,.d i64)],[.x 3 101 ax,.r 3 3 0]⟩,⟨[(5,.d i64)],[]⟩,⟨[],[]⟩⟩
def Ij(k:Int×(List ah.q)×ax.q)(b:Prop)(i:Int)(e:ah.q)(s:Int):Fr (Int):=
 Jd b (Jb (bif e.2.1==1 then (mL.f (e,k.2.2,())).1 else Y) (Jv (I6.wrap (s+e.2.2.2.1))) (Jv s))
def RC:ze.M.X->Fr ze.Out:=FG (λx=>(x.1.1,(x.1.2.1,x.1.2.2.1,x.2.1),x.1.2.2.2.1)) (λk=>k.1) (λk=>k.2.1) Ij (λk s=>((s,()),()))
def zfv:af prog (.loop (au f118 0)) ze.M ze RC:=
 cX IS (λi k s=>((i,k.1,k.2.1,s,()),k.2.2,())) ah.j
def qyt:=λk s=>bw (Ij k True) 0 k.2.1 s
def zho:=λk s=>bY (Ij k True) 0 k.2.1 s
def zs7(a:Gm):St->Option Tr:=ze.han a ze.M RC
abbrev yZ:Pt:=⟨47,1,⟨[(15,.d i64),(14,.d i64),(13,.d (.sl ax))],[.x 2 44 ah,.r 2 2 0,.o 5 3 i64]⟩,⟨[],[.o 5 3 i64]⟩,⟨[],[]⟩⟩
def Ii(k:Int×(List ax.q)×ah.q)(b:Prop)(i:Int)(e:ax.q)(s:(List Int)):Fr ((List Int)):=
 Jd b (Jd (0<=i/\i<(s.length:Int)) (Jd (Int.toNat i<s.length) (Jv (s.set (Int.toNat i) (EV.f (k.2.2,e,())).1))))
def RB:yZ.M.X->Fr yZ.Out:=FG (λx=>(x.1.1,(x.1.2.1,x.1.2.2.1,x.2.1),x.2.2.1)) (λk=>k.1) (λk=>k.2.1) Ii (λk s=>((),s,()))
def zfu:af prog (.loop (au f76 0)) yZ.M yZ RB:=
 cX IS (λi k s=>((i,k.1,k.2.1,()),k.2.2,s,())) ax.j
def qys:=λk s=>bw (Ii k True) 0 k.2.1 s
def zhn:=λk s=>bY (Ii k True) 0 k.2.1 s
def zs6(a:Gm):St->Option Tr:=yZ.han a yZ.M RB
def DN:Cx:=cx [(166,mL),(124,EV),(122,AL),(123,AK),(70,kw),(113,nO)] []
def qB:CxOK prog DN:=aQ aH ⟨D5,SX,qm2,qmz,zh,CH,uT⟩ trivial
def Bp(x:ap [.d (.sl ah)]):Fr (aa [.bool]):=
 iS (InK (((List.length x.1):Int)) 0 (List.length x.1)) (YK (((List.length x.1):Int),x.1) []) (qyu (((List.length x.1):Int),x.1) []) ([]) (aY _,cf _) (λ_=>Jv (Y,())) (λa=>Jv (a.1.1,()))
def qv7:ag prog 116 ⟨[.d (.sl ah)],[.bool],λxs=>(Bp xs).get,λxs=>[(Bp xs).ok]⟩:=
 cF qB (Λ:=(λ_=>zs8 DN.Γ)) (fn:=f116) (aY [.d (.sl ah)]) (by kernel_rfl) (λc E a=>fH a (by kernel_rfl) (b:=au f116 0) (by kernel_rfl) (af.han qB rfl zfw)) (λx=>by kernel_rfl)
def Mi(x:ap [.d (.sl ah),.d ax]):Fr (aa [.bool]):=
 cT (InK (((List.length x.1):Int)) 0 (List.length x.1)) (zho (((List.length x.1):Int),x.1,x.2.1) 0) (qyt (((List.length x.1):Int),x.1,x.2.1) 0) (λa=>Jv (J (a>10000),()))
def qv6:ag prog 118 ⟨[.d (.sl ah),.d ax],[.bool],λxs=>(Mi xs).get,λxs=>[(Mi xs).ok]⟩:=
 cF qB (Λ:=(λ_=>zs7 DN.Γ)) (fn:=f118) (aY [.d (.sl ah),.d ax]) (by kernel_rfl) (λc E a=>fH a (by kernel_rfl) (b:=au f118 0) (by kernel_rfl) (af.han qB rfl zfv)) (λx=>by kernel_rfl)
def FD(x:ap [.d ah,.d (.sl ax)]):Fr (aa [aP]):=
 Jd (0<=((List.length x.2.1):Int)/\((List.length x.2.1):Int)<=((List.length x.2.1):Int)/\((List.length x.2.1):Int)<=(maxLen:Int)/\((List.length x.2.1):Int)*(8:Int)<=140737488355328) (Jb (x.1.2.1==2) (Jv ((AL.f x).1,())) (Jb (x.1.2.1==3) (Jv ((AK.f x).1,())) (cT (InK (((List.length x.2.1):Int)) 0 (List.length x.2.1)) (zhn (((List.length x.2.1):Int),x.2.1,x.1) (Lrp (((List.length x.2.1):Int)).toNat 0)) (qys (((List.length x.2.1):Int),x.2.1,x.1) (Lrp (((List.length x.2.1):Int)).toNat 0)) (λa=>Jv (a,())))))
def qv2:ag prog 76 ⟨[.d ah,.d (.sl ax)],[aP],λxs=>(FD xs).get,λxs=>[(FD xs).ok]⟩:=
 cF qB (Λ:=(λ_=>zs6 DN.Γ)) (fn:=f76) (aY [.d ah,.d (.sl ax)]) (by kernel_rfl) (λc E a=>fH a (by kernel_rfl) (b:=au f76 0) (by kernel_rfl) (af.han qB rfl zfu)) (λx=>by kernel_rfl)
def Mf(x:ap [.d ah]):Fr (aa [.bool]):=
 Jv (!(kw.f (x.1,())).1,())
def qv3:ag prog 111 ⟨[.d ah],[.bool],λxs=>(Mf xs).get,λxs=>[(Mf xs).ok]⟩:=
 cF qB (Λ:=bK) (fn:=f111) (aY [.d ah]) (by kernel_rfl) (λc E _=>bm c 0) (λx=>by kernel_rfl)
def AO:Ct:=⟨[.d ah],[.bool],λx=>(Mf x).get,λ_=>[]⟩
def qnj:ag prog 111 AO:=cq qv3 _ (λx a _=>uT)
def Mg(x:ap [.d ax]):Fr (aa [.bool]):=
 Jv (!(nO.f (x.1,())).1,())
def qv4:ag prog 112 ⟨[.d ax],[.bool],λxs=>(Mg xs).get,λxs=>[(Mg xs).ok]⟩:=
 cF qB (Λ:=bK) (fn:=f112) (aY [.d ax]) (by kernel_rfl) (λc E _=>bm c 0) (λx=>by kernel_rfl)
def EW:Ct:=⟨[.d ax],[.bool],λx=>(Mg x).get,λ_=>[]⟩
def qnk:ag prog 112 EW:=cq qv4 _ (λx a _=>uT)
def zq4(l:List ah.q)(g:l.length<=1000000):YK ((l.length:Int),l) []:=
 (o5 (step:=qv ((l.length:Int),l) True) (λi (s:List (Int×Bool))=>s.length<=i) (λ_=>True) l (λi e s a b=>by
  have d:=eO a;have f:=fI;refine⟨uT,λ_=>uT,λ_=>⟨?_,?_⟩⟩;show s.length<maxLen;omega;show(eZ s e.1 Z).length<=i+1;have:∀ (l:List (Int×Bool)) (n:Int) (y:Bool),(eZ l n y).length<=l.length+1:=λl n y=>by
   induction l with
   |nil=>exact ufd _
   |cons x r c=>
    unfold eZ;cases h:x.1==n with
    |true=>exact ufk _
    |false=>exact udk c
  exact ueq (this _ _ _) (udk b)) [] (ufd _)).1
def AP:Ct:=⟨[.d (.sl ah)],[.bool],λx=>(Bp x).get,λx=>[List.length (α:=ah.q) x.1<=1000000]⟩
def qno:ag prog 116 AP:=cq qv7 _ (λx b a=>sS (jd b.1.1) (zq4 x.1 a) (λ_=>uT) (λ_=>uT))
def tD:Ct:=⟨[.d (.sl ah),.d ax],[.bool],λx=>(Mi x).get,λ_=>[]⟩
def qnn:ag prog 118 tD:=cq qv6 _ (λx a _=>qz (jd a.1.1) (by refine yx (λ_ _ _=>?_) _ _ _;exact⟨uT,λ_=>uT,λ_=>uT⟩) (λ_=>uT))
def qcr(t:ah.q)(l:List ax.q)(b:l.length<=1000000):(FD (t,l,())).s7 (λy=>y.1=[]\/y.1.length=l.length):=by have c:l.length<=maxLen:=ueq b fI;refine⟨yj b,λ_=>zcj t l,λ_=>⟨λ_=>qsf t l c,λ_=>?_⟩⟩;refine ii (A:=λ(s:List Int)=>s.length=l.length) (jd c) (dK (step:=Ii ((l.length:Int),l,t) True) (λ_ (s:List Int)=>s.length=l.length) l (λi e s g a=>?_) _ ?_) (λs a=>.inr a);obtain⟨d,f⟩:=ou (eO g) a;exact⟨uT,d,f,(show(List.set _ _ _).length=_ by rw[udp];exact a)⟩;show(Lrp _ _).length=_;rw[ubc,uc0]
def xf:Ct:=⟨[.d ah,.d (.sl ax)],[aP],λx=>(FD x).get,λx=>[List.length (α:=ax.q) x.2.1<=1000000]⟩
def qni:ag prog 76 xf:=cq qv2 _ (λx _ a=>(dt (qcr x.1 x.2.1 a)).1)
def zp3(t:ah.q)(l:List ax.q)(a:l.length<=1000000):(xf.f (t,l,())).1=[]\/(xf.f (t,l,())).1.length=l.length:=(dt (qcr t l a)).2
def qhp:Cx:=cx [(118,tD)] []
def qhq:CxOK prog qhp:=aQ aH ⟨qnn,uT⟩ trivial
def Mh(x:ap [.d ax,.ptr (.sl ah)]):Fr (aa [.bool]):=
 Jv ((tD.f (x.2.1,x.1,())).1,())
def qv5:ag prog 117 ⟨[.d ax,.ptr (.sl ah)],[.bool],λxs=>(Mh xs).get,λxs=>[(Mh xs).ok]⟩:=
 cF qhq (Λ:=bK) (fn:=f117) (aY [.d ax,.ptr (.sl ah)]) (by kernel_rfl) (λc E _=>bm c 0) (λx=>by kernel_rfl)
def EX:Ct:=⟨[.d ax,.ptr (.sl ah)],[.bool],λx=>(Mh x).get,λ_=>[]⟩
def qnl:ag prog 117 EX:=cq qv5 _ (λx a _=>uT)
def qhr:Cx:=cx [(115,ir ax),(114,ir ah),(111,AO),(112,EW),(117,EX),(116,AP)] []
def qhs:CxOK prog qhr:=aQ aH ⟨Sc,Ju,qnj,qnk,qnl,qno,uT⟩ trivial
def NP(a:List ah.q)(l:List ax.q):Fr (aa [i64]):=
 Jd (a.length<=1000000) (Jb (AP.f (a,())).1 (Jv (8,())) (Jd (∀ (x:aa [ax]),gN [ax] x->az (EX.ok (x.1,a,()))) (Jb ((ir ax).f (l,λx=>EX.f (x.1,a,()),())).1 (Jv (13,())) (Jv (0,())))))
def GI(a:List ah.q)(l:List ax.q):Fr (aa [i64]):=
 Jb (J ((a.length:Int)>100)) (Jb (J ((a.length:Int)>100)) (Jv (2,())) (NP a l)) (Jb (J ((l.length:Int)>2000)) (Jv (2,())) (NP a l))
def FE(x:ap [.d (.sl ah),.d (.sl ax)]):Fr (aa [i64]):=
 Jd (∀ (x:aa [ah]),gN [ah] x->az (AO.ok (x.1,())))
  (Jb ((ir ah).f (x.1,λx=>AO.f (x.1,()),())).1 (Jb ((ir ah).f (x.1,λx=>AO.f (x.1,()),())).1 (Jv (1,())) (GI x.1 x.2.1))
   (Jd (∀ (x:aa [ax]),gN [ax] x->az (EW.ok (x.1,()))) (Jb ((ir ax).f (x.2.1,λx=>EW.f (x.1,()),())).1 (Jv (1,())) (GI x.1 x.2.1))))
def RG(a:List ah.q)(l:List ax.q)(y:aa [i64]):Prop:=y.1=0->a.length<=100/\l.length<=2000
def Ya(b:List ah.q)(l:List ax.q):(GI b l).s7 (RG b l):=by refine⟨λh=>⟨λ_ h=>(by cases h),λa=>(by rw[h]at a;cases a)⟩,λh=>⟨λ_ h=>(by cases h),λc=>?_⟩⟩;have d:=uch h;have e:=uch c;refine⟨by omega,λ_ h=>(by cases h),λ_=>⟨λ_ _=>uT,λ_ h=>(by cases h),λ_ _=>⟨by omega,by omega⟩⟩⟩
def Yb(a:List ah.q)(l:List ax.q):(FE (a,l,())).s7 (RG a l):=
 ⟨λ_ _=>uT,λ_=>⟨λ_ h=>(by cases h),λ_=>Ya a l⟩,λ_=>⟨λ_ _=>uT,λ_ h=>(by cases h),λ_=>Ya a l⟩⟩
def nR:Ct:=⟨[.d (.sl ah),.d (.sl ax)],[i64],λx=>(FE x).get,λ_=>[]⟩
def qnm:ag prog 73 nR:=cq (aT qhs f73 (fr:=FE)) _ (λx _ _=>(dt (Yb x.1 x.2.1)).1)
def zgd(a:List ah.q)(l:List ax.q)(h:(nR.f (a,l,())).1=0):a.length<=100/\l.length<=2000:=(dt (Yb a l)).2 h
def QG:Cx:=cx [(157,pq)] []
def IT:CxOK prog QG:=aQ aH ⟨Fe,uT⟩ trivial
abbrev vu:Pt:=⟨36,0,⟨[(11,.d i64),(10,.d i64),(9,.d aP),(0,.d aP),(1,.d aP)],[]⟩,⟨[(1,.d aP),(0,.d aP)],[]⟩,⟨[(4,.d i64)],[]⟩⟩
def Ih(k:Int×(List Int)×(List Int)×(List Int))(b:Prop)(i:Int)(e:i64.q)(s:Unit):Fr (Unit ⊕ vu.R.X):=
 let c:=((List.length k.2.2.2):Int);let a:=pq.f (e,List.getD k.2.2.2 (Int.toNat i) i64.j,());Jd b (Jb (J (i>=c)) (Jv (.inr ((1,()),()))) (Jd (0<=i/\i<c) (Jb (a.1 != 0) (Jv (.inr ((a.1,()),()))) (Jv (.inl ())))))
def R9:vu.M.X->Fr vu.Out:=FK (λx=>(x.1.1,(x.1.2.1,x.1.2.2.1,x.1.2.2.2.1,x.1.2.2.2.2.1),())) (λk=>k.1) (λk=>k.2.1) Ih (λk s=>((k.2.2.2,k.2.2.1,()),())) (λ_ y=>Rd.back y) () (aY _,cf _)
def zfj:af prog (.loop (au f319 0)) vu.M vu R9:=
 lG IT (λi k s=>((i,k.1,k.2.1,k.2.2.1,k.2.2.2,()),())) i64.j
def qyr:=λk s=>bC (Ih k True) 0 k.2.1 s
def zhl:=λk s=>eI (Ih k True) 0 k.2.1 s
def zs5(a:Gm):St->Option Tr:=vu.han a vu.M R9
def Mb(x:ap [.d aP,.d aP]):Fr (aa [i64]):=
 iS (InK (((List.length x.1):Int)) 0 (List.length x.1)) (zhl (((List.length x.1):Int),x.1,x.1,x.2.1) ()) (qyr (((List.length x.1):Int),x.1,x.1,x.2.1) ()) () (aY _,cf _) (λ_=>Jb (J (((List.length x.1):Int)<((List.length x.2.1):Int))) (Jv (-1,())) (Jv (0,()))) (λa=>Jv (a.1.1,()))
def qvp:ag prog 319 ⟨[.d aP,.d aP],[i64],λxs=>(Mb xs).get,λxs=>[(Mb xs).ok]⟩:=
 cF IT (Λ:=(λ_=>zs5 QG.Γ)) (fn:=f319) (aY [.d aP,.d aP]) (by kernel_rfl) (λc E a=>fH a (by kernel_rfl) (b:=au f319 0) (by kernel_rfl) (af.han IT rfl zfj)) (λx=>by kernel_rfl)
def K4:Ct:=⟨[.d aP,.d aP],[i64],λx=>(Mb x).get,λ_=>[]⟩
def qng:ag prog 319 K4:=cq qvp _ (λx a _=>sS (jd a.1.1) (o5 (step:=Ih ((List.length x.1:Int),x.1,x.1,x.2.1) True) (λ_ _=>True) (λ_=>True) x.1 (λi e s b c=>by refine⟨uT,λ_=>uT,λh=>⟨⟨ub4 _,?_⟩,λ_=>uT,λ_=>uT⟩⟩;have:=uch h;exact ufo.1 this) () trivial).1 (λ_=>⟨λ_=>uT,λ_=>uT⟩) (λ_=>uT))
def qht:Cx:=cx [(319,K4)] []
def IU:CxOK prog qht:=aQ aH ⟨qng,uT⟩ trivial
abbrev bZ:Type:=List cL.q
def NB(a b:cL.q):Bool:=J ((K4.f ([a.1,a.2.1,a.2.2.1],[b.1,b.2.1,b.2.2.1],())).1<0)
abbrev inR(l:bZ)(i:Int):Prop:=0<=i/\i<(l.length:Int)
def iO(l:bZ)(i j:Int):bZ:=(l.set i.toNat (l.getD j.toNat cL.j)).set j.toNat (l.getD i.toNat cL.j)
def qxl(l:bZ)(x:ap [.d i64,.d i64]):Fr (bZ×aa [.bool]):=
 let a:=(l.length:Int);Jd (0<=x.1/\x.1<a) (Jd (x.1.toNat<l.length) (Jd (0<=x.2.1/\x.2.1<a) (Jd (x.2.1.toNat<l.length) (Jv (l,NB (l.getD x.1.toNat cL.j) (l.getD x.2.1.toNat cL.j),())))))
def qxm(l:bZ)(x:ap [.d i64,.d i64]):Fr (bZ×aa []):=
 let b:=(l.length:Int);let a:=l.set x.1.toNat (l.getD x.2.1.toNat cL.j);Jd (0<=x.2.1/\x.2.1<b) (Jd (x.2.1.toNat<l.length) (Jd (0<=x.1/\x.1<b) (Jd (x.1.toNat<l.length) (Jd (0<=x.1/\x.1<b) (Jd (x.1.toNat<l.length)
  (Jd (0<=x.2.1/\x.2.1<(a.length:Int)) (Jd (x.2.1.toNat<a.length) (Jv (iO l x.1 x.2.1,())))))))))
def XT:Mt:=⟨252,cL,[],[i64],λl _=>(l,(l.length:Int),()),λ_ _=>[]⟩
def XU:Mt:=⟨252,cL,[.d i64,.d i64],[.bool],λl x=>(l,NB (l.getD x.1.toNat cL.j) (l.getD x.2.1.toNat cL.j),()),λl x=>[inR l x.1,inR l x.2.1]⟩
def XV:Mt:=⟨252,cL,[.d i64,.d i64],[],λl x=>(iO l x.1 x.2.1,()),λl x=>[inR l x.1,inR l x.2.1]⟩
def uu{l:bZ}{i:Int}(h:inR l i):i.toNat<l.length:=by omega
def qy9:SoundMt prog 120 XT:=
 jK (jU IU (Λ:=bK) (fn:=f120) (fr:=λl _=>Jv (l,(l.length:Int),())) (e:=252) (T:=cL) (ps:=[]) (rs:=[i64]) () (by kernel_rfl) rfl rfl (λc _ _=>bm c 0) (λl x=>by kernel_rfl)) _ _ λ_ _ _ _ _ _ _ _ _=>⟨uT,rfl⟩
def qza:SoundMt prog 315 XU:=
 jK (jU IU (Λ:=bK) (fn:=f315) (fr:=qxl) (e:=252) (T:=cL) (ps:=[.d i64,.d i64]) (rs:=[.bool]) (0,0,()) (by kernel_rfl) rfl rfl (λc _ _=>bm c 0) (λl x=>by kernel_rfl)) _ _ λ_ _ _ _ _ _ _ _ a=>⟨⟨a.1,uu a.1,a.2,uu a.2,uT⟩,rfl⟩
def qzd:SoundMt prog 318 XV:=
 jK (jU IU (Λ:=bK) (fn:=f318) (fr:=qxm) (e:=252) (T:=cL) (ps:=[.d i64,.d i64]) (rs:=[]) (0,0,()) (by kernel_rfl) rfl rfl (λc _ _=>bm c 0) (λl x=>by kernel_rfl)) _ _ λ_ _ l x _ _ _ _ a=>by have b:inR l x.1:=a.1;have f:inR l x.2.1:=a.2;refine⟨⟨f,uu f,b,uu b,b,uu b,?_,?_,uT⟩,rfl⟩;rw[udp];exact f;rw[udp];exact uu f
def nB(l:bZ)(i j:Int):(iO l i j).length=l.length:=by unfold iO;rw[udp,udp]
def PE{Q:cL.q->Prop}{l:bZ}{i j:Int}(b:inR l i)(c:inR l j)(h:∀ x∈l,Q x):∀ x∈iO l i j,Q x:=λx a=>by
 have g:∀ k:Int,inR l k->l.getD k.toNat cL.j∈l:=λk d=>by rw[uah,uaq (uu d)];exact udj _
 rcases uap a with a|rfl
 rcases uap a with a|rfl
 exact h x a;exact h _ (g j c);exact h _ (g i b)
def KH:Nat->FuncId->List AV->St->Option Tr:=kR (i6 (cx [] []).Γ 120 XT) (kR (i6 (cx [] []).Γ 315 XU) (i6 (cx [] []).Γ 318 XV))
def mM:CxOK prog (cx [] []):=aQ (cs:=[]) (ps:=[]) aH trivial trivial
def Jj:jC prog KH:=mj (jg mM.ct qy9) (mj (jg mM.ct qza) (jg mM.ct qzd))
def IZ:Cx:=dI [] [] KH
def wd:CxOK prog IZ:=dP aH trivial trivial Jj
abbrev Gj:List MI:=[.y 9999 250 [(U 252,cL)],.r 0 9999 (1000000+248),.r 10000 9999 0]
abbrev oE:Pt:=⟨23,0,⟨[(1,.d i64)],Gj⟩,⟨[],Gj⟩,⟨[],[]⟩⟩
abbrev np:Pt:=⟨48,0,⟨[(7,.d i64),(2,.d i64),(1,.d i64)],Gj⟩,⟨[(7,.d i64),(1,.d i64)],Gj⟩,⟨[],[]⟩⟩
def eJ(j:Int):Int:=I6.wrap ((I6.wrap (j-1)).tdiv 2)
def mg(l:bZ)(i j:Int):Bool:=NB (l.getD i.toNat cL.j) (l.getD j.toNat cL.j)
def qxo(x:oE.M.X):Fr oE.Out:=
 match x with
 |((j,_),((l,_),_))=>
  Jd ((2:Int)≠0) (Jb (eJ j==j)
   (Jb Z (Jv (Rd.out ((),(l,()),()))) (Jd (inR l (eJ j)) (Jd (inR l j) (Jv (Rd.next ((eJ j,()),(iO l (eJ j) j,()),()))))))
   (Jd (inR l j) (Jd (inR l (eJ j)) (Jb (!mg l j (eJ j)) (Jv (Rd.out ((),(l,()),())))
    (Jd (inR l (eJ j)) (Jd (inR l j) (Jv (Rd.next ((eJ j,()),(iO l (eJ j) j,()),())))))))))
def jm(i:Int):Int:=I6.wrap (I6.wrap (2*i)+1)
def lh(i:Int):Int:=I6.wrap (jm i+1)
def Cj(i n:Int):Bool:=bif J (jm i>=n)then Z else J (jm i<0)
def Bz(l:bZ)(i n a j:Int):Fr np.Out:=
 Jd (inR l j) (Jd (inR l i) (Jb (!mg l j i) (Jv (Rd.out ((i,a,()),(l,()),()))) (Jd (inR l i) (Jd (inR l j) (Jv (Rd.next ((j,n,a,()),(iO l i j,()),())))))))
def qxn(x:np.M.X):Fr np.Out:=
 match x with
 |((i,n,a,_),((l,_),_))=>
  Jb (Cj i n) (Jv (Rd.out ((i,a,()),(l,()),())))
   (Jb (J (lh i<n)) (Jd (inR l (lh i)) (Jd (inR l (jm i)) (Jb (mg l (lh i) (jm i)) (Bz l i n a (lh i)) (Bz l i n a (jm i)))))
    (Jb Y (Bz l i n a (lh i)) (Bz l i n a (jm i))))
def zm4:af prog (au f167 0) oE.M oE qxo:=ep wd
def zm3:af prog (au f168 0) np.M np qxn:=ep wd
def mY(l:bZ)(j:Int):bZ:=
 if eJ j=j then l else if mg l j (eJ j)=Z then (if _h:(eJ j).toNat<j.toNat then mY (iO l (eJ j) j) (eJ j)else l)else l
termination_by j.toNat
def lR(l:bZ)(i n:Int):Int:=if lh i<n/\mg l (lh i) (jm i)=Z then lh i else jm i
def kM(l:bZ)(i n:Int):bZ×Int:=
 if Cj i n=Z then (l,i)else if mg l (lR l i n) i=Z then (if _h:(n-lR l i n).toNat<(n-i).toNat then kM (iO l i (lR l i n)) (lR l i n) n else (l,i))else (l,i)
termination_by (n-i).toNat
structure UpI (l:bZ) (j:Int):Prop where
 at_:inR l j
 len:l.length<=1000000000
structure DnI (l:bZ) (i n:Int):Prop where
 at_:inR l i
 n:n<=(l.length:Int)
 len:l.length<=1000000000
def Rz(x:oE.M.X):Fr oE.Out:=
 match x with
 |((j,_),((l,_),_))=>Jd (UpI l j) (Jv (Rd.out ((),(mY l j,()),())))
def Ji(x:np.M.X):Fr np.Out:=
 match x with
 |((i,n,a,_),((l,_),_))=>Jd (DnI l i n) (Jv (Rd.out (((kM l i n).2,a,()),((kM l i n).1,()),())))
def qc0{i n c:Int}(h:i<c)(a:c<n):(n-c).toNat<(n-i).toNat:=by omega
def zja{j:Int}(h:0<=j/\j<=4611686018427387903)(c:eJ j≠j):eJ j=(j-1)/2/\1<=j:=by
 have b:1<=j:=by by_cases a:j=0;subst a;exact absurd (by decide) c;omega
 refine⟨?_,b⟩;unfold eJ;rw[show I6.wrap (j-1)=j-1 from cV (by omega),Int.tdiv_eq_ediv_of_nonneg (by omega)];exact cV (by omega)
def UpI.par{l:bZ}{j:Int}(h:UpI l j)(b:eJ j≠j):UpI l (eJ j)/\(eJ j).toNat<j.toNat:=by have d:=h.at_;have a:=h.len;obtain⟨e,c⟩:=zja (j:=j) ⟨by omega,by omega⟩ b;exact⟨⟨by rw[e];omega,a⟩,by rw[e];omega⟩
def UpI.swap{l:bZ}{i j k:Int}(h:UpI l k):UpI (iO l i j) k:=⟨by rw[inR,nB];exact h.at_,by rw[nB];exact h.len⟩
def DnI.swap{l:bZ}{i j k n:Int}(h:DnI l k n):DnI (iO l i j) k n:=⟨by rw[inR,nB];exact h.at_,by rw[nB];exact h.n,by rw[nB];exact h.len⟩
def DnI.ch{l:bZ}{i n:Int}(h:DnI l i n)(a:Cj i n=Y):DnI l (jm i) n/\(lh i<n->DnI l (lh i) n)/\i<jm i/\i<lh i/\jm i<n:=by
 have k:=h.at_;have c:=h.len;have d:=h.n;have f:jm i=2*i+1:=by unfold jm;rw[show I6.wrap (2*i)=2*i from cV (by omega)];exact cV (by omega)
 have g:lh i=2*i+2:=by unfold lh;rw[f,show 2*i+1+1=2*i+2 by omega];exact cV (by omega)
 have b:jm i<n:=by unfold Cj at a;by_cases e:jm i>=n;rw[ueb e]at a;cases a;omega
 refine⟨⟨by omega,d,c⟩,λe=>⟨by omega,d,c⟩,by omega,by omega,b⟩
def zer:af prog (.loop (au f167 0)) oE.M oE Rz:=
 af.loop zm4 (inv:=λx=>UpI x.2.1.1 x.1.1) (μ:=λx=>x.1.1.toNat)
  (by
   rintro⟨⟨j,_⟩,⟨⟨l,_⟩,_⟩⟩ a Q b;have b:=b.2;have a:UpI l j:=a;refine⟨by decide,λg=>⟨λ_=>?_,λh=>(by cases h)⟩,λg=>?_⟩;have e:eJ j=j:=by simpa using g
   rw[mY,uf0 e]at b;exact b;have e:eJ j≠j:=by simpa using g
   obtain⟨f,d⟩:=a.par e;rw[mY,uf1 e]at b;refine⟨a.at_,f.at_,λi=>?_,λi=>⟨f.at_,a.at_,f.swap,d,f.swap,?_⟩⟩;have c:¬ mg l j (eJ j)=true:=by simpa using i
   rw[uf1 c]at b;exact b;have c:mg l j (eJ j)=true:=by simpa using i
   rw[uf0 c,dif_pos d]at b;exact b)
  (λx Q h=>h.1)
def zeq:af prog (.loop (au f168 0)) np.M np Ji:=
 af.loop zm3 (inv:=λx=>DnI x.2.1.1 x.1.1 x.1.2.1) (μ:=λx=>(x.1.2.1-x.1.1).toNat)
  (by
   rintro⟨⟨i,n,F,_⟩,⟨⟨l,_⟩,_⟩⟩ a Q b;have b:=b.2;have a:DnI l i n:=a;refine⟨λk=>?_,λk=>?_⟩;rw[kM,uf0 k]at b;exact b;obtain⟨o,w,A,D,B⟩:=a.ch k;rw[kM,uf1 (by rw[k];decide)]at b;have f:∀ c:Int,lR l i n=c->DnI l c n->i<c->c<n->(Bz l i n F c).s7 λ
     |.next g=>(DnI g.2.1.1 g.1.1 g.1.2.1)/\(g.1.2.1-g.1.1).toNat<(n-i).toNat/\(Ji g).s7 Q
     |.out y=>Q (.out y)
     |.back z=>Q (.back z)
     |.pan p=>Q (.pan p):=λc E m v t=>by
    rw[E]at b;have C:(n-c).toNat<(n-i).toNat:=qc0 v t;refine⟨m.at_,a.at_,λu=>?_,λu=>⟨a.at_,m.at_,m.swap,C,m.swap,?_⟩⟩;have e:¬ mg l c i=true:=by simpa using u
    rw[uf1 e]at b;exact b;have e:mg l c i=true:=by simpa using u
    rw[uf0 e,dif_pos C]at b;exact b
   refine⟨λr=>?_,λr=>⟨λh=>(by cases h),λ_=>f _ ?_ o A B⟩⟩;have d:=ucx r;refine⟨(w d).at_,o.at_,λs=>f _ ?_ (w d) D d,λs=>f _ ?_ o A B⟩;exact uf0 ⟨d,s⟩;exact uf1 (λh=>by rw[s]at h;exact absurd h.2 (by decide));exact uf1 (λh=>absurd h.1 (uch r)))
  (λx Q h=>h.1)
def Ws:Ht:=⟨248,250,252,cL,[.d i64],[],λl x=>(mY l x.1,()),λl x=>[UpI l x.1]⟩
def Wp:Ht:=⟨248,250,252,cL,[.d i64,.d i64],[.bool],λl x=>((kM l x.1 x.2.1).1,J ((kM l x.1 x.2.1).2>x.1),()),λl x=>[DnI l x.1 x.2.1]⟩
def qze:SoundHt prog 167 Ws:=
 Ff (Gl wd (Λ:=λ_=>oE.han IZ.Γ oE.M Rz) (fn:=f167) (pt:=248) (bt:=250) (e:=252) (T:=cL) (ps:=[.d i64]) (rs:=[]) (fr:=λl x=>Jd (UpI l x.1) (Jv (mY l x.1,()))) (0,()) (by kernel_rfl)
  (λc E f=>fH f (by kernel_rfl) (b:=au f167 0) (by kernel_rfl) (af.han wd rfl zer)) (λl x=>by kernel_rfl)) _ _ λ_ _ _ _ _ _ _ _ a=>⟨⟨a,uT⟩,rfl⟩
def qy8:SoundHt prog 168 Wp:=
 Ff (Gl wd (Λ:=λ_=>np.han IZ.Γ np.M Ji) (fn:=f168) (pt:=248) (bt:=250) (e:=252) (T:=cL) (ps:=[.d i64,.d i64]) (rs:=[.bool]) (fr:=λl x=>Jd (DnI l x.1 x.2.1) (Jv ((kM l x.1 x.2.1).1,J ((kM l x.1 x.2.1).2>x.1),()))) (0,0,()) (by kernel_rfl)
  (λc E f=>fH f (by kernel_rfl) (b:=au f168 0) (by kernel_rfl) (af.han wd rfl zeq)) (λl x=>by kernel_rfl)) _ _ λ_ _ _ _ _ _ _ _ a=>⟨⟨a,uT⟩,rfl⟩
def zaq(Q:cL.q->Prop):(n:Nat)->(l:bZ)->(j:Int)->j.toNat<=n->UpI l j->(∀ x∈l,Q x)->(mY l j).length=l.length/\∀ x∈mY l j,Q x:=λn=>by
 induction n with
 |zero=>intro l j i h a;rw[mY];split;exact⟨rfl,a⟩;rename_i b;have:=(h.par b).2;omega
 |succ n k=>intro l j i h a;rw[mY];split;exact⟨rfl,a⟩;rename_i b;obtain⟨c,e⟩:=h.par b;by_cases d:mg l j (eJ j)=Z;rw[uf0 d,dif_pos e];obtain⟨f,g⟩:=k (iO l (eJ j) j) (eJ j) (by omega) c.swap (PE c.at_ h.at_ a);exact⟨f.trans (nB _ _ _),g⟩;rw[uf1 d];exact⟨rfl,a⟩
def Tf{l:bZ}{i n:Int}(h:DnI l i n)(g:Cj i n=Y):DnI l (lR l i n) n/\i<lR l i n/\lR l i n<n:=by obtain⟨b,c,d,e,f⟩:=h.ch g;unfold lR;split;rename_i a;exact⟨c a.1,e,a.1⟩;exact⟨b,d,f⟩
def zap(Q:cL.q->Prop):(m:Nat)->(l:bZ)->(i n:Int)->(n-i).toNat<=m->DnI l i n->(∀ x∈l,Q x)->(kM l i n).1.length=l.length/\∀ x∈(kM l i n).1,Q x:=λm=>by
 induction m with
 |zero=>intro l i n o h a;rw[kM];split;exact⟨rfl,a⟩;rename_i b;have:=Tf h (by simpa using b);omega
 |succ m p=>intro l i n o h a;rw[kM];split;exact⟨rfl,a⟩;rename_i b;obtain⟨c,e,f⟩:=Tf h (by simpa using b);by_cases d:mg l (lR l i n) i=Z;rw[uf0 d,dif_pos (qc0 e f)];obtain⟨g,k⟩:=p (iO l i (lR l i n)) (lR l i n) n (by omega) c.swap (PE h.at_ c.at_ a);exact⟨g.trans (nB _ _ _),k⟩;rw[uf1 d];exact⟨rfl,a⟩
def XvP:FuncId->Option (Func×(Nat->St->Option Tr)):=cR [(317,(f317,bK)),(316,(f316,bK))]
def KP:Nat->FuncId->List AV->St->Option Tr:=kR KH (kR (iJ prog (cx [] []) XvP) (kR (xO (cx [] []).Γ 167 Ws) (xO (cx [] []).Γ 168 Wp)))
def qjz:jC prog KP:=mj Jj (mj (jt mM (nD (by kernel_rfl) (nD (by kernel_rfl) sP))) (mj (Gk mM.ct qze) (Gk mM.ct qy8)))
def CVp:Cx:=dI [] [] KP
def QY:CxOK prog CVp:=dP aH trivial trivial qjz
abbrev xQ:Ty:=.ic [(1,252)] cL
def hH(l:bZ):Int:=I6.wrap ((l.length:Int)-1)
def CE(l:bZ)(y:cL.q):bZ:=mY (l++[y]) (hH (l++[y]))
def kS(l:bZ):bZ:=(kM (iO l 0 (hH l)) 0 (hH l)).1
def jY(l:bZ):bZ:=(kS l).take (hH (kS l)).toNat
def rT(l:bZ):cL.q:=(kS l).getD (hH (kS l)).toNat cL.j
def qxw(l:bZ)(x:ap [.d xQ]):Fr (bZ×aa []):=
 Jd (dd [(1,252)] x.1.1=U 252) (Jd (l.length + [x.1.2].length<=maxLen/\(l.length + [x.1.2].length)*24<=140737488355328) (Jd (UpI (l++[x.1.2]) (hH (l++[x.1.2]))) (Jv (CE l x.1.2,()))))
def qxv(l:bZ)(_:ap []):Fr (bZ×aa [xQ]):=
 let b:=hH l;let a:=((kS l).length:Int);Jd (inR l 0) (Jd (inR l b) (Jd (DnI (iO l 0 b) 0 b) (Jd (0<=hH (kS l)/\hH (kS l)<a) (Jd ((hH (kS l)).toNat<(kS l).length) (Jd (0<=hH (kS l)/\hH (kS l)<=a) (Jv (jY l,((1,rT l),()))))))))
def Cd{l:bZ}(h:1<=l.length)(a:l.length<=1000001):hH l=(l.length:Int)-1:=cV (by omega)
def Z9{l:bZ}{y:cL.q}(h:l.length<=1000000):UpI (l++[y]) (hH (l++[y])):=by have e:(l++[y]).length=l.length+1:=ub6;have a:=Cd (l:=l++[y]) (by omega) (by omega);exact⟨by rw[a];omega,by omega⟩
def zjx{l:bZ}{y:cL.q}(h:l.length<=1000000)(Q:cL.q->Prop)(d:∀ x∈l,Q x)(e:Q y):(CE l y).length=l.length+1/\∀ x∈CE l y,Q x:=by
 obtain⟨b,c⟩:=zaq Q _ (l++[y]) (hH (l++[y])) (ufd _) (Z9 h) (λx a=>by
  rcases udt.1 a with a|a
  exact d x a;rw[ucf.1 a];exact e)
 exact⟨b.trans ub6,c⟩
def Zz{l:bZ}(h:1<=l.length)(b:l.length<=1000000):DnI (iO l 0 (hH l)) 0 (hH l):=by have a:=Cd h (by omega);refine⟨?_,?_,?_⟩;rw[inR,nB];omega;rw[nB];omega;rw[nB];omega
def O6{l:bZ}(h:1<=l.length)(a:l.length<=1000000)(Q:cL.q->Prop)(d:∀ x∈l,Q x):(kS l).length=l.length/\∀ x∈kS l,Q x:=by have e:=Cd h (by omega);obtain⟨b,c⟩:=zap Q _ (iO l 0 (hH l)) 0 (hH l) (ufd _) (Zz h a) (PE (by omega) (by omega) d);exact⟨b.trans (nB _ _ _),c⟩
def Z0{l:bZ}(h:1<=l.length)(a:l.length<=1000000):hH (kS l)=(l.length:Int)-1:=by have b:=(O6 h a (λ_=>True) (λ_ _=>uT)).1;rw[Cd (by omega) (by omega),b]
def Z1{l:bZ}(h:1<=l.length)(a:l.length<=1000000)(Q:cL.q->Prop)(d:∀ x∈l,Q x):(jY l).length+1=l.length/\(∀ x∈jY l,Q x)/\Q (rT l):=by obtain⟨f,b⟩:=O6 h a Q d;have c:=Z0 h a;refine⟨?_,λx e=>b x (ubq e),?_⟩;unfold jY;rw[uc6,c];omega;unfold rT;rw[c,uah,uaq (by omega)];exact b _ (udj _)
def Wr:Ht:=⟨248,250,252,cL,[.d xQ],[],λl x=>(CE l x.1.2,()),λl x=>[x.1.1=1,l.length<=1000000]⟩
def Wq:Ht:=⟨248,250,252,cL,[],[xQ],λl _=>(jY l,((1,rT l),())),λl _=>[1<=l.length,l.length<=1000000]⟩
def qzc:SoundHt prog 119 Wr:=
 Ff (Gl QY (Λ:=bK) (fn:=f119) (pt:=248) (bt:=250) (e:=252) (T:=cL) (ps:=[.d xQ]) (rs:=[]) (fr:=qxw) ((1,cL.j),()) (by kernel_rfl)
  (λc _ _=>bm c 0) (λl x=>by kernel_rfl)) _ _ λ_ _ l x _ _ _ _ a=>by
   obtain⟨b,f⟩:x.1.1=1/\l.length<=1000000:=a;have g:=fI;refine⟨⟨?_,?_,Z9 f,uT⟩,rfl⟩;rw[b];rfl;show l.length+1<=maxLen/\(l.length+1)*24<=140737488355328;have:(1000001:Nat)<=maxLen:=by decide
   omega
def qzb:SoundHt prog 121 Wq:=
 Ff (Gl QY (Λ:=bK) (fn:=f121) (pt:=248) (bt:=250) (e:=252) (T:=cL) (ps:=[]) (rs:=[xQ]) (fr:=qxv) () (by kernel_rfl)
  (λc _ _=>bm c 0) (λl x=>by kernel_rfl)) _ _ λ_ _ l x _ _ _ _ d=>by obtain⟨a,b⟩:1<=l.length/\l.length<=1000000:=d;have f:=(O6 a b (λ_=>True) (λ_ _=>uT)).1;have g:=Z0 a b;have h:=Cd a (by omega);refine⟨⟨by omega,by omega,Zz a b,by omega,by omega,by omega,uT⟩,rfl⟩
def KO:Nat->FuncId->List AV->St->Option Tr:=kR KH (kR (xO (cx [] []).Γ 119 Wr) (xO (cx [] []).Γ 121 Wq))
def CVo:Cx:=dI [] [] KO
def Ja:CxOK prog CVo:=dP aH trivial trivial (mj Jj (mj (Gk mM.ct qzc) (Gk mM.ct qzb)))
abbrev JC:List MI:=[.y 11 250 [(U 252,cL)],.r 3 11 0]
abbrev Hl:Pt:=⟨58,0,⟨[(14,.d i64),(13,.d i64),(12,.d (.sl ah))],JC⟩,⟨[],JC⟩,⟨[],[]⟩⟩
abbrev rX:Pt:=⟨58,3,⟨[],JC++[.o 7 3 i64]⟩,⟨[],[.o 7 3 i64]⟩,⟨[],[]⟩⟩
def O7(s:bZ)(a b c:Int):Fr bZ:=Jd ((1:Int)=1) (Jd (s.length<=1000000) (Jv (CE s (a,b,c,()))))
def Dq(_k:Int×(List ah.q))(b:Prop)(i:Int)(e:ah.q)(s:bZ):Fr bZ:=
 let a:=O7 s e.2.1 e.2.2.2.2.1 i;Jd b (Jb (e.2.1==1) (O7 s e.2.1 0 i) (Jb (e.2.1==2) (Jb (e.2.1==2) a (Jv s)) (Jb (e.2.1==3) a (Jv s))))
def qjn:Hl.M.X->Fr Hl.Out:=FG (λx=>(x.1.1,(x.1.2.1,x.1.2.2.1),x.2.1.1)) (λk=>k.1) (λk=>k.2) Dq (λ_ s=>((),((s,()),())))
def ze5:af prog (.loop (au f75 0)) Hl.M Hl qjn:=
 cX Ja (λi k s=>((i,k.1,k.2,()),((s,()),()))) ah.j
def qxt(x:rX.M.X):Fr rX.Out:=
 match x with
 |(_,((l,_),o,_))=>Jb (J ((l.length:Int)>0))
   (Jd (1<=l.length) (Jd (l.length<=1000000) (Jd (dd [(1,252)] 1=U 252) (Jb Z
    (Jd (o.length + [(rT l).2.2.1].length<=maxLen/\(o.length + [(rT l).2.2.1].length)*8<=140737488355328) (Jv (Rd.next ((),(jY l,()),o++[(rT l).2.2.1],()))))
    (Jv (Rd.next ((),(jY l,()),o,())))))))
   (Jv (Rd.out ((),o,())))
def zna:af prog (au f75 1) rX.M rX qxt:=ep Ja
def uY:Nat->bZ->List Int->List Int
 |0,_,o=>o
 |n+1,l,o=>uY n (jY l) (o++[(rT l).2.2.1])
def qjo(x:rX.M.X):Fr rX.Out:=
 match x with
 |(_,((l,_),o,_))=>Jd (o.length+l.length<=1000000) (Jv (Rd.out ((),uY l.length l o,())))
def ze6:af prog (.loop (au f75 1)) rX.M rX qjo:=
 af.loop zna (inv:=λx=>x.2.2.1.length+x.2.1.1.length<=1000000) (μ:=λx=>x.2.1.1.length)
  (by
   rintro⟨_,⟨⟨l,_⟩,o,_⟩⟩ a Q b;have b:=b.2;have a:o.length+List.length l<=1000000:=a;refine⟨λc=>?_,λc=>?_⟩;have d:(List.length l:Int)>0:=ucx c;have f:1<=List.length l:=by omega
   have g:List.length l<=1000000:=by omega
   obtain⟨i,_,_⟩:=Z1 f g (λ_=>True) (λ_ _=>uT);have k:=fI;refine⟨f,g,rfl,λ_=>⟨?_,?_,?_,?_,?_⟩,λh=>(by cases h)⟩;show o.length+1<=maxLen/\(o.length+1)*8<=140737488355328;omega;show(o++[_]).length+(jY l).length<=1000000;rw[ub6];show o.length+1+(jY l).length<=1000000;omega;show(jY l).length<List.length l;omega;show(o++[_]).length+(jY l).length<=1000000;rw[ub6];show o.length+1+(jY l).length<=1000000;omega;have e:List.length l=(jY l).length+1:=i.symm;rw[e]at b;exact b;have d:¬ (List.length l:Int)>0:=uch c;have e:List.length l=0:=by omega
   rw[e]at b;exact b)
  (λx Q h=>h.1)
def G5(a:List ah.q):Int×(List ah.q):=((a.length:Int),a)
def xM(a:List ah.q):bZ:=bw (Dq (G5 a) True) 0 a []
def US(x:ap [.d (.sl ah)]):Fr (aa [aP]):=
 cT (InK (List.length x.1:Int) 0 (List.length x.1)) (bY (Dq (G5 x.1) True) 0 x.1 []) (xM x.1) (λl=>Jd (([]:List Int).length+l.length<=1000000) (Jv (uY l.length l [],())))
def qu4:ag prog 75 (bg [.d (.sl ah)] [aP] US):=
 oc Ja ze5 ze6 (fn:=f75)
def Ow(c:List ah.q)(r:c.length<=1000000):bY (Dq (G5 c) True) 0 c []/\(xM c).length<=c.length/\∀ x∈xM c,0<=x.2.2.1/\x.2.2.1<(c.length:Int):=
 dK (step:=Dq (G5 c) True) (λi (s:bZ)=>s.length<=i/\∀ x∈s,0<=x.2.2.1/\x.2.2.1<(c.length:Int)) c (λi e s o d=>by
  have p:=eO o;have g:s.length<=1000000:=ueq d.1 (by omega);have f:∀ a b:Int,(O7 s a b i).s7 (λl=>l.length<=i+1/\∀ x∈l,0<=x.2.2.1/\x.2.2.1<(c.length:Int)):=λa b=>by obtain⟨m,n⟩:=zjx (y:=(a,b,(i:Int),())) g (λx=>0<=x.2.2.1/\x.2.2.1<(c.length:Int)) d.2 ⟨ub4 _,Int.ofNat_lt.2 p⟩;exact⟨rfl,g,by rw[m];exact udk d.1,n⟩
  have k:s.length<=i+1/\∀ x∈s,0<=x.2.2.1/\x.2.2.1<(c.length:Int):=⟨uc4 d.1,d.2⟩;exact⟨uT,λ_=>f _ _,λ_=>⟨λ_=>⟨λ_=>f _ _,λ_=>k⟩,λ_=>⟨λ_=>f _ _,λ_=>k⟩⟩⟩) [] ⟨ufd _,λ_ h=>(nomatch h)⟩
def Zy(Q:Int->Prop):(n:Nat)->(l:bZ)->(o:List Int)->l.length=n->n<=1000000->(∀ x∈l,Q x.2.2.1)->(∀ x∈o,Q x)->∀ x∈uY n l o,Q x
 |0,_,_,_,_,_,b=>b
 |n+1,l,o,f,g,h,b=>by
  obtain⟨e,c,d⟩:=Z1 (l:=l) (by omega) (by omega) (λx=>Q x.2.2.1) h;refine Zy Q n (jY l) _ (by omega) (by omega) c (λx a=>?_);rcases udt.1 a with a|a
  exact b x a;rw[ucf.1 a];exact d
def Zx:(n:Nat)->(l:bZ)->(o:List Int)->(uY n l o).length=o.length+n
 |0,_,_=>rfl
 |n+1,l,o=>by rw[uY,Zx n,ub6];show o.length+1+n=_;omega
def iX:Ct:=⟨[.d (.sl ah)],[aP],λx=>(US x).get,λx=>[List.length (α:=ah.q) x.1<=1000000]⟩
def qnh:ag prog 75 iX:=cq qu4 _ (λx b a=>⟨jd b.1.1,(Ow x.1 a).1,by have h:=(Ow x.1 a).2.1;have a:List.length x.1<=1000000:=a;show 0+(xM x.1).length<=1000000;omega,uT⟩)
def YQ(a:List ah.q)(b:a.length<=1000000):(iX.f (a,())).1.length<=a.length/\∀ x∈(iX.f (a,())).1,0<=x/\x<(a.length:Int):=by obtain⟨_,c,d⟩:=Ow a b;refine⟨?_,Zy (λx=>0<=x/\x<(a.length:Int)) _ (xM a) [] rfl (ueq c b) d (λ_ h=>(nomatch h))⟩;show(uY _ _ _).length<=_;rw[Zx];show 0+(xM a).length<=_;omega
section
open Go.Shelf Go.Lib
def zae:∃ i0 z,InsTy prog 95 101 3 i0 z 5 40:=
 have ⟨i0,a,b,c,d⟩:=ufr (show(prog.info? 101).map (λi=>(i.zero,i.size,i.bytes))=U (U (.agg #[.int .i64 0,.int .i64 0,.int .i64 0,.int .i64 0,.int .i64 0]),5,40) by kernel_rfl)
 ⟨i0,_,underlying95,underlying3,a,b,c,d,rfl,by decide⟩
def qor:CloneOK prog 74 101 ax 40:=by
 refine⟨enters_of func74 (by kernel_rfl) rfl,λw n c A t p o b g m d e=>?_⟩;obtain⟨u,z,T⟩:=zae;have a:=T.nil w
 go_enter func74,ntmps74
 cases A with
 |none=>
  have l:=o rfl;subst l;have r:t=[]:=uab (by simpa using b);subst r
  go_wp2_with (simp only[a])
  go_ret
  exact⟨_,rfl,⟨rfl,rfl,rfl,ufd _,λ_ _ _=>rfl⟩,ucs _ _ _ _⟩
 |some h=>
  obtain⟨s,v,f,k,i⟩:=T.clone b (g h rfl) m d e (n:=n) (c:=c)
  go_wp2_with (first|(simp only[a];done)|simp only[a]|(at_builtin;refine Lib.wpList_append_run _ rfl _ _ _ _ rfl _ _ rfl rfl _ _ (f _) ?_))
  go_ret
  exact⟨s,rfl,k,i⟩
def zaf:∃ i0 z,InsTy prog 69 107 3 i0 z 2 16:=
 have ⟨i0,a,b,c,d⟩:=ufr (show(prog.info? 107).map (λi=>(i.zero,i.size,i.bytes))=U (U (.agg #[.int .i64 0,.int .i64 0]),2,16) by kernel_rfl)
 ⟨i0,_,underlying69,underlying3,a,b,c,d,rfl,by decide⟩
def qos:CloneOK prog 59 107 bD 16:=by
 refine⟨enters_of func59 (by kernel_rfl) rfl,λw n c A t p o b g m d e=>?_⟩;obtain⟨u,z,T⟩:=zaf;have a:=T.nil w
 go_enter func59,ntmps59
 cases A with
 |none=>
  have l:=o rfl;subst l;have r:t=[]:=uab (by simpa using b);subst r
  go_wp2_with (simp only[a])
  go_ret
  exact⟨_,rfl,⟨rfl,rfl,rfl,ufd _,λ_ _ _=>rfl⟩,ucs _ _ _ _⟩
 |some h=>
  obtain⟨s,v,f,k,i⟩:=T.clone b (g h rfl) m d e (n:=n) (c:=c)
  go_wp2_with (first|(simp only[a];done)|simp only[a]|(at_builtin;refine Lib.wpList_append_run _ rfl _ _ _ _ rfl _ _ rfl rfl _ _ (f _) ?_))
  go_ret
  exact⟨s,rfl,k,i⟩
end
abbrev lQ:Ty:=.sl ew
def qah:List (FuncId×Row):=[(1000000000000+130,.rw 0 132),(74,.clone 101 ax 40)]
def QH:Cx:=nV [(76,xf),(73,nR),(75,iX)] [] qah (λ_ _ _ _=>V)
def Ah:CxOK prog QH:=pE (cs:=[(76,xf),(73,nR),(75,iX)]) (ps:=[]) (rs:=qah) aH ⟨qni,qnm,qnh,uT⟩ trivial ⟨uT,qor,uT⟩ (λ_ _ _ _ _ h=>(nomatch h))
abbrev GO:List MI:=[.o 8 101 ax,.o 9 (fJ 130 0 132) lQ]
abbrev vn:Pt:=⟨112,2,⟨[(56,.d i64),(55,.d i64),(54,.d aP),(36,.d i64),(35,.d i64),(34,.d aP),(0,.d (.sl ah)),(1,.d (.sl ax)),(11,.d i64),(10,.d (.sl ax))],.x 14 44 ah :: .r 14 14 0::GO⟩,⟨[(36,.d i64),(35,.d i64),(34,.d aP),(0,.d (.sl ah)),(1,.d (.sl ax)),(11,.d i64),(10,.d (.sl ax))],GO⟩,⟨[],[]⟩⟩
abbrev zay:Type:=Int×Int×List Int×List ah.q×List ax.q×Int×List ax.q
abbrev BX:Type:=Int×List Int×zay×ah.q
abbrev nu:Type:=List ax.q×List (List ew.q)
def Jt(a:List ax.q)(i:Int):Int:=(a.getD i.toNat ax.j).2.2.2.2.1
def PJ(a:List ax.q)(i e:Int):Int:=if Jt a i<e then Jt a i else e
def NA(a:List ax.q)(i v:Int):List ax.q:=
 a.set i.toNat ((a.getD i.toNat ax.j).1,(a.getD i.toNat ax.j).2.1,(a.getD i.toNat ax.j).2.2.1,(a.getD i.toNat ax.j).2.2.2.1,I6.wrap (Jt a i-v),())
def zgl(a:List (List ew.q))(i:Int)(c:ew.q):List (List ew.q):=a.set i.toNat (a.getD i.toNat []++[c])
def Gq(n:Nat)(i:Int)(x:Fr nu):Fr nu:=Jd (0<=i/\i<(n:Int)) (Jd (i.toNat<n) x)
def su(k:BX)(b:Prop)(i:Int)(e:i64.q)(s:nu):Fr nu:=
 let c:=PJ s.1 i e;let a:=s.2.getD i.toNat [];Jd b (Gq s.1.length i (Gq s.1.length i (Gq s.1.length i
  (Jb (J (PJ s.1 i e>0))
   (Gq s.2.length i (Jd (a.length+1<=maxLen/\(a.length+1)*16<=140737488355328) (Jd (0<=i/\i<(s.2.length:Int)) (Jd (i.toNat<s.2.length/\i.toNat=i.toNat)
    (Jv (NA s.1 i c,zgl s.2 i (k.2.2.2.1,PJ s.1 i e,())))))))
   (Jv (NA s.1 i c,s.2))))))
def zie(k:BX)(s:nu):vn.E.X:=((k.2.2.1.1,k.2.2.1.2.1,k.2.2.1.2.2.1,k.2.2.1.2.2.2.1,k.2.2.1.2.2.2.2.1,k.2.2.1.2.2.2.2.2.1,k.2.2.1.2.2.2.2.2.2,()),s.1,s.2,())
def R5:vn.M.X->Fr vn.Out:=FG (λx=>(x.1.1,((x.1.2.1,x.1.2.2.1,(x.1.2.2.2.1,x.1.2.2.2.2.1,x.1.2.2.2.2.2.1,x.1.2.2.2.2.2.2.1,x.1.2.2.2.2.2.2.2.1,x.1.2.2.2.2.2.2.2.2.1,x.1.2.2.2.2.2.2.2.2.2.1),x.2.1):BX),((x.2.2.1,x.2.2.2.1):nu))) (λk=>k.1) (λk=>k.2.1) su zie
def WL:Code:=(Go.Ab.loopB (au f48 0) 0).getD .skip
def ze2:af prog (.loop WL) vn.M vn R5:=
 cX Ah (λi k s=>((i,k.1,k.2.1,k.2.2.1.1,k.2.2.1.2.1,k.2.2.1.2.2.1,k.2.2.1.2.2.2.1,k.2.2.1.2.2.2.2.1,k.2.2.1.2.2.2.2.2.1,k.2.2.1.2.2.2.2.2.2,()),k.2.2.2,s.1,s.2,())) i64.j
abbrev Hk:Pt:=⟨112,0,⟨[(36,.d i64),(35,.d i64),(34,.d aP),(0,.d (.sl ah)),(1,.d (.sl ax)),(11,.d i64),(10,.d (.sl ax))],GO⟩,⟨[(1,.d (.sl ax))],GO⟩,⟨[],[]⟩⟩
abbrev Ca:Type:=Int×List Int×List ah.q×List ax.q
abbrev sm:Type:=Int×List ax.q×nu
def qQ(t:ah.q)(a:List ax.q):List Int:=(xf.f (t,a,())).1
def G1(k:Ca)(i:Int)(t:ah.q)(b:Int)(a:List ax.q):BX:=((qQ t a).length,qQ t a,(i,k.1,k.2.1,k.2.2.1,k.2.2.2,b,a),t)
def PL(k:Ca)(i:Int)(t:ah.q)(b:Int)(a:List ax.q)(s:nu):Fr sm:=
 Jd (a.length<=1000000) (cT (InK ((qQ t a).length:Int) 0 (qQ t a).length) (bY (su (G1 k i t b a) True) 0 (qQ t a) s) (bw (su (G1 k i t b a) True) 0 (qQ t a) s) (λr=>Jv (b,a,r)))
def sw(k:Ca)(b:Prop)(i:Int)(e:i64.q)(s:sm):Fr sm:=
 let a:=k.2.2.1.getD (Int.toNat e) ah.j;Jd b (Jd (0<=e/\e<(k.2.2.1.length:Int))
  (Jb (a.2.1 != s.1)
   (Jd (s.2.2.1.length<=maxLen) (Jd (s.2.2.1.length*40<=140737488355328) (PL k i a a.2.1 s.2.2.1 s.2.2)))
   (PL k i a s.1 s.2.1 s.2.2)))
def qjm:Hk.M.X->Fr Hk.Out:=FG (λx=>(x.1.1,((x.1.2.1,x.1.2.2.1,x.1.2.2.2.1,x.1.2.2.2.2.1):Ca),((x.1.2.2.2.2.2.1,x.1.2.2.2.2.2.2.1,x.2.1,x.2.2.1):sm))) (λk=>k.1) (λk=>k.2.1) sw (λk s=>((k.2.2.2,()),s.2.2.1,s.2.2.2,()))
def ze4:af prog (.loop (au f48 0)) Hk.M Hk qjm:=
 cX Ah (λi k s=>((i,k.1,k.2.1,k.2.2.1,k.2.2.2,s.1,s.2.1,()),s.2.2.1,s.2.2.2,())) i64.j (Λ:=λ_=>vn.han QH.Γ vn.M R5) (hΛ:=λ_=>nc (by kernel_rfl) (b:=WL) (by kernel_rfl) (af.han Ah rfl ze2))
abbrev ofN:List MI:=[.o 9 (fJ 130 0 132) lQ,.o 97 101 ax,.o 17 3 i64]
abbrev Hj:Pt:=⟨112,4,⟨[(99,.d i64),(98,.d i64)],ofN⟩,⟨[],[.o 9 (fJ 130 0 132) lQ,.o 17 3 i64]⟩,⟨[],[]⟩⟩
def Do(k:Int×List (List ew.q)×List ax.q)(b:Prop)(i:Int)(e:ax.q)(s:List Int):Fr (List Int):=
 Jd b (Jd (i.toNat<k.2.2.length) (Jd (0<=i/\i<(s.length:Int)) (Jd (i.toNat<s.length) (Jv (s.set i.toNat e.2.2.2.2.1)))))
def qjl:Hj.M.X->Fr Hj.Out:=FG (λx=>(x.1.1,(x.1.2.1,x.2.1,x.2.2.1),x.2.2.2.1)) (λk=>k.1) (λk=>k.2.2) Do (λk s=>((),k.2.1,s,()))
def ze3:af prog (.loop (au f48 1)) Hj.M Hj qjl:=
 cX Ah (λi k s=>((i,k.1,()),k.2.1,k.2.2,s,())) ax.j
def ow(a:List ah.q)(b:List ax.q):Ca:=(((iX.f (a,())).1.length:Int),(iX.f (a,())).1,a,b)
def yk(n:Nat)(z:Int):Prop:=0<=(n:Int)/\(n:Int)<=(n:Int)/\(n:Int)<=(maxLen:Int)/\(n:Int)*z<=140737488355328
def Bm(x:ap [.d (.sl ah),.d (.sl ax)]):Fr (aa [.sl lQ,aP,i64]):=
 Jb ((nR.f (x.1,x.2.1,())).1 != 0) (Jv ([],[],(nR.f (x.1,x.2.1,())).1,()))
  (Jd (List.length x.2.1<=maxLen) (Jd (List.length x.2.1*40<=140737488355328) (Jd (yk (List.length x.2.1) 24) (Jd (List.length x.2.1<=maxLen) (Jd (List.length x.2.1*40<=140737488355328) (Jd (List.length x.1<=1000000)
   (cT (InK ((iX.f (x.1,())).1.length:Int) 0 (iX.f (x.1,())).1.length) (bY (sw (ow x.1 x.2.1) True) 0 (iX.f (x.1,())).1 (1,x.2.1,x.2.1,Lrp (Int.toNat (List.length x.2.1:Int)) [])) (bw (sw (ow x.1 x.2.1) True) 0 (iX.f (x.1,())).1 (1,x.2.1,x.2.1,Lrp (Int.toNat (List.length x.2.1:Int)) []))
    (λs=>Jd (yk (List.length x.2.1) 8)
     (cT (InK (s.2.2.1.length:Int) 0 s.2.2.1.length) (bY (Do ((s.2.2.1.length:Int),s.2.2.2,s.2.2.1) True) 0 s.2.2.1 (Lrp (Int.toNat (List.length x.2.1:Int)) 0)) (bw (Do ((s.2.2.1.length:Int),s.2.2.2,s.2.2.1) True) 0 s.2.2.1 (Lrp (Int.toNat (List.length x.2.1:Int)) 0))
      (λo=>Jv (s.2.2.2,o,0,())))))))))))
def qv1:ag prog 48 (bg [.d (.sl ah),.d (.sl ax)] [.sl lQ,aP,i64] Bm):=
 oc Ah ze4 ze3 (fn:=f48)
def Ch{z:Int}(h:n<=1000000)(a:0<=z/\z<=1000):yk n z:=by have:=fI;refine⟨by omega,by omega,by omega,?_⟩;have b:(n:Int)*z<=1000000*z:=Int.mul_le_mul_of_nonneg_right (by omega) a.1;omega
def zg4(k:BX)(s:nu)(n m:Nat)(hb:k.2.1.length<=n)(hm:m+n<=999999)(h1:s.1.length=n)(h2:s.2.length=n)(hr:∀ g∈s.2,g.length<=m):
  bY (su k True) 0 k.2.1 s/\(bw (su k True) 0 k.2.1 s).1.length=n/\(bw (su k True) 0 k.2.1 s).2.length=n/\∀ g∈(bw (su k True) 0 k.2.1 s).2,g.length<=m+k.2.1.length:=
 dK (step:=su k True) (λj (s:nu)=>s.1.length=n/\s.2.length=n/\∀ g∈s.2,g.length<=m+j) k.2.1 (λj e s he hs=>by
  have hj:j<n:=ucb (eO he) hb;obtain⟨a1,a2⟩:=ou hj hs.1;obtain⟨b1,b2⟩:=ou hj hs.2.1;have hg:(s.2.getD (Int.toNat (j:Int)) []).length<=m+j:=by
   rw[uah,uaq b2];exact hs.2.2 _ (udj b2)
  have hl:∀ v,(NA s.1 j v).length=n:=λv=>by
   show(List.set _ _ _).length=n;rw[udp];exact hs.1
  have hx:=fI;refine⟨uT,a1,a2,a1,a2,a1,a2,λ_=>⟨b1,b2,by omega,b1,⟨b2,rfl⟩,hl _,?_,λg hgm=>?_⟩,λ_=>⟨hl _,hs.2.1,λg hgm=>uc4 (hs.2.2 g hgm)⟩⟩
  ·show(List.set _ _ _).length=n;rw[udp];exact hs.2.1
  ·rcases uap hgm with h|h
   ·exact uc4 (hs.2.2 g h)
   ·rw[h,ub6];exact udk hg) s ⟨h1,h2,hr⟩
def zg8(ts:List ah.q)(ls:List ax.q)(ht:ts.length<=100)(hl:ls.length<=2000)(s:sm)(hs:s.2.1.length=ls.length/\s.2.2.1.length=ls.length/\s.2.2.2.length=ls.length/\∀ g∈s.2.2.2,g.length<=0):
  bY (sw (ow ts ls) True) 0 (iX.f (ts,())).1 s/\(bw (sw (ow ts ls) True) 0 (iX.f (ts,())).1 s).2.2.1.length=ls.length/\(bw (sw (ow ts ls) True) 0 (iX.f (ts,())).1 s).2.2.2.length=ls.length/\∀ g∈(bw (sw (ow ts ls) True) 0 (iX.f (ts,())).1 s).2.2.2,g.length<=1000000:=by
 obtain⟨o1,o2⟩:=YQ ts (by omega);have hx:=fI;have key:=dK (step:=sw (ow ts ls) True) (λi (s:sm)=>s.2.1.length=ls.length/\s.2.2.1.length=ls.length/\s.2.2.2.length=ls.length/\∀ g∈s.2.2.2,g.length<=i*2000) (iX.f (ts,())).1 (λi e s he hs=>by
  have hi:i<100:=by
   have:=eO he;omega
  have hin:=o2 e (ubg he);have htl:∀ t kd rd,List.length rd=ls.length->(PL (ow ts ls) i t kd rd s.2.2).s7 (λ(s:sm)=>s.2.1.length=ls.length/\s.2.2.1.length=ls.length/\s.2.2.2.length=ls.length/\∀ g∈s.2.2.2,g.length<=(i+1)*2000):=λt kd rd hrd=>by
   have hbl:(qQ t rd).length<=ls.length:=by
    rcases zp3 t rd (by omega)with h|h
    ·have:qQ t rd=[]:=h;rw[this];exact ufj _
    ·exact Nat.le_of_eq (h.trans hrd)
   obtain⟨k1,k2,k3,k4⟩:=zg4 (G1 (ow ts ls) i t kd rd) s.2.2 ls.length (i*2000) hbl (by omega) hs.2.1 hs.2.2.1 hs.2.2.2;refine⟨by omega,ii (A:=λ(r:nu)=>r.1.length=ls.length/\r.2.length=ls.length/\∀ g∈r.2,g.length<=(i+1)*2000) (eU (by omega)) ⟨k1,k2,k3,λg hg=>?_⟩ (λr hr=>⟨hrd,hr⟩)⟩;have h5:=k4 g hg;have h6:List.length (G1 (ow ts ls) i t kd rd).2.1<=ls.length:=hbl;omega
  exact⟨uT,hin,λ_=>⟨by omega,by omega,htl _ _ _ hs.2.1⟩,λ_=>htl _ _ _ hs.1⟩) s ⟨hs.1,hs.2.1,hs.2.2.1,λg hg=>ueq (hs.2.2.2 g hg) (ufj _)⟩
 obtain⟨k1,_,k3,k4,k5⟩:=key;exact⟨k1,k3,k4,λg hg=>ueq (k5 g hg) (by omega)⟩
def zg7(b:List (List ew.q))(a:List ax.q)(s:List Int)(c:s.length=a.length):bY (Do ((a.length:Int),b,a) True) 0 a s/\True:=
 ⟨(dK (step:=Do ((a.length:Int),b,a) True) (λ_ (s:List Int)=>s.length=a.length) a (λi e s d c=>by obtain⟨f,g⟩:=ou (eO d) c;obtain⟨k,h⟩:=ou (l:=a) (eO d) rfl;exact⟨uT,h,f,g,(show(List.set _ _ _).length=_ by rw[udp];exact c)⟩) s c).1,uT⟩
def qc4(ts:List ah.q)(ls:List ax.q):(Bm (ts,ls,())).s7 (λy=>y.1.length<=2000/\∀ g∈y.1,List.length (α:=ew.q) g<=1000000):=by
 unfold Bm;refine⟨λ_=>⟨ufj _,λ_ h=>(nomatch h)⟩,λhe=>?_⟩;have he':(nR.f (ts,ls,())).1=0:=by simpa using he
 obtain⟨h1,h2⟩:=zgd ts ls he';have hx:=fI;have hl:ls.length<=1000000:=by omega
 have e0:Int.toNat (ls.length:Int)=ls.length:=uc0 _;refine⟨by show ls.length<=maxLen;omega,by show ls.length*40<=_;omega,Ch hl (by decide),by show ls.length<=maxLen;omega,by show ls.length*40<=_;omega,by show ts.length<=_;omega,ii (A:=λ(s:sm)=>s.2.2.1.length=ls.length/\s.2.2.2.length=ls.length/\∀ g∈s.2.2.2,g.length<=1000000) (eU ?_) (zg8 ts ls h1 h2 _ ⟨rfl,rfl,?_,λg hg=>?_⟩) (λs hs=>⟨Ch hl (by decide),ii (A:=λ_=>True) (eU (by rw[hs.1];omega)) (zg7 s.2.2.2 s.2.2.1 _ ?_) (λo _=>⟨by show s.2.2.2.length<=_;omega,hs.2.2⟩)⟩)⟩
 ·have:=(YQ ts (by omega)).1;show(iX.f (ts,())).1.length<=_;omega
 ·show(Lrp (Int.toNat (ls.length:Int)) _).length=ls.length;rw[ubc,e0]
 ·have hg':g∈Lrp (Int.toNat (ls.length:Int)) ([]:List ew.q):=hg;rw[List.eq_of_mem_replicate hg'];exact ufd _
 ·show(Lrp (Int.toNat (ls.length:Int)) _).length=_;rw[ubc,e0];exact hs.1.symm
def tC:Ct:=⟨[.d (.sl ah),.d (.sl ax)],[.sl lQ,aP,i64],λx=>(Bm x).get,λ_=>[]⟩
def SY:ag prog 48 tC:=cq qv1 _ (λx _ _=>(dt (qc4 x.1 x.2.1)).1)
def qc3(b:List ah.q)(a:List ax.q):(tC.f (b,a,())).1.length<=2000/\∀ g∈(tC.f (b,a,())).1,List.length (α:=ew.q) g<=1000000:=(dt (qc4 b a)).2
def qhu:Cx:=cx [(228,E9),(229,tw)] []
def QJ:CxOK prog qhu:=aQ aH ⟨YN,T4,uT⟩ trivial
abbrev rV:Pt:=⟨32,0,⟨[(5,.d i64),(4,.d i64)],[.x 1 150 aq,.r 1 1 0,.x 3 150 aq,.r 3 3 0]⟩,⟨[(4,.d i64)],[]⟩,⟨[],[]⟩⟩
def qxr(x:rV.M.X):Fr rV.Out:=
 match x with
 |((k,e,_),f,y,_)=>
  Jb (bif J (k<(List.length f.2.1:Int))then e==0 else Y)
   (Jd (0<=k/\k<(List.length f.2.1:Int)) (Jv (Rd.next ((I6.wrap (k+1),(tw.f (y,List.getD f.2.1 k.toNat ba.j,())).2.1,()),f,(tw.f (y,List.getD f.2.1 k.toNat ba.j,())).1,()))))
   (Jv (Rd.out ((e,()),())))
def zm9:af prog (au f209 0) rV.M rV qxr:=ep QJ
def jw:List ba.q->aq.q->Int->Int
 |[],_,e=>e
 |a::r,y,e=>if e=0 then jw r (tw.f (y,a,())).1 (tw.f (y,a,())).2.1 else e
def qji(x:rV.M.X):Fr rV.Out:=
 match x with
 |((k,e,_),f,y,_)=>Jd (0<=k/\k<=(List.length f.2.1:Int)/\List.length f.2.1<=maxLen) (Jv (Rd.out ((jw (List.drop k.toNat f.2.1) y e,()),())))
def zf9{k:Int}{l:List ba.q}(h:0<=k/\k<=(l.length:Int)/\l.length<=maxLen)(c:k<(l.length:Int)):I6.wrap (k+1)=k+1/\List.drop k.toNat l=l.getD k.toNat ba.j::List.drop (k+1).toNat l:=by
 have b:maxLen<=9223372036854775807:=by decide
 have a:k.toNat<l.length:=by omega
 refine⟨cV (by omega),?_⟩;rw[show(k+1).toNat=k.toNat+1 by omega,ual a,uah,uaq a];rfl
def zf7{k:Int}(h:0<=k/\k<=(n:Int)/\n<=maxLen)(a:k<(n:Int)):(0<=k+1/\k+1<=(n:Int)/\n<=maxLen)/\((n:Int)-(k+1)).toNat<((n:Int)-k).toNat:=by omega
def zf6{k:Int}(h:0<=k/\k<=(n:Int)/\n<=maxLen)(a:¬ k<(n:Int)):n<=k.toNat:=by omega
def zev:af prog (.loop (au f209 0)) rV.M rV qji:=
 af.loop zm9 (inv:=λx=>0<=x.1.1/\x.1.1<=(List.length x.2.1.2.1:Int)/\List.length x.2.1.2.1<=maxLen) (μ:=λx=>((List.length x.2.1.2.1:Int)-x.1.1).toNat)
  (by rintro⟨⟨k,e,_⟩,f,y,_⟩ a Q c;have c:Q (Rd.out ((jw (List.drop k.toNat f.2.1) y e,()),())):=c.2;have a:0<=k/\k<=(List.length f.2.1:Int)/\List.length f.2.1<=maxLen:=a;by_cases d:k<(List.length f.2.1:Int);obtain⟨l,m⟩:=zf9 a d;obtain⟨i,n⟩:=zf7 a d;rw[m]at c;by_cases g:e=0;rw[jw,uf0 g]at c;refine⟨λ_=>⟨⟨a.1,d⟩,?_⟩,λb=>?_⟩;rw[l];exact⟨i,n,i,c⟩;rw[ueb d,g]at b;cases b;rw[jw,uf1 g]at c;refine⟨λb=>?_,λ_=>c⟩;have b:(bif J (k<(List.length f.2.1:Int))then e==0 else Y)=true:=b;rw[ueb d]at b;exact absurd (by simpa using b) g;have:=zf6 a d;rw[ua2 this,jw]at c;refine⟨λb=>?_,λ_=>c⟩;have b:(bif J (k<(List.length f.2.1:Int))then e==0 else Y)=true:=b;rw[udw d]at b;cases b)
  (λx Q h=>h.1)
def UP(x:ap [.d aq]):Fr (aa [.bool]):=
 Jd (0<=(0:Int)/\(0:Int)<=(List.length x.1.2.1:Int)/\List.length x.1.2.1<=maxLen) (Jv (jw (List.drop (Int.toNat 0) x.1.2.1) (E9.f (x.1.1,())).1 0==0,()))
def K1:Ct:=⟨[.d aq],[.bool],λx=>(UP x).get,λ_=>[]⟩
def quy:ag prog 209 (bg [.d aq] [.bool] UP):=cZ QJ zev (fn:=f209)
def qna:ag prog 209 K1:=cq quy _ (λx a _=>⟨⟨by decide,ub4 _,a.1.2.1.1⟩,uT⟩)
def qhv:Cx:=cx [(135,nP),(68,Ay),(209,K1)] []
def QK:CxOK prog qhv:=aQ aH ⟨qbt,SG,qna,uT⟩ trivial
def LE(x:ap [.d aq]):Fr (aa [aC]):=
 Jv ((if (nP.f (x.1,())).1.1<(nP.f (x.1,())).1.2.1 then (nP.f (x.1,())).1.2.1 else (nP.f (x.1,())).1.1,(nP.f (x.1,())).1.2),())
def qtu:ag prog 83 ⟨[.d aq],[aC],λxs=>(LE xs).get,λxs=>[(LE xs).ok]⟩:=
 cF QK (Λ:=bK) (fn:=f83) (aY [.d aq]) (by kernel_rfl) (λc E _=>bm c 0) (λx=>by kernel_rfl)
def EH:Ct:=⟨[.d aq],[aC],λx=>(LE x).get,λ_=>[]⟩
def qmt:ag prog 83 EH:=cq qtu _ (λx a _=>uT)
def LB(x:ap [.d aq,.ptr ar]):Fr (aa [.bool]):=
 Jv (bif bif !(Ay.f (x.1.1,())).1 then Z else x.1.1.2.2.1 != x.2.1.1 then Z else !(K1.f (x.1,())).1,())
def qte:ag prog 208 ⟨[.d aq,.ptr ar],[.bool],λxs=>(LB xs).get,λxs=>[(LB xs).ok]⟩:=
 cF QK (Λ:=bK) (fn:=f208) (aY [.d aq,.ptr ar]) (by kernel_rfl) (λc E _=>bm c 0) (λx=>by kernel_rfl)
def wZ:Ct:=⟨[.d aq,.ptr ar],[.bool],λx=>(LB x).get,λ_=>[]⟩
def qmp:ag prog 208 wZ:=cq qte _ (λx a _=>uT)
def qhw:Cx:=cx [(136,kZ),(210,ir aq),(208,wZ)] []
def qhx:CxOK prog qhw:=aQ aH ⟨AX,Sb,qmp,uT⟩ trivial
def Fw(x:ap [.d ar,.d (.sl aq)]):Fr (aa [.bool]):=
 let a:=kZ.f (x.1,());Jd (a.1=Z->∀ (b:aa [aq]),gN [aq] b->az (wZ.ok (b.1,x.1,()))) (Jv (bif a.1 then !((ir aq).f (x.2.1,λb=>wZ.f (b.1,x.1,()),())).1 else Y,()))
def qtf:ag prog 180 ⟨[.d ar,.d (.sl aq)],[.bool],λxs=>(Fw xs).get,λxs=>[(Fw xs).ok]⟩:=
 cF qhx (Λ:=bK) (fn:=f180) (aY [.d ar,.d (.sl aq)]) (by kernel_rfl) (λc E _=>bm c 0) (λx=>by kernel_rfl)
def AG:Ct:=⟨[.d ar,.d (.sl aq)],[.bool],λx=>(Fw x).get,λ_=>[]⟩
def qmq:ag prog 180 AG:=cq qtf _ (λx a _=>by unfold Fw;repeat' first|exact trivial|intro _|refine⟨?_,?_⟩|decide)
def QL:Cx:=cx [(180,AG)] []
def IV:CxOK prog QL:=aQ aH ⟨qmq,uT⟩ trivial
abbrev yJ:Pt:=⟨31,0,⟨[(14,.d i64),(13,.d i64),(12,.d (.sl aq)),(5,.d i64),(1,.d (.sl aq))],[]⟩,⟨[(5,.d i64),(1,.d (.sl aq))],[]⟩,⟨[],[]⟩⟩
def HU(k:Int×(List aq.q)×(List aq.q))(b:Prop)(i:Int)(e:aq.q)(s:Int):Fr (Int):=
 Jd b (Jv (I6.wrap (s+((List.length e.2.1):Int))))
def Rp:yJ.M.X->Fr yJ.Out:=FG (λx=>(x.1.1,(x.1.2.1,x.1.2.2.1,x.1.2.2.2.2.1),x.1.2.2.2.1)) (λk=>k.1) (λk=>k.2.1) HU (λk s=>((s,k.2.2,()),()))
def zd1:af prog (.loop (au f132 0)) yJ.M yJ Rp:=
 cX IV (λi k s=>((i,k.1,k.2.1,s,k.2.2,()),())) aq.j
def MT:=λk s=>bw (HU k True) 0 k.2.1 s
def Y4:=λk s=>bY (HU k True) 0 k.2.1 s
def zso(a:Gm):St->Option Tr:=yJ.han a yJ.M Rp
def xC(x:ap [.d ar,.d (.sl aq)]):Fr (aa [i64]):=
 Jb (!(AG.f x).1) (Jv (1,())) (cT (InK (((List.length x.2.1):Int)) 0 (List.length x.2.1)) (Y4 (((List.length x.2.1):Int),x.2.1,x.2.1) 0) (MT (((List.length x.2.1):Int),x.2.1,x.2.1) 0) (λa=>Jb (bif J (((List.length x.2.1):Int)>2000)then Z else J (a>2000)) (Jv (2,())) (Jv (0,()))))
def qth:ag prog 132 ⟨[.d ar,.d (.sl aq)],[i64],λxs=>(xC xs).get,λxs=>[(xC xs).ok]⟩:=
 cF IV (Λ:=(λ_=>zso QL.Γ)) (fn:=f132) (aY [.d ar,.d (.sl aq)]) (by kernel_rfl) (λc E a=>fH a (by kernel_rfl) (b:=au f132 0) (by kernel_rfl) (af.han IV rfl zd1)) (λx=>by kernel_rfl)
def dC(l:List aq.q):Prop:=l.length<=1000000/\∀ f∈l,List.length (α:=ba.q) f.2.1<=1000000
def fu(l:List aq.q):Nat:=(l.map (λf=>List.length (α:=ba.q) f.2.1)).sum
def PA:(l:List aq.q)->(∀ f∈l,List.length (α:=ba.q) f.2.1<=n)->fu l<=l.length*n
 |[],_=>ufj _
 |f::r,h=>by have b:=h f ucc;have c:=PA r (λf a=>h f (ubj _ a));show List.length (α:=ba.q) f.2.1+fu r<=(r.length+1)*n;rw[uff];omega
def qby{l:List aq.q}{e:aq.q}(a:l[i]?= U e):fu (l.take (i+1))=fu (l.take i)+List.length (α:=ba.q) e.2.1:=by unfold fu;rw[List.take_succ,a,udx,List.sum_append];rfl
def Tj(l:List aq.q)(h:dC l):Y4 ((l.length:Int),l,l) 0/\MT ((l.length:Int),l,l) 0=(fu l:Int):=by
 have a:=dK (step:=HU ((l.length:Int),l,l) True) (λi (s:Int)=>s=(fu (l.take i):Int)) l (λi e s k o=>by
  refine⟨uT,?_⟩;have c:=PA (n:=1000000) (l.take (i+1)) (λf m=>h.2 f (ubq m));have d:(l.take (i+1)).length<=1000000:=by rw[uc6];have:=h.1;omega
  have b:=qby k;show I6.wrap (s+(List.length (α:=ba.q) e.2.1:Int))=_;have g:fu (l.take (i+1))<=1000000*1000000:=ueq c (ube _ d);rw[b,o];rw[b]at g;rw[show((fu (List.take i l)+List.length (α:=ba.q) e.2.1:Nat):Int)=(fu (List.take i l):Int)+(List.length (α:=ba.q) e.2.1:Int) from rfl];exact cV (by omega)) 0 rfl
 rw[List.take_length]at a;exact a
def Tl(c:ar.q)(l:List aq.q)(h:dC l):(xC (c,l,())).s7 (λy=>y.1=0->l.length<=2000/\fu l<=2000):=by refine⟨λ_ h=>(by cases h),λ_=>ii (A:=λs=>s=(fu l:Int)) (eU (ueq h.1 (by decide))) (Tj l h) (λs e=>⟨λ_ h=>(by cases h),λa _=>?_⟩)⟩;have a:(bif J ((l.length:Int)>2000)then Z else J (s>2000))=false:=a;by_cases b:(l.length:Int)>2000;rw[ueb b]at a;cases a;rw[udw b]at a;have d:¬ s>2000:=uch a;rw[e]at d;omega
def px:Ct:=⟨[.d ar,.d (.sl aq)],[i64],λx=>(xC x).get,λx=>[dC x.2.1]⟩
def qms:ag prog 132 px:=cq qth _ (λx _ a=>(dt (Tl x.1 x.2.1 a)).1)
def Tk(c:ar.q)(l:List aq.q)(h:dC l)(a:(px.f (c,l,())).1=0):l.length<=2000/\fu l<=2000:=(dt (Tl c l h)).2 a
def Nt:Code:=((Go.Ab.loopB (au f211 0) 0).getD .skip)
def zm6:af prog Nt (gw 272 aA).M (gw 272 aA) (B0 272 aA):=
 ep aL
def zc9:af prog (.loop Nt) (gw 272 aA).M (gw 272 aA) (wj 272 aA):=XI zm6
def qeg:Nat->St->Option Tr:=λ_=>(gw 272 aA).han eN.Γ (gw 272 aA).M (wj 272 aA)
def zbh{E:Env}:co prog E qeg (au f211 0) 0:=
 nc (b:=Nt) (by kernel_rfl) (by kernel_rfl) (af.han aL rfl zc9)
def zm8:af prog (au f211 0) (gy 272 aA).M (gy 272 aA) (B3 272 aA):=
 af.of_run aL (bs:=0) (Λ:=qeg) rfl rfl rfl (λE=>zbh) (λx=>by kernel_rfl)
def zdb:af prog (.loop (au f211 0)) (gy 272 aA).M (gy 272 aA) (wk 272 aA):=XJ zm8
def zsg:Nat->St->Option Tr:=λ_=>(gy 272 aA).han eN.Γ (gy 272 aA).M (wk 272 aA)
def zai:SoundMt prog 211 (ng 272 aA):=
 jK (jU aL (Λ:=zsg) (fn:=f211) (fr:=(B4 272 aA)) (e:=272) (T:=aA) (ps:=[.d i64,.d i64,(aZ aA)]) (rs:=[]) (0,0,(λ_=>(0,()),λ_=>True),()) (by kernel_rfl) rfl rfl
  (λc E g=>fH g (by kernel_rfl) (b:=au f211 0) (by kernel_rfl) (af.han aL rfl zdb)) (λl x=>by kernel_rfl)) _ _ λ_ _ l h _ _ a _ f=>WV l h a f
def zns:af prog (au f240 0) (gF 272 aA).M (gF 272 aA) (BE 272 aA):=
 ep aL
def zdx:af prog (.loop (au f240 0)) (gF 272 aA).M (gF 272 aA) (wu 272 aA):=XR zns
def zsn:Nat->St->Option Tr:=λ_=>(gF 272 aA).han eN.Γ (gF 272 aA).M (wu 272 aA)
def zpk:SoundMt prog 240 (mh 272 aA):=
 jK (jU aL (Λ:=zsn) (fn:=f240) (fr:=(Ga 272 aA)) (e:=272) (T:=aA) (ps:=[.d i64,.d i64,.d i64,(aZ aA)]) (rs:=[]) (0,0,0,(λ_=>(0,()),λ_=>True),()) (by kernel_rfl) rfl rfl
  (λc E g=>fH g (by kernel_rfl) (b:=au f240 0) (by kernel_rfl) (af.han aL rfl zdx)) (λl x=>by kernel_rfl)) _ _ λ_ _ l h _ _ a _ f=>qcb l h a f
def Qx:Cx:=dI [] [] (i6 (cx [] []).Γ 240 (mh 272 aA))
def IJ:CxOK prog Qx:=dP aH trivial trivial (jg aL.ct zpk)
def znf:af prog (au f231 0) (g7 272 aA).M (g7 272 aA) (B6 272 aA):=
 ep IJ
def zdk:af prog (.loop (au f231 0)) (g7 272 aA).M (g7 272 aA) (wm 272 aA):=XL znf
def zsj:Nat->St->Option Tr:=λ_=>(g7 272 aA).han Qx.Γ (g7 272 aA).M (wm 272 aA)
def zlr:SoundMt prog 231 (rN 272 aA):=
 jK (jU IJ (Λ:=zsj) (fn:=f231) (fr:=(B7 272 aA)) (e:=272) (T:=aA) (ps:=[.d i64,.d i64,.d i64,(aZ aA)]) (rs:=[]) (0,0,0,(λ_=>(0,()),λ_=>True),()) (by kernel_rfl) rfl rfl
  (λc E g=>fH g (by kernel_rfl) (b:=au f231 0) (by kernel_rfl) (af.han IJ rfl zdk)) (λl x=>by kernel_rfl)) _ _ λ_ _ l h _ _ a _ f=>qae l h a f
def znh:af prog (au f212 0) (g8 272 aA).M (g8 272 aA) (B8 272 aA):=
 ep aL
def zdm:af prog (.loop (au f212 0)) (g8 272 aA).M (g8 272 aA) (wn 272 aA):=XM znh
def znl:af prog (au f212 2) (gC 272 aA).M (gC 272 aA) (BA 272 aA):=
 ep aL
def zdq:af prog (.loop (au f212 2)) (gC 272 aA).M (gC 272 aA) (wq 272 aA):=XO znl
def znp:af prog (au f212 4) (gE 272 aA).M (gE 272 aA) (BC 272 aA):=
 ep aL
def zdu:af prog (.loop (au f212 4)) (gE 272 aA).M (gE 272 aA) (wt 272 aA):=XQ znp
def znj:af prog (au f212 1) (g9 272 aA).M (g9 272 aA) (B9 272 aA):=
 ep aL
def zdo:af prog (.loop (au f212 1)) (g9 272 aA).M (g9 272 aA) (wo 272 aA):=XN znj
def znn:af prog (au f212 3) (gD 272 aA).M (gD 272 aA) (BB 272 aA):=
 ep aL
def zds:af prog (.loop (au f212 3)) (gD 272 aA).M (gD 272 aA) (ws 272 aA):=XP znn
def Qz(n:Nat):Cx:=dI [] [] (kR (i6 (cx [] []).Γ 231 (rN 272 aA)) (i6 (cx [] []).Γ 212 ((kN 272 aA) n)))
def qe8(h:SoundMt prog 212 ((kN 272 aA) n)):CxOK prog (Qz n):=dP aH trivial trivial (mj (jg aL.ct zlr) (jg aL.ct h))
def Ql:Nat->St->Option Tr
 |0=>(g8 272 aA).han eN.Γ (g8 272 aA).M (wn 272 aA)
 |1=>(g9 272 aA).han eN.Γ (g9 272 aA).M (wo 272 aA)
 |2=>(gC 272 aA).han eN.Γ (gC 272 aA).M (wq 272 aA)
 |3=>(gD 272 aA).han eN.Γ (gD 272 aA).M (ws 272 aA)
 |_=>(gE 272 aA).han eN.Γ (gE 272 aA).M (wt 272 aA)
def zbl{E:Env}{c:Code}(n:f212.body=U c):co prog E Ql c 0:=by
 have f:(f212.body.map cD)=U 5:=by kernel_rfl
 have g:f212.body.bind (Go.Ab.loopB · 0)=U (au f212 0):=by kernel_rfl
 have h:f212.body.bind (Go.Ab.loopB · 1)=U (au f212 1):=by kernel_rfl
 have k:f212.body.bind (Go.Ab.loopB · 2)=U (au f212 2):=by kernel_rfl
 have l:f212.body.bind (Go.Ab.loopB · 3)=U (au f212 3):=by kernel_rfl
 have m:f212.body.bind (Go.Ab.loopB · 4)=U (au f212 4):=by kernel_rfl
 have d:∀ i,i<5->f212.body.bind (Go.Ab.loopB · i)=U (au f212 i):=λi o=>match i,o with
  |0,_=>g
  |1,_=>h
  |2,_=>k
  |3,_=>l
  |4,_=>m
 rw[n]at f d;simp only[Option.map_some,ucl]at f;simp only[udb]at d;refine mf c 0 λi p a=>?_;have b:=loopB_lt a;rw[f]at b;have e:=d i b;rw[e]at a;cases a
 match i,b with
 |0,_=>exact af.han aL rfl zdm
 |1,_=>exact af.han aL rfl zdo
 |2,_=>exact af.han aL rfl zdq
 |3,_=>exact af.han aL rfl zds
 |4,_=>exact af.han aL rfl zdu
def zl5(n:Nat)(l:List (aA).q)(x:ap [.d i64,.d i64,.d i64,(aZ aA)]):CT prog (Qz n) Ql f212 272 aA [.d i64,.d i64,.d i64,(aZ aA)] [] l x=U ((ue 272 aA) n l x):=by kernel_rfl
def qcd:(n:Nat)->SoundMt prog 212 ((kN 272 aA) n)
 |0=>by
  have hf:prog.funcs[212]?= some f212:=by kernel_rfl
  obtain⟨c,hb⟩:∃ c,f212.body=some c:=⟨_,rfl⟩;refine⟨by decide,rfl,rfl,enters hf hb (by kernel_rfl),λw F l xs v vs rows _ _ _ _ _ _ _ hok=>?_⟩;have h:SymOk 0 xs.1 xs.2.1 xs.2.2.1 xs.2.2.2.1 l:=hok;have h1:=h.am;have h2:=h.mb;have h3:=h.size;omega
 |n+1=>by
  refine jK (jU (qe8 (qcd n)) (Λ:=Ql) (fn:=f212) (fr:=(ue 272 aA) n) (e:=272) (T:=aA) (ps:=[.d i64,.d i64,.d i64,(aZ aA)]) (rs:=[]) (0,0,0,(λ_=>(0,()),λ_=>True),()) (by kernel_rfl) rfl rfl
   (λc E hc=>zbl hc) (zl5 n)) _ _ λw F l xs vs _ _ _ hok=>?_
  obtain⟨a,m,b,g,rfl⟩:∃ (a m b:Int) (g:(aZ aA).q),xs=(a,m,b,g,()):=⟨xs.1,xs.2.1,xs.2.2.1,xs.2.2.2.1,rfl⟩;have h:SymOk (n+1) a m b g l:=hok;have h0:=h.a0;have h1:=h.am;have h2:=h.mb;obtain⟨a',rfl⟩:∃ n:Nat,a=n:=⟨a.toNat,by omega⟩;obtain⟨m',rfl⟩:∃ n:Nat,m=n:=⟨m.toNat,by omega⟩;obtain⟨b',rfl⟩:∃ n:Nat,b=n:=⟨b.toNat,by omega⟩;exact qci n a' m' b' g l h
def DK:Cx:=dI [] [] (kR (i6 (cx [] []).Γ 211 (ng 272 aA)) (i6 (cx [] []).Γ 212 ((kN 272 aA) big)))
def sV:CxOK prog DK:=dP aH trivial trivial (mj (jg aL.ct zai) (jg aL.ct (qcd big)))
def zm1:af prog (au f181 0) (gv 272 aA).M (gv 272 aA) (By 272 aA):=
 ep sV
def zc2:af prog (.loop (au f181 0)) (gv 272 aA).M (gv 272 aA) (wh 272 aA):=XH zm1
def O2:Code:=((Go.Ab.loopB (au f181 1) 0).getD .skip)
def znd:af prog O2 (gz 272 aA).M (gz 272 aA) (B5 272 aA):=
 ep sV
def zdg:af prog (.loop O2) (gz 272 aA).M (gz 272 aA) (wl 272 aA):=XK znd
def qei:Nat->St->Option Tr:=λ_=>(gz 272 aA).han DK.Γ (gz 272 aA).M (wl 272 aA)
def zbj{E:Env}:co prog E qei (au f181 1) 0:=
 nc (b:=O2) (by kernel_rfl) (by kernel_rfl) (af.han sV rfl zdg)
def zmz:af prog (au f181 1) (gu 272 aA).M (gu 272 aA) (Bw 272 aA):=
 af.of_run sV (bs:=0) (Λ:=qei) rfl rfl rfl (λE=>zbj) (λx=>by kernel_rfl)
def zc0:af prog (.loop (au f181 1)) (gu 272 aA).M (gu 272 aA) (wg 272 aA):=XG zmz
def zsl:Nat->St->Option Tr
 |0=>(gv 272 aA).han DK.Γ (gv 272 aA).M (wh 272 aA)
 |_=>(gu 272 aA).han DK.Γ (gu 272 aA).M (wg 272 aA)
def zom:SoundMt prog 181 (qc 272 aA):=
 jK (jU sV (Λ:=zsl) (fn:=f181) (fr:=(BD 272 aA)) (e:=272) (T:=aA) (ps:=[.d i64,(aZ aA)]) (rs:=[]) (0,(λ_=>(0,()),λ_=>True),()) (by kernel_rfl) rfl rfl
  (λc E f=>GA f (by kernel_rfl) (b0:=au f181 0) (b1:=au f181 1) (by kernel_rfl) (by kernel_rfl) (af.han sV rfl zc2) (af.han sV rfl zc0)) (λl x=>by kernel_rfl)) _ _ λ_ _ l g _ _ a _ b=>qbr l g a b
def qfb:Cx:=dI [] [] (i6 (cx [] []).Γ 181 (qc 272 aA))
def qfc:CxOK prog qfb:=dP aH trivial trivial (jg aL.ct zom)
def zn9:SoundMt prog 133 (rO 272 aA):=
 jK (jU qfc (Λ:=bK) (fn:=f133) (fr:=(FZ 272 aA)) (e:=272) (T:=aA) (ps:=[(aZ aA)]) (rs:=[]) ((λ_=>(0,()),λ_=>True),()) (by kernel_rfl) rfl rfl
  (λc E _=>bm c 0) (λl x=>by kernel_rfl)) _ _ λ_ _ l d _ _ a _ b=>qbk l d a b
def QM:Cx:=cx [(157,pq)] []
def IW:CxOK prog QM:=aQ aH ⟨Fe,uT⟩ trivial
abbrev vi:Pt:=⟨18,0,⟨[(8,.d i64),(7,.d i64),(6,.d aP),(3,.d i64)],[]⟩,⟨[(3,.d i64)],[]⟩,⟨[(2,.d i64)],[]⟩⟩
def oW(k:Int×(List Int)×Int)(b:Prop)(i:Int)(e:i64.q)(s:Unit):Fr (Unit ⊕ vi.R.X):=
 Jd b (Jb (e != k.2.2) (Jv (.inr ((e,()),()))) (Jv (.inl ())))
def Rq:vi.M.X->Fr vi.Out:=FK (λx=>(x.1.1,(x.1.2.1,x.1.2.2.1,x.1.2.2.2.1),())) (λk=>k.1) (λk=>k.2.1) oW (λk s=>((k.2.2,()),())) (λ_ y=>Rd.back y) () (aY _,cf _)
def zd9:af prog (.loop (au f182 0)) vi.M vi Rq:=
 lG IW (λi k s=>((i,k.1,k.2.1,k.2.2,()),())) i64.j
def qyk:=λk s=>bC (oW k True) 0 k.2.1 s
def zhc:=λk s=>eI (oW k True) 0 k.2.1 s
def zsp(a:Gm):St->Option Tr:=vi.han a vi.M Rq
def LH(x:ap [.d aP]):Fr (aa [i64]):=
 iS (InK (((List.length x.1):Int)) 0 (List.length x.1)) (zhc (((List.length x.1):Int),x.1,0) ()) (qyk (((List.length x.1):Int),x.1,0) ()) () (aY _,cf _) (λ_=>Jv (0,())) (λa=>Jv (a.1.1,()))
def qtx:ag prog 182 ⟨[.d aP],[i64],λxs=>(LH xs).get,λxs=>[(LH xs).ok]⟩:=
 cF IW (Λ:=(λ_=>zsp QM.Γ)) (fn:=f182) (aY [.d aP]) (by kernel_rfl) (λc E a=>fH a (by kernel_rfl) (b:=au f182 0) (by kernel_rfl) (af.han IW rfl zd9)) (λx=>by kernel_rfl)
def AH:Ct:=⟨[.d aP],[i64],λx=>(LH x).get,λ_=>[]⟩
def qmw:ag prog 182 AH:=cq qtx _ (λx a _=>sS (jd a.1.1) (by refine Oh (λ_ _ _=>?_) _ _ _;exact⟨uT,λ_=>uT,λ_=>uT⟩) (λ_=>uT) (λ_=>uT))
def qhy:Cx:=cx [(157,pq),(182,AH)] []
def qhz:CxOK prog qhy:=aQ aH ⟨Fe,qmw,uT⟩ trivial
def LC(x:ap [.d aA,.d aA]):Fr (aa [i64]):=
 Jv ((AH.f ([(pq.f (x.1.2.1.1,x.2.1.2.1.1,())).1,(pq.f (x.1.1,x.2.1.1,())).1],())).1,())
def qtg:ag prog 134 ⟨[.d aA,.d aA],[i64],λxs=>(LC xs).get,λxs=>[(LC xs).ok]⟩:=
 cF qhz (Λ:=bK) (fn:=f134) (aY [.d aA,.d aA]) (by kernel_rfl) (λc E _=>bm c 0) (λx=>by kernel_rfl)
def tA:Ct:=⟨[.d aA,.d aA],[i64],λx=>(LC x).get,λ_=>[]⟩
def qmr:ag prog 134 tA:=cq qtg _ (λx a _=>uT)
def zib(a b:Int):(AH.f ([a,b],())).1=if a≠0 then a else b:=by
 have g:∀ (k:Int×List Int×Int) (i e:Int),k.2.2=0->(oW k True i e ()).get=if e≠0 then .inr ((e,()),())else .inl ():=λk i e n=>by show(if (e != k.2.2)=Z then _ else _)=_;rw[n];by_cases d:e=0;rw[uf1 (by simp[d]),uf1 (by simp[d])];rfl;rw[uf0 (by simpa using d),uf0 d];rfl
 show((iS _ _ (bC (oW (2,[a,b],0) True) 0 [a,b] ()) () (aY _,cf _) _ _).get:aa [i64]).1=_;by_cases c:a=0;have h:bC (oW (2,[a,b],0) True) 0 [a,b] ()=bC (oW (2,[a,b],0) True) 1 [b] ():=by rw[bC,g _ _ _ rfl,uf1 (by simp[c])];rfl
 rw[h,uf1 (by simp[c])];by_cases m:b=0;have l:bC (oW (2,[a,b],0) True) 1 [b] ()=.inl ():=by rw[bC,g _ _ _ rfl,uf1 (by simp[m])];rfl
 rw[l,m];rfl;have l:bC (oW (2,[a,b],0) True) 1 [b] ()=.inr ((b,()),()):=by rw[bC,g _ _ _ rfl,uf0 m]
 rw[l];rfl;have h:bC (oW (2,[a,b],0) True) 0 [a,b] ()=.inr ((a,()),()):=by rw[bC,g _ _ _ rfl,uf0 c]
 rw[h,uf0 c];rfl
def Cc(x:aA.q):Int:=x.2.1.1*18446744073709551616+x.1
def qku{b f g:Int}(c:0<=f/\f<18446744073709551616)(d:0<=g/\g<18446744073709551616):(if nT a b≠0 then nT a b else nT f g)<0↔a*18446744073709551616+f<b*18446744073709551616+g:=by unfold nT;split<;>split<;>(try split)<;>(try split)<;>(try split)<;>omega
def qkt{x y:aA.q}(a:0<=x.1/\x.1<18446744073709551616)(b:0<=y.1/\y.1<18446744073709551616):(tA.f (x,y,())).1<0↔Cc x<Cc y:=by have e:(tA.f (x,y,())).1=(AH.f ([nT x.2.1.1 y.2.1.1,nT x.1 y.1],())).1:=rfl;rw[e,zib];exact qku a b
def yB(c:ar.q)(a b:Int):Int:=
 bif bif bif !(kZ.f (c,())).1 then Z else J (a<0)then Z else J (b<0)then 0
 else (nQ.f ((AJ.f (c,(AI.f (c,a,())).1,())).1,[I6.wrap (c.2.2.1-b)],())).1
def A9:Ct:=⟨[.d ar,.d i64,.d i64],[i64],λx=>(yB x.1 x.2.1 x.2.2.1,()),λ_=>[]⟩
def Nw{d:List PT}{g:ap d->aa [i64]}{ok:ap d->List Prop}(h:ag prog f ⟨d,[i64],g,ok⟩){xs:ap d}(l:∀ b,F b->b<w.heap.size)(m:dm prog w F d xs vs)(i:az (ok xs)):
  Calls prog f vs.toArray w λe w'=>e=.returned (.int .i64 (g xs).1)/\Go.Ab.inR .i64 (g xs).1/\Below w.heap.size w w':=by
 refine(h.2 w F xs vs l m i).mono ?_;rintro e w' ⟨v,k,rfl,a,_,_,n⟩;have c:aK prog w' k (λ_ _=>True) (eR i64 (g xs).1) v:=iH n;exact⟨by rw[c.2.1],c.2.2,a⟩
def qd3(n:Int):wrap64 n=I6.wrap n:=by unfold wrap64;rw[udg]
def tL(c:ar.q):Value:=.agg #[.int .i64 c.1,.int .i64 c.2.1,.int .i64 c.2.2.1,.int .i64 c.2.2.2.1,.int .i64 c.2.2.2.2.1]
def qpq{c:ar.q}(h:bJ w F ar c v):v=tL c:=by
 obtain⟨d,rfl⟩:=h.2.1.1 rfl;have m:d.size=5:=h.1;obtain⟨e,f,g,k,l,_⟩:=h.2.2;unfold tL;congr 1;apply ufs;exact m;intro i a b
 match i,a,b with
 |0,h,_=>exact ud4 ((uam h).symm.trans e.1)
 |1,h,_=>exact ud4 ((uam h).symm.trans f.1)
 |2,h,_=>exact ud4 ((uam h).symm.trans g.1)
 |3,h,_=>exact ud4 ((uam h).symm.trans k.1)
 |4,h,_=>exact ud4 ((uam h).symm.trans l.1)
def zjf (p r g s t a c:Int) (A:Bool) (f i:Int->Int) (k:Int->Int->Int)
  (y:∀ W,Calls prog 136 #[.agg #[.int .i64 p,.int .i64 r,.int .i64 g,.int .i64 s,.int .i64 t]] W λe w'=>e=.returned (.bool A)/\Below W.heap.size W w')
  (N:∀ W,Calls prog 137 #[.agg #[.int .i64 p,.int .i64 r,.int .i64 g,.int .i64 s,.int .i64 t],.int .i64 a] W λe w'=>e=.returned (.int .i64 (f a))/\Go.Ab.inR IntKind.i64 (f a)/\Below W.heap.size W w')
  (P:∀ W,Go.Ab.inR IntKind.i64 (f a)->Calls prog 138 #[.agg #[.int .i64 p,.int .i64 r,.int .i64 g,.int .i64 s,.int .i64 t],.int .i64 (f a)] W λe w'=>e=.returned (.int .i64 (i (f a)))/\Go.Ab.inR IntKind.i64 (i (f a))/\Below W.heap.size W w')
  (O:∀ W b,Go.Ab.inR IntKind.i64 (i (f a))->W.heap[b]?= U (.cells #[.int .i64 (wrap64 (g-c))] 3 (0,0))->Calls prog 139 #[.int .i64 (i (f a)),.slice (U ⟨b,0,V⟩) 1 1] W λe w'=>e=.returned (.int .i64 (k (i (f a)) (wrap64 (g-c))))/\Go.Ab.inR IntKind.i64 (k (i (f a)) (wrap64 (g-c)))/\Below W.heap.size W w')
  (w:World) :
  Calls prog 84 #[.agg #[.int .i64 p,.int .i64 r,.int .i64 g,.int .i64 s,.int .i64 t],.int .i64 a,.int .i64 c] w λe w'=>e=.returned (.int .i64 (bif bif bif !A then Z else J (a<0)then Z else J (c<0)then 0 else k (i (f a)) (wrap64 (g-c))))/\Go.Ab.inR IntKind.i64 (bif bif bif !A then Z else J (a<0)then Z else J (c<0)then 0 else k (i (f a)) (wrap64 (g-c)))/\Below w.heap.size w w':=by
 have v:=(ufn _ w).alloc (ufd _) (.cells #[.int .i64 p,.int .i64 r,.int .i64 g,.int .i64 s,.int .i64 t] 142);have C:=World.alloc_heap_new w (.cells #[.int .i64 p,.int .i64 r,.int .i64 g,.int .i64 s,.int .i64 t] 142)
 go_enter func84,ntmps84
 have fin:=λl (h:Below _ _ l)=>v.trans (h.mono v.size);cases A
 ·go_wp2_with (first
   |(go_at_call 136;refine(y _).mono ?_;rintro e l ⟨rfl,d⟩))
  go_ret
  exact⟨rfl,DE .i64,fin _ d⟩
 by_cases H:a<0
 ·go_wp2_with (first
   |(go_at_call 136;refine(y _).mono ?_;rintro e l ⟨rfl,d⟩))
  go_ret
  have z:(bif bif bif !Z then Z else J (a<0)then Z else J (c<0)then 0 else k (i (f a)) (wrap64 (g-c)))=0:=by simp[H]
  rw[z];exact⟨rfl,DE .i64,fin _ d⟩
 by_cases K:c<0
 ·go_wp2_with (first
   |(go_at_call 136;refine(y _).mono ?_;rintro e l ⟨rfl,d⟩))
  go_ret
  have z:(bif bif bif !Z then Z else J (a<0)then Z else J (c<0)then 0 else k (i (f a)) (wrap64 (g-c)))=0:=by simp[K]
  rw[z];exact⟨rfl,DE .i64,fin _ d⟩
 have u:(bif bif bif !Z then Z else J (a<0)then Z else J (c<0)then 0 else k (i (f a)) (wrap64 (g-c)))=k (i (f a)) (wrap64 (g-c)):=by simp[H,K]
 rw[u]
 go_wp2_with (first
   |(go_at_call 136;refine(y _).mono ?_;rintro e l ⟨rfl,d⟩
     have n:=(d.block _ (by simp)).trans C;have T:=cn n 0;have k1:=cn n 1;have k2:=cn n 2;have k3:=cn n 3;have k4:=cn n 4;simp at T k1 k2 k3 k4))
 have D:=λo=>(fin _ d).alloc (fin _ d).size o;have lt:=(uaf.1 n).1;refine wp_loop_rounds 3 ?_;rw[rounds_succ]
 go_wp2_with (first
  |(go_at_call 137;refine(N _).mono ?_;rintro e w2 ⟨rfl,n2,m⟩
    have M:=(m.block l.heap.size (by simp)).trans (World.alloc_heap_new l _);have L:=(m.block w.heap.size (by simp;omega)).trans ((udc l _ _ lt).trans n);have R:=cn M 0;have S:=cn M 1;simp at R S))
 rw[rounds_succ]
 go_wp2_with (first
  |(go_at_call 138;refine(P _ n2).mono ?_;rintro e w3 ⟨rfl,n3,x⟩
    have x3:=(x.block _ (uaf.1 L).1).trans L;have Q:=cn x3 2;simp at Q))
 rw[rounds_succ]
 go_wp2_with (first
  |(go_at_call 139;refine(O _ _ n3 (World.alloc_heap_new _ _)).mono ?_;rintro e w4 ⟨rfl,n4,B⟩))
 go_ret
 have E:=(D _).trans (m.mono (D _).size);have F:=E.trans (x.mono E.size);have G:=λo=>F.alloc F.size o;exact⟨rfl,n4,(G _).trans (B.mono (G _).size)⟩
def Zt:ag prog 84 A9:=by
 refine⟨enters_of func84 (by kernel_rfl) rfl,λw F xs vs hbd hr _=>?_⟩;obtain⟨c,loss,used,_⟩:=xs;obtain⟨v,vs',rfl,hv,hn⟩:=hr;obtain⟨rfl,hl,hu⟩:vs'=[.int .i64 loss,.int .i64 used]/\Go.Ab.inR IntKind.i64 loss/\Go.Ab.inR IntKind.i64 used:=by
  obtain⟨v1,vs1,rfl,h1,v2,vs2,rfl,h2,h3⟩:=hn;cases h3;obtain⟨e1,r1⟩:=rB (w:=w) (F:=F) (y:=(loss,())) ⟨v1,[],rfl,h1,rfl⟩;obtain⟨e2,r2⟩:=rB (w:=w) (F:=F) (y:=(used,())) ⟨v2,[],rfl,h2,rfl⟩;cases e1;cases e2;exact⟨rfl,r1,r2⟩
 obtain rfl:=qpq hv;have hv:bJ w F ar c (tL c):=hv;have hz:∀ b,(λ_:Nat=>False) b->b<0:=λ_ h=>h.elim;have cv:∀ W:World,bJ W (λ_=>False) ar c (tL c):=λW=>hv;have nn:∀ (W:World) (n:Int),Go.Ab.inR IntKind.i64 n->bJ W (λ_=>False) i64 n (.int .i64 n):=λW n hn=>⟨rfl,⟨λh=>(by cases h),λh=>(by obtain⟨_,h⟩:=h;cases h)⟩,rfl,hn⟩;have hR:=λW:World=>JE (w:=W) (F:=λ_=>False) (xs:=(c,())) (vs:=[tL c]) AX (λ_ h=>h.elim) ⟨_,_,rfl,cv W,rfl⟩ trivial;have hC:=λW:World=>Nw (w:=W) (F:=λ_=>False) (xs:=(c,loss,())) (vs:=[tL c,.int .i64 loss]) qmx (λ_ h=>h.elim) ⟨_,_,rfl,cv W,_,_,rfl,nn W loss hl,rfl⟩ trivial;have hS:=λ(W:World) (n:Int) (hn:Go.Ab.inR IntKind.i64 n)=>Nw (w:=W) (F:=λ_=>False) (xs:=(c,n,())) (vs:=[tL c,.int .i64 n]) qmy (λ_ h=>h.elim) ⟨_,_,rfl,cv W,_,_,rfl,nn W n hn,rfl⟩ trivial;have hL:=λ(W:World) (b:Nat) (n:Int) (hn:Go.Ab.inR IntKind.i64 n) (m:Int) (hm:Go.Ab.inR IntKind.i64 m) (hb:W.heap[b]?= some (.cells #[.int .i64 m] 3 (0,0)))=>
  Nw (w:=W) (F:=λq=>q=b) (xs:=(n,[m],())) (vs:=[.int .i64 n,.slice (some ⟨b,0,none⟩) 1 1]) SQ (λq h=>by rw[h];exact(uaf.1 hb).1)
   ⟨_,_,rfl,⟨rfl,⟨λh=>(by cases h),λh=>(by obtain⟨_,h⟩:=h;cases h)⟩,rfl,hn⟩,_,_,rfl,⟨rfl,⟨λh=>(by cases h),λh=>(by obtain⟨_,h⟩:=h;cases h)⟩,some ⟨b,0,none⟩,1,rfl,ufd _,(by decide),λi x hx=>⟨⟨b,0,none⟩,rfl,rfl,(by
    cases i with
    |zero=>
     cases hx;exact⟨cn hb 0,hm⟩
    |succ i=>cases hx)⟩⟩,rfl⟩ trivial
 refine(zjf c.1 c.2.1 c.2.2.1 c.2.2.2.1 c.2.2.2.2.1 loss used (kZ.f (c,())).1 (λn=>(AI.f (c,n,())).1) (λn=>(AJ.f (c,n,())).1) (λn m=>(nQ.f (n,[m],())).1)
  hR hC (λW h=>hS W _ h) (λW b h hb=>hL W b _ h _ (by rw[qd3];exact iQ _ _) hb) w).mono ?_
 rintro e w' ⟨rfl,hin,hbel⟩;have he:(A9.f (c,loss,used,())).1=(bif bif bif !(kZ.f (c,())).1 then true else decide (loss<0)then true else decide (used<0)then 0 else (nQ.f ((AJ.f (c,(AI.f (c,loss,())).1,())).1,[wrap64 (c.2.2.1-used)],())).1):=by
  rw[qd3];rfl
 exact⟨_,F,rfl,hbel,λ_ h=>h,λb hb=>⟨.inl hb,ucb (hbd b hb) hbel.size⟩,rfl,⟨λh=>(by cases h),λh=>(by obtain⟨_,h⟩:=h;cases h)⟩,ufy (λn=>some (Value.int IntKind.i64 n)) he.symm,he ▸ hin⟩
def KU:List (FuncId×Ct):=[(134,tA),(132,px),(84,A9)]
def T8:kj prog KU:=⟨qmr,qms,Zt,uT⟩
def QN:Cx:=dI KU [] (i6 (cx KU []).Γ 133 (rO 272 aA))
def Ai:CxOK prog QN:=dP aH T8 trivial (jg (aQ (ps:=[]) aH T8 trivial).ct zn9)
abbrev yW:Pt:=⟨123,2,⟨[(35,.d i64),(34,.d i64),(33,.d (.sl ba)),(8,.d i64),(27,.d i64),(26,.d i64),(25,.d (.sl aq)),(1,.d (.sl aq))],[.x 2 142 ar,.r 2 2 0,.o 7 272 aA]⟩,⟨[(27,.d i64),(26,.d i64),(25,.d (.sl aq)),(1,.d (.sl aq))],[.x 2 142 ar,.r 2 2 0,.o 7 272 aA]⟩,⟨[],[]⟩⟩
def zI(k:Int×(List ba.q)×Int×Int×Int×(List aq.q)×(List aq.q)×ar.q)(b:Prop)(i:Int)(e:ba.q)(s:(List aA.q)):Fr ((List aA.q)):=
 let a:=(k.2.2.1,e,());Jd b (Jd (s.length + [a].length<=maxLen/\(s.length + [a].length)*32<=140737488355328) (Jv (s++[a])))
def WM:Code:=((Go.Ab.loopB (au f82 0) 0).getD .skip)
def R6:yW.M.X->Fr yW.Out:=FG (λx=>(x.1.1,(x.1.2.1,x.1.2.2.1,x.1.2.2.2.1,x.1.2.2.2.2.1,x.1.2.2.2.2.2.1,x.1.2.2.2.2.2.2.1,x.1.2.2.2.2.2.2.2.1,x.2.1),x.2.2.1)) (λk=>k.1) (λk=>k.2.1) zI (λk s=>((k.2.2.2.1,k.2.2.2.2.1,k.2.2.2.2.2.1,k.2.2.2.2.2.2.1,()),(k.2.2.2.2.2.2.2,s,())))
def ze8:af prog (.loop WM) yW.M yW R6:=
 cX Ai (λi k s=>((i,k.1,k.2.1,k.2.2.1,k.2.2.2.1,k.2.2.2.2.1,k.2.2.2.2.2.1,k.2.2.2.2.2.2.1,()),k.2.2.2.2.2.2.2,s,())) ba.j
def zs2(a:Gm):St->Option Tr:=yW.han a yW.M R6
abbrev Hn:Pt:=⟨123,4,⟨[(57,.d i64),(56,.d i64),(14,.d i64)],[.x 2 142 ar,.r 2 2 0,.o 55 272 aA,.o 12 3 i64,.o 13 3 i64,.o 15 198 db]⟩,⟨[],[.o 15 198 db]⟩,⟨[],[]⟩⟩
def Dr(k:Int×ar.q×(List aA.q))(b:Prop)(i:Int)(e:aA.q)(s:Int×(List Int)×(List Int)×(List db.q)):Fr (Int×(List Int)×(List Int)×(List db.q)):=
 let n:=(s.2.1.length:Int);let m:=s.2.2.2;let h:=s.2.2.1;let l:=(h.length:Int);let d:=Int.toNat e.1;let c:=I6.wrap (s.2.1.getD d i64.j+e.2.1.2.2.1);let o:=s.2.1.set d c;let a:=(A9.f (k.2.1,o.getD d i64.j,I6.wrap (s.1-h.getD d i64.j),())).1-h.getD d i64.j;let g:=(e.1,e.2.1.1,I6.wrap a,());Jd b (Jd (Int.toNat i<k.2.2.length) (Jb (e.2.1.2.1 != 2) (Jv (s.1,s.2.1,h,m)) (Jd (0<=e.1/\e.1<n) (Jd (Int.toNat e.1<s.2.1.length) (Jd (0<=e.1/\e.1<n) (Jd (Int.toNat e.1<s.2.1.length) (Jd (0<=e.1/\e.1<(o.length:Int)) (Jd (Int.toNat e.1<o.length) (Jd (0<=e.1/\e.1<l) (Jd (Int.toNat e.1<h.length) (Jd (0<=e.1/\e.1<l) (Jd (Int.toNat e.1<h.length) (Jb (J (I6.wrap a<=0)) (Jv (s.1,s.2.1.set d c,h,m)) (Jd (0<=e.1/\e.1<l) (Jd (Int.toNat e.1<h.length) (Jd (0<=e.1/\e.1<l) (Jd (Int.toNat e.1<h.length) (Jd (m.length + [g].length<=maxLen/\(m.length + [g].length)*24<=140737488355328) (Jv (I6.wrap (s.1+I6.wrap a),s.2.1.set d c,h.set d (I6.wrap (h.getD d i64.j+I6.wrap a)),m++[g]))))))))))))))))))))
def qjq:Hn.M.X->Fr Hn.Out:=FG (λx=>(x.1.1,(x.1.2.1,x.2.1,x.2.2.1),(x.1.2.2.1,x.2.2.2.1,x.2.2.2.2.1,x.2.2.2.2.2.1))) (λk=>k.1) (λk=>k.2.2) Dr (λk s=>((),s.2.2.2,()))
def zfa:af prog (.loop (au f82 1)) Hn.M Hn qjq:=
 cX Ai (λi k s=>((i,k.1,s.1,()),k.2.1,k.2.2,s.2.1,s.2.2.1,s.2.2.2,())) aA.j
def MW:=λk s=>bw (Dr k True) 0 k.2.2 s
def YJ:=λk s=>bY (Dr k True) 0 k.2.2 s
end Go.Proofs.YtdokapnnagbehaaGreat
