/-
  Parts of the proof, one behind the other.
-/
import Derived.Test.YtdokapnnagbehaaGreatMh
set_option linter.all false
set_option maxRecDepth 100000
set_option maxHeartbeats 4000000
open Option renaming some->U,none->V
open Bool renaming true->Z,false->Y
open Decidable renaming decide->J
open Go Go.RowKit
variable {T α σ ρ β:Type} {P:Program} {ad:Addr} {arr cs cur:Array Value} {f:FuncId} {x a y day:Int} {k:IntKind} {l:List Int} {xs vs news:List Value} {off i n b c d j B m len:Nat} {F F' K:Nat->Prop} {R g R':Nat->Value->Prop} {o:Oper} {p:Prop} {e ety t ty el:TypeId} {v u vx:Value} {w w' W' W:World}
namespace Go.Proofs.YtdokapnnagbehaaGreat
open Go Go.Ab Go.RowKit Go.Proofs Tryz
open Go.Ab.Fr renaming val->Jv,need->Jd,br->Jb
def cE(i j:Int):Int:=I6.wrap ((IntKind.u64.wrap (I6.wrap (i+j))).fdiv (2 ^ min (Int.toNat 1) IntKind.u64.bits))
def zn2(h:i+j<=9223372036854775807):cE (i:Int) j=((i+j)/2:Nat):=qna h
abbrev eS(e:TypeId)(T:Ty):Pt:=⟨220,0,⟨[(1,.d i64),(4,(aV T)),(10,.d i64),(11,.d i64)],[.al 10000 0,.o 0 e T]⟩,⟨[(1,.d i64),(10,.d i64)],[.al 10000 0,.o 0 e T]⟩,⟨[],[]⟩⟩
def xO(e:TypeId)(T:Ty)(x:(eS e T).M.X):Fr (eS e T).Out:=
 let c:=x.1.1;let g:=x.1.2.1;let i:=x.1.2.2.1;let j:=x.1.2.2.2.1;let l:=x.2.1
 Jb (J (i<j))
  (Jd (¬(1:Int)<0)
   (Jd (0<=cE i j/\cE i j<(l.length:Int))
    (Jd ((cE i j).toNat<l.length)
     (Jd (0<=c/\c<(l.length:Int))
      (Jd ((c).toNat<l.length)
       (Jd (g.2 (l.getD (cE i j).toNat T.dflt,l.getD c.toNat T.dflt,()))
        (Jb (J ((g.1 (l.getD (cE i j).toNat T.dflt,l.getD c.toNat T.dflt,())).1<0))
         (Jv (Rd.next ((c,(g.1,g.2),I6.wrap (cE i j+1),j,()),(l,()))))
         (Jv (Rd.next ((c,(g.1,g.2),i,cE i j,()),(l,())))))))))))
  (Jv (Rd.out ((c,i,()),(l,()))))
structure InvS0 {T:Ty} (c i j:Int) (g:(aV T).den) (l:List T.den):Prop where
 c0:0<=c
 cl:c<l.length
 i0:0<=i
 ij:i<=j
 jl:j<=l.length
 big:(l.length:Int)<=4611686018427387903
 dom:jv g l
def sK(e:TypeId)(T:Ty)(x:(eS e T).M.X):Fr (eS e T).Out:=
 let c:=x.1.1;let g:=x.1.2.1;let i:=x.1.2.2.1;let j:=x.1.2.2.2.1;let l:=x.2.1
 Jd (InvS0 c i j g l) (Jv (Rd.out ((c,(cp (λh=>aM g (l.getD h T.dflt) (l.getD c.toNat T.dflt)) (j.toNat-i.toNat) i.toNat j.toNat:Nat),()),(l,()))))
def qp1 {T:Ty} (c i j:Int) (g:(aV T).den) (l:List T.den) (q:InvS0 c i j g l) (Q:(eS e T).Out->Prop)
  (d:Q (Rd.out ((c,(cp (λh=>aM g (l.getD h T.dflt) (l.getD c.toNat T.dflt)) (j.toNat-i.toNat) i.toNat j.toNat:Nat),()),(l,())))):((xO e T) ((c,g,i,j,()),(l,()))).satP λ
   |.next f=>InvS0 f.1.1 f.1.2.2.1 f.1.2.2.2.1 f.1.2.1 f.2.1/\(f.1.2.2.2.1-f.1.2.2.1).toNat<(j-i).toNat/\((sK e T) f).satP Q
   |.out y=>Q (.out y)
   |.back z=>Q (.back z)
   |.pan p=>Q (.pan p):=by
 obtain⟨w,x,E,F,G,A,t⟩:=q;obtain⟨a,rfl⟩:∃ n:Nat,i=n:=⟨i.toNat,by omega⟩;obtain⟨b,rfl⟩:∃ n:Nat,j=n:=⟨j.toNat,by omega⟩;obtain⟨m,rfl⟩:∃ n:Nat,c=n:=⟨c.toNat,by omega⟩;have C:cE (a:Int) b=((a+b)/2:Nat):=zn2 (by omega);have D:I6.wrap ((((a+b)/2:Nat):Int)+1)=((a+b)/2+1:Nat):=zv (by omega);dsimp only[xO,Fr.satP,PT.den];rw[C,D];simp only[uc0]at d |-;refine⟨λhi=>?_,λhi=>?_⟩;have u:a<b:=by have:(a:Int)<b:=ucx hi;omega
 rw[FP u]at d;have v:(a+b)/2<l.length:=by omega
 have s:m<l.length:=by omega
 refine⟨by omega,⟨by omega,by omega⟩,by omega,⟨by omega,by omega⟩,by omega,t _ (fo v) _ (fo s),λr=>?_,λr=>?_⟩;have k:(aM g (l.getD ((a+b)/2) T.dflt) (l.getD m T.dflt))=true:=r;rw[k]at d;have o:InvS0 (m:Int) ((a+b)/2+1:Nat) b g l:=⟨w,x,by omega,by omega,by omega,A,t⟩;exact⟨o,by omega,o,d⟩;have k:(aM g (l.getD ((a+b)/2) T.dflt) (l.getD m T.dflt))=false:=r;rw[k]at d;have o:InvS0 (m:Int) a ((a+b)/2:Nat) g l:=⟨w,x,by omega,by omega,by omega,A,t⟩;exact⟨o,by omega,o,d⟩;have B:¬ a<b:=by have:¬ (a:Int)<b:=uch hi;omega
 rw[show b-a=0 by omega]at d;exact d
def S9{T:Ty}{c:Code}(b:ae P c (eS e T).M (eS e T) (xO e T)):ae P (.loop c) (eS e T).M (eS e T) (sK e T):=by
 refine ae.loop b (μ:=λx=>(x.1.2.2.2.1-x.1.2.2.1).toNat) ?_ (λx Q h=>h.1);rintro⟨⟨c,g,i,j,_⟩,⟨l,_⟩⟩ a Q d;exact qp1 c i j g l a Q d.2
abbrev eU(e:TypeId)(T:Ty):Pt:=⟨220,4,⟨[(2,.d i64),(4,(aV T)),(14,.d i64),(15,.d i64)],[.al 10000 0,.o 0 e T]⟩,⟨[(2,.d i64),(14,.d i64)],[.al 10000 0,.o 0 e T]⟩,⟨[],[]⟩⟩
def xQ(e:TypeId)(T:Ty)(x:(eU e T).M.X):Fr (eU e T).Out:=
 let c:=x.1.1;let g:=x.1.2.1;let i:=x.1.2.2.1;let j:=x.1.2.2.2.1;let l:=x.2.1
 Jb (J (i<j))
  (Jd (¬(1:Int)<0)
   (Jd (0<=c/\c<(l.length:Int))
    (Jd ((c).toNat<l.length)
     (Jd (0<=cE i j/\cE i j<(l.length:Int))
      (Jd ((cE i j).toNat<l.length)
       (Jd (g.2 (l.getD c.toNat T.dflt,l.getD (cE i j).toNat T.dflt,()))
        (Jb (!J ((g.1 (l.getD c.toNat T.dflt,l.getD (cE i j).toNat T.dflt,())).1<0))
         (Jv (Rd.next ((c,(g.1,g.2),I6.wrap (cE i j+1),j,()),(l,()))))
         (Jv (Rd.next ((c,(g.1,g.2),i,cE i j,()),(l,())))))))))))
  (Jv (Rd.out ((c,i,()),(l,()))))
structure InvS2 {T:Ty} (c i j:Int) (g:(aV T).den) (l:List T.den):Prop where
 c0:0<=c
 cl:c<l.length
 i0:0<=i
 ij:i<=j
 jl:j<=l.length
 big:(l.length:Int)<=4611686018427387903
 dom:jv g l
def sM(e:TypeId)(T:Ty)(x:(eU e T).M.X):Fr (eU e T).Out:=
 let c:=x.1.1;let g:=x.1.2.1;let i:=x.1.2.2.1;let j:=x.1.2.2.2.1;let l:=x.2.1
 Jd (InvS2 c i j g l) (Jv (Rd.out ((c,(cp (λh=>!aM g (l.getD c.toNat T.dflt) (l.getD h T.dflt)) (j.toNat-i.toNat) i.toNat j.toNat:Nat),()),(l,()))))
def qp3 {T:Ty} (c i j:Int) (g:(aV T).den) (l:List T.den) (q:InvS2 c i j g l) (Q:(eU e T).Out->Prop)
  (d:Q (Rd.out ((c,(cp (λh=>!aM g (l.getD c.toNat T.dflt) (l.getD h T.dflt)) (j.toNat-i.toNat) i.toNat j.toNat:Nat),()),(l,())))):((xQ e T) ((c,g,i,j,()),(l,()))).satP λ
   |.next f=>InvS2 f.1.1 f.1.2.2.1 f.1.2.2.2.1 f.1.2.1 f.2.1/\(f.1.2.2.2.1-f.1.2.2.1).toNat<(j-i).toNat/\((sM e T) f).satP Q
   |.out y=>Q (.out y)
   |.back z=>Q (.back z)
   |.pan p=>Q (.pan p):=by
 obtain⟨w,x,E,F,G,A,t⟩:=q;obtain⟨a,rfl⟩:∃ n:Nat,i=n:=⟨i.toNat,by omega⟩;obtain⟨b,rfl⟩:∃ n:Nat,j=n:=⟨j.toNat,by omega⟩;obtain⟨m,rfl⟩:∃ n:Nat,c=n:=⟨c.toNat,by omega⟩;have C:cE (a:Int) b=((a+b)/2:Nat):=zn2 (by omega);have D:I6.wrap ((((a+b)/2:Nat):Int)+1)=((a+b)/2+1:Nat):=zv (by omega);dsimp only[xQ,Fr.satP,PT.den];rw[C,D];simp only[uc0]at d |-;refine⟨λhi=>?_,λhi=>?_⟩;have u:a<b:=by have:(a:Int)<b:=ucx hi;omega
 rw[FP u]at d;have v:(a+b)/2<l.length:=by omega
 have s:m<l.length:=by omega
 refine⟨by omega,⟨by omega,by omega⟩,by omega,⟨by omega,by omega⟩,by omega,t _ (fo s) _ (fo v),λr=>?_,λr=>?_⟩;have k:(!aM g (l.getD m T.dflt) (l.getD ((a+b)/2) T.dflt))=true:=r;rw[k]at d;have o:InvS2 (m:Int) ((a+b)/2+1:Nat) b g l:=⟨w,x,by omega,by omega,by omega,A,t⟩;exact⟨o,by omega,o,d⟩;have k:(!aM g (l.getD m T.dflt) (l.getD ((a+b)/2) T.dflt))=false:=r;rw[k]at d;have o:InvS2 (m:Int) a ((a+b)/2:Nat) g l:=⟨w,x,by omega,by omega,by omega,A,t⟩;exact⟨o,by omega,o,d⟩;have B:¬ a<b:=by have:¬ (a:Int)<b:=uch hi;omega
 rw[show b-a=0 by omega]at d;exact d
def SB{T:Ty}{c:Code}(b:ae P c (eU e T).M (eU e T) (xQ e T)):ae P (.loop c) (eU e T).M (eU e T) (sM e T):=by
 refine ae.loop b (μ:=λx=>(x.1.2.2.2.1-x.1.2.2.1).toNat) ?_ (λx Q h=>h.1);rintro⟨⟨c,g,i,j,_⟩,⟨l,_⟩⟩ a Q d;exact qp3 c i j g l a Q d.2
abbrev eW(e:TypeId)(T:Ty):Pt:=⟨220,8,⟨[(1,.d i64),(2,.d i64),(3,.d i64),(4,(aV T)),(18,.d i64),(19,.d i64),(20,.d i64),(21,.d i64),(22,.d i64)],[.al 10000 0,.o 0 e T]⟩,⟨[(1,.d i64),(2,.d i64),(3,.d i64),(4,(aV T)),(18,.d i64),(19,.d i64),(20,.d i64)],[.al 10000 0,.o 0 e T]⟩,⟨[],[]⟩⟩
def xS(e:TypeId)(T:Ty)(x:(eW e T).M.X):Fr (eW e T).Out:=
 let a:=x.1.1;let m:=x.1.2.1;let b:=x.1.2.2.1;let g:=x.1.2.2.2.1;let aX:=x.1.2.2.2.2.1;let n:=x.1.2.2.2.2.2.1;let i:=x.1.2.2.2.2.2.2.1;let j:=x.1.2.2.2.2.2.2.2.1;let p:=x.1.2.2.2.2.2.2.2.2.1;let l:=x.2.1
 Jb (J (i<j))
  (Jd (¬(1:Int)<0)
   (Jd (0<=I6.wrap (p-cE i j)/\I6.wrap (p-cE i j)<(l.length:Int))
    (Jd ((I6.wrap (p-cE i j)).toNat<l.length)
     (Jd (0<=cE i j/\cE i j<(l.length:Int))
      (Jd ((cE i j).toNat<l.length)
       (Jd (g.2 (l.getD (I6.wrap (p-cE i j)).toNat T.dflt,l.getD (cE i j).toNat T.dflt,()))
        (Jb (!J ((g.1 (l.getD (I6.wrap (p-cE i j)).toNat T.dflt,l.getD (cE i j).toNat T.dflt,())).1<0))
         (Jv (Rd.next ((a,m,b,(g.1,g.2),aX,n,I6.wrap (cE i j+1),j,p,()),(l,()))))
         (Jv (Rd.next ((a,m,b,(g.1,g.2),aX,n,i,cE i j,p,()),(l,())))))))))))
  (Jv (Rd.out ((a,m,b,(g.1,g.2),aX,n,i,()),(l,()))))
structure InvS4 {T:Ty} (p i j:Int) (g:(aV T).den) (l:List T.den):Prop where
 p0:0<=p
 pl:p<i+l.length
 pj:j<=p+1
 i0:0<=i
 ij:i<=j
 jl:j<=l.length
 big:(l.length:Int)<=4611686018427387903
 dom:jv g l
def sO(e:TypeId)(T:Ty)(x:(eW e T).M.X):Fr (eW e T).Out:=
 let a:=x.1.1;let m:=x.1.2.1;let b:=x.1.2.2.1;let g:=x.1.2.2.2.1;let aX:=x.1.2.2.2.2.1;let n:=x.1.2.2.2.2.2.1;let i:=x.1.2.2.2.2.2.2.1;let j:=x.1.2.2.2.2.2.2.2.1;let p:=x.1.2.2.2.2.2.2.2.2.1;let l:=x.2.1
 Jd (InvS4 p i j g l) (Jv (Rd.out ((a,m,b,g,aX,n,(cp (λh=>!aM g (l.getD (p.toNat-h) T.dflt) (l.getD h T.dflt)) (j.toNat-i.toNat) i.toNat j.toNat:Nat),()),(l,()))))
def qp5 {T:Ty} (a m b aX n p i j:Int) (g:(aV T).den) (l:List T.den) (s:InvS4 p i j g l) (Q:(eW e T).Out->Prop)
  (f:Q (Rd.out ((a,m,b,g,aX,n,(cp (λh=>!aM g (l.getD (p.toNat-h) T.dflt) (l.getD h T.dflt)) (j.toNat-i.toNat) i.toNat j.toNat:Nat),()),(l,())))):((xS e T) ((a,m,b,g,aX,n,i,j,p,()),(l,()))).satP λ
   |.next k=>InvS4 k.1.2.2.2.2.2.2.2.2.1 k.1.2.2.2.2.2.2.1 k.1.2.2.2.2.2.2.2.1 k.1.2.2.2.1 k.2.1/\(k.1.2.2.2.2.2.2.2.1-k.1.2.2.2.2.2.2.1).toNat<(j-i).toNat/\((sO e T) k).satP Q
   |.out y=>Q (.out y)
   |.back z=>Q (.back z)
   |.pan p=>Q (.pan p):=by
 obtain⟨fF,F,G,H,K,L,A,w⟩:=s;obtain⟨c,rfl⟩:∃ n:Nat,i=n:=⟨i.toNat,by omega⟩;obtain⟨d,rfl⟩:∃ n:Nat,j=n:=⟨j.toNat,by omega⟩;obtain⟨q,rfl⟩:∃ n:Nat,p=n:=⟨p.toNat,by omega⟩;have C:cE (c:Int) d=((c+d)/2:Nat):=zn2 (by omega);have E:I6.wrap ((((c+d)/2:Nat):Int)+1)=((c+d)/2+1:Nat):=zv (by omega);dsimp only[xS,Fr.satP,PT.den];rw[C,E];have D:(c<d)->I6.wrap ((q:Int)-(((c+d)/2:Nat):Int))=(q-(c+d)/2:Nat):=λh=>zu (by omega) (by omega);simp only[uc0]at f |-;refine⟨λhi=>?_,λhi=>?_⟩;have t:c<d:=by have:(c:Int)<d:=ucx hi;omega
 rw[FP t]at f;rw[D t];have x:q-(c+d)/2<l.length:=by omega
 have v:(c+d)/2<l.length:=by omega
 refine⟨by omega,⟨by omega,by omega⟩,by omega,⟨by omega,by omega⟩,by omega,w _ (fo x) _ (fo v),λu=>?_,λu=>?_⟩;have o:(!aM g (l.getD (q-(c+d)/2) T.dflt) (l.getD ((c+d)/2) T.dflt))=true:=u;rw[o]at f;have r:InvS4 (q:Int) ((c+d)/2+1:Nat) d g l:=⟨fF,by omega,by omega,by omega,by omega,by omega,A,w⟩;exact⟨r,by omega,r,f⟩;have o:(!aM g (l.getD (q-(c+d)/2) T.dflt) (l.getD ((c+d)/2) T.dflt))=false:=u;rw[o]at f;have r:InvS4 (q:Int) c ((c+d)/2:Nat) g l:=⟨fF,by omega,by omega,by omega,by omega,by omega,A,w⟩;exact⟨r,by omega,r,f⟩;have B:¬ c<d:=by have:¬ (c:Int)<d:=uch hi;omega
 rw[show d-c=0 by omega]at f;exact f
def SD{T:Ty}{c:Code}(f:ae P c (eW e T).M (eW e T) (xS e T)):ae P (.loop c) (eW e T).M (eW e T) (sO e T):=by
 refine ae.loop f (μ:=λx=>(x.1.2.2.2.2.2.2.2.1-x.1.2.2.2.2.2.2.1).toNat) ?_ (λx Q h=>h.1);rintro⟨⟨a,m,b,g,aX,n,i,j,p,_⟩,⟨l,_⟩⟩ d Q k;exact qp5 a m b aX n p i j g l d Q k.2
abbrev eT(e:TypeId)(T:Ty):Pt:=⟨220,2,⟨[(10,.d i64),(13,.d i64)],[.al 10000 0,.o 0 e T]⟩,⟨[],[.al 10000 0,.o 0 e T]⟩,⟨[],[]⟩⟩
def xP(e:TypeId)(T:Ty)(x:(eT e T).M.X):Fr (eT e T).Out:=
 let i:=x.1.1;let k:=x.1.2.1;let l:=x.2.1
 Jb (J (k<I6.wrap (i-1)))
  (Jd (0<=I6.wrap (k+1)/\I6.wrap (k+1)<(l.length:Int))
   (Jd ((I6.wrap (k+1)).toNat<l.length)
    (Jd (0<=k/\k<(l.length:Int))
     (Jd (k.toNat<l.length)
      (Jd (0<=k/\k<(l.length:Int))
       (Jd (k.toNat<l.length)
        (Jd (0<=I6.wrap (k+1)/\I6.wrap (k+1)<((l.set k.toNat (l.getD (I6.wrap (k+1)).toNat T.dflt)).length:Int))
         (Jd ((I6.wrap (k+1)).toNat<(l.set k.toNat (l.getD (I6.wrap (k+1)).toNat T.dflt)).length)
          (Jv (Rd.next ((i,I6.wrap (k+1),()),((l.set k.toNat (l.getD (I6.wrap (k+1)).toNat T.dflt)).set (I6.wrap (k+1)).toNat (l.getD k.toNat T.dflt),()))))))))))))
  (Jv (Rd.out ((),(l,()))))
structure InvS1 {T:Ty} (i k:Int) (l:List T.den):Prop where
 k0:0<=k
 i0:0<=i
 il:i<=l.length
 big:(l.length:Int)<=4611686018427387903
def sL(e:TypeId)(T:Ty)(x:(eT e T).M.X):Fr (eT e T).Out:=
 let i:=x.1.1;let k:=x.1.2.1;let l:=x.2.1
 Jd (InvS1 i k l) (Jv (Rd.out ((),(nG T.dflt (i-1-k).toNat k.toNat l,()))))
def qp2 {T:Ty} (i k:Int) (l:List T.den) (c:InvS1 i k l) (Q:(eT e T).Out->Prop) (a:Q (Rd.out ((),(nG T.dflt (i-1-k).toNat k.toNat l,())))):((xP e T) ((i,k,()),(l,()))).satP λ
   |.next b=>InvS1 b.1.1 b.1.2.1 b.2.1/\(b.1.1-1-b.1.2.1).toNat<(i-1-k).toNat/\((sL e T) b).satP Q
   |.out y=>Q (.out y)
   |.back z=>Q (.back z)
   |.pan p=>Q (.pan p):=by
 obtain⟨n,o,q,r⟩:=c;have j:I6.wrap (i-1)=i-1:=IntWalk.i64_in _ (by omega);dsimp only[xP,Fr.satP,Ty.den,PT.den];rw[j];simp only[udo];refine⟨λd=>?_,λd=>?_⟩;have h:=ucx d;have m:I6.wrap (k+1)=k+1:=IntWalk.i64_in _ (by omega);rw[m];have f:InvS1 i (k+1) (fx l T.dflt k.toNat (k+1).toNat):=⟨by omega,by omega,by rw[ka];omega,by rw[ka];omega⟩;refine⟨⟨by omega,by omega⟩,by omega,⟨by omega,by omega⟩,by omega,⟨by omega,by omega⟩,by omega,⟨by omega,by omega⟩,by omega,f,by omega,f,?_⟩;rw[show(i-1-k).toNat=(i-1-(k+1)).toNat+1 by omega]at a;simp only[nG]at a;rw[show k.toNat+1=(k+1).toNat by omega]at a;exact a;have g:=uch d;rw[show(i-1-k).toNat=0 by omega]at a;exact a
def SA{T:Ty}{c:Code}(b:ae P c (eT e T).M (eT e T) (xP e T)):ae P (.loop c) (eT e T).M (eT e T) (sL e T):=by
 refine ae.loop b (μ:=λx=>(x.1.1-1-x.1.2.1).toNat) ?_ (λx Q h=>h.1);rintro⟨⟨i,k,_⟩,⟨l,_⟩⟩ a Q d;exact qp2 i k l a Q d.2
abbrev eV(e:TypeId)(T:Ty):Pt:=⟨220,6,⟨[(14,.d i64),(17,.d i64)],[.al 10000 0,.o 0 e T]⟩,⟨[],[.al 10000 0,.o 0 e T]⟩,⟨[],[]⟩⟩
def xR(e:TypeId)(T:Ty)(x:(eV e T).M.X):Fr (eV e T).Out:=
 let i:=x.1.1;let k:=x.1.2.1;let l:=x.2.1
 Jb (J (k>i))
  (Jd (0<=I6.wrap (k-1)/\I6.wrap (k-1)<(l.length:Int))
   (Jd ((I6.wrap (k-1)).toNat<l.length)
    (Jd (0<=k/\k<(l.length:Int))
     (Jd (k.toNat<l.length)
      (Jd (0<=k/\k<(l.length:Int))
       (Jd (k.toNat<l.length)
        (Jd (0<=I6.wrap (k-1)/\I6.wrap (k-1)<((l.set k.toNat (l.getD (I6.wrap (k-1)).toNat T.dflt)).length:Int))
         (Jd ((I6.wrap (k-1)).toNat<(l.set k.toNat (l.getD (I6.wrap (k-1)).toNat T.dflt)).length)
          (Jv (Rd.next ((i,I6.wrap (k-1),()),((l.set k.toNat (l.getD (I6.wrap (k-1)).toNat T.dflt)).set (I6.wrap (k-1)).toNat (l.getD k.toNat T.dflt),()))))))))))))
  (Jv (Rd.out ((),(l,()))))
structure InvS3 {T:Ty} (i k:Int) (l:List T.den):Prop where
 i0:0<=i
 ik:i<=k
 kl:k<l.length
 big:(l.length:Int)<=4611686018427387903
def sN(e:TypeId)(T:Ty)(x:(eV e T).M.X):Fr (eV e T).Out:=
 let i:=x.1.1;let k:=x.1.2.1;let l:=x.2.1
 Jd (InvS3 i k l) (Jv (Rd.out ((),(mM T.dflt (k-i).toNat k.toNat l,()))))
def qp4 {T:Ty} (i k:Int) (l:List T.den) (c:InvS3 i k l) (Q:(eV e T).Out->Prop) (a:Q (Rd.out ((),(mM T.dflt (k-i).toNat k.toNat l,())))):((xR e T) ((i,k,()),(l,()))).satP λ
   |.next b=>InvS3 b.1.1 b.1.2.1 b.2.1/\(b.1.2.1-b.1.1).toNat<(k-i).toNat/\((sN e T) b).satP Q
   |.out y=>Q (.out y)
   |.back z=>Q (.back z)
   |.pan p=>Q (.pan p):=by
 obtain⟨m,n,o,q⟩:=c;have j:I6.wrap (k-1)=k-1:=IntWalk.i64_in _ (by omega);dsimp only[xR,Fr.satP,Ty.den,PT.den];rw[j];simp only[udo];refine⟨λd=>?_,λd=>?_⟩;have h:=ucx d;have f:InvS3 i (k-1) (fx l T.dflt k.toNat (k-1).toNat):=⟨by omega,by omega,by rw[ka];omega,by rw[ka];omega⟩;refine⟨⟨by omega,by omega⟩,by omega,⟨by omega,by omega⟩,by omega,⟨by omega,by omega⟩,by omega,⟨by omega,by omega⟩,by omega,f,by omega,f,?_⟩;rw[show(k-i).toNat=(k-1-i).toNat+1 by omega]at a;simp only[mM]at a;rw[show k.toNat-1=(k-1).toNat by omega]at a;exact a;have g:=uch d;rw[show(k-i).toNat=0 by omega]at a;exact a
def SC{T:Ty}{c:Code}(b:ae P c (eV e T).M (eV e T) (xR e T)):ae P (.loop c) (eV e T).M (eV e T) (sN e T):=by
 refine ae.loop b (μ:=λx=>(x.1.2.1-x.1.1).toNat) ?_ (λx Q h=>h.1);rintro⟨⟨i,k,_⟩,⟨l,_⟩⟩ a Q d;exact qp4 i k l a Q d.2
structure SymOk {T:Ty} (n:Nat) (a m b:Int) (g:(aV T).den) (l:List T.den):Prop where
 a0:0<=a
 am:a<m
 mb:m<b
 bl:b<=l.length
 big:(l.length:Int)<=4611686018427387903
 size:b-a<=n
 dom:jv g l
 key:∃ key:T.den->Int,dd (aM g) key l/\bY key (bf a.toNat m.toNat l)/\bY key (bf m.toNat b.toNat l)
noncomputable def iP(e:TypeId)(T:Ty)(n:Nat):Mt:=⟨e,T,[.d i64,.d i64,.d i64,(aV T)],[],λl x=>(bA (aM x.2.2.2.1) x.1.toNat x.2.2.1.toNat l,()),λl x=>[SymOk n x.1 x.2.1 x.2.2.1 x.2.2.2.1 l]⟩
def tg{T:Ty}(c i j:Int)(g:(aV T).den)(l:List T.den):Int:=(cp (λh=>aM g (l.getD h T.dflt) (l.getD c.toNat T.dflt)) (j.toNat-i.toNat) i.toNat j.toNat:Nat)
def FN{T:Ty}(c i j:Int)(g:(aV T).den)(l:List T.den):Int:=(cp (λh=>!aM g (l.getD c.toNat T.dflt) (l.getD h T.dflt)) (j.toNat-i.toNat) i.toNat j.toNat:Nat)
def Ar{T:Ty}(p i j:Int)(g:(aV T).den)(l:List T.den):Int:=(cp (λh=>!aM g (l.getD (p.toNat-h) T.dflt) (l.getD h T.dflt)) (j.toNat-i.toNat) i.toNat j.toNat:Nat)
noncomputable def zz(e:TypeId)(T:Ty)(n:Nat)(aX a b:Int)(g:(aV T).den)(l:List T.den):Fr (List T.den×aa []):=
 Jb (bif J (aX<a)then J (a<b)else Y) (Jd (SymOk n aX a b (g.1,g.2) l) (Jv ((((iP e T) n).f l (aX,a,b,(g.1,g.2),())).1,()))) (Jv (l,()))
noncomputable def zy(e:TypeId)(T:Ty)(n:Nat)(a c aX d b:Int)(g:(aV T).den)(l:List T.den):Fr (List T.den×aa []):=
 Jb (bif J (a<c)then J (c<aX)else Y) (Jd (SymOk n a c aX (g.1,g.2) l) ((zz e T) n aX d b g (((iP e T) n).f l (a,c,aX,(g.1,g.2),())).1)) ((zz e T) n aX d b g l)
noncomputable def Ek(e:TypeId)(T:Ty)(n:Nat)(a m b d aX c:Int)(g:(aV T).den)(l:List T.den):Fr (List T.den×aa []):=
 Jb (bif J (d<m)then J (m<c)else Y)
  (Jd (0<=d) (Jd (d<m) (Jd (m<c) (Jd (c<=(l.length:Int)) (Jd ((l.length:Int)<=4611686018427387903) ((zy e T) n a d aX c b g ((pb e T).f l (d,m,c,(g.1,g.2),())).1))))))
  ((zy e T) n a d aX c b g l)
noncomputable def zx(e:TypeId)(T:Ty)(n:Nat)(a m b aX i j:Int)(g:(aV T).den)(l:List T.den):Fr (List T.den×aa []):=
 let p:=I6.wrap (I6.wrap (aX+m)-1)
 Jd (InvS4 p i j (g.1,g.2) l) ((Ek e T) n a m b (Ar p i j (g.1,g.2) l) aX (I6.wrap (I6.wrap (aX+m)-Ar p i j (g.1,g.2) l)) g l)
noncomputable def qY(e:TypeId)(T:Ty)(n:Nat)(l:List T.den)(x:ag [.d i64,.d i64,.d i64,(aV T)]):Fr (List T.den×aa []):=
 let a:=x.1;let m:=x.2.1;let b:=x.2.2.1;let g:=x.2.2.2.1
 Jb (I6.wrap (m-a)==1)
  (Jd (InvS0 a m b (g.1,g.2) l) (Jd (InvS1 (tg a m b (g.1,g.2) l) a l) (Jv (nG T.dflt (tg a m b (g.1,g.2) l-1-a).toNat a.toNat l,()))))
  (Jb (I6.wrap (b-m)==1)
   (Jd (InvS2 m a m (g.1,g.2) l) (Jd (InvS3 (FN m a m (g.1,g.2) l) m l) (Jv (mM T.dflt (m-FN m a m (g.1,g.2) l).toNat m.toNat l,()))))
   (Jd (¬(1:Int)<0)
    (Jb (J (m>cE a b))
     ((zx e T) n a m b (cE a b) (I6.wrap (I6.wrap (cE a b+m)-b)) (cE a b) g l)
     ((zx e T) n a m b (cE a b) a m g l))))
def As{Q:Nat->Bool}:(f i j:Nat)->i<=j->i<=cp Q f i j/\cp Q f i j<=j
 |0,i,j,h=>⟨ue9 _,h⟩
 |f+1,i,j,h=>by
  simp only[cp];split;cases Q ((i+j)/2)with
  |true=>
   have:=As (Q:=Q) f ((i+j)/2+1) j (by omega);simp;omega
  |false=>
   have:=As (Q:=Q) f i ((i+j)/2) (by omega);simp;omega
  exact⟨ue9 _,h⟩
structure Sym3 {T:Ty} (lt:T.den->T.den->Bool) (key:T.den->Int) (a m b st:Nat) (l:List T.den):Prop where
 s1:a<=st
 s2:st<=m
 s3:st<=(a+b)/2
 s4:(a+b)/2<=b
 e1:m+st<=(a+b)/2+m
 e2:(a+b)/2+m<=b+st
 len1:(cT T.dflt m st ((a+b)/2+m-st) l).length=l.length
 same1:bh key l (cT T.dflt m st ((a+b)/2+m-st) l)
 sA1:bY key (bf a st (cT T.dflt m st ((a+b)/2+m-st) l))
 sB1:bY key (bf st ((a+b)/2) (cT T.dflt m st ((a+b)/2+m-st) l))
 len2:(if a<st/\st<(a+b)/2 then bA lt a ((a+b)/2) (cT T.dflt m st ((a+b)/2+m-st) l)else cT T.dflt m st ((a+b)/2+m-st) l).length=l.length
 same2:bh key l (if a<st/\st<(a+b)/2 then bA lt a ((a+b)/2) (cT T.dflt m st ((a+b)/2+m-st) l)else cT T.dflt m st ((a+b)/2+m-st) l)
 sA2:bY key (bf ((a+b)/2) ((a+b)/2+m-st) (if a<st/\st<(a+b)/2 then bA lt a ((a+b)/2) (cT T.dflt m st ((a+b)/2+m-st) l)else cT T.dflt m st ((a+b)/2+m-st) l))
 sB2:bY key (bf ((a+b)/2+m-st) b (if a<st/\st<(a+b)/2 then bA lt a ((a+b)/2) (cT T.dflt m st ((a+b)/2+m-st) l)else cT T.dflt m st ((a+b)/2+m-st) l))
def zbg{T:Ty}{lt:T.den->T.den->Bool}{key:T.den->Int}{a:Nat}{l:List T.den}(R:a<m)(S:m<b)(W:b<=l.length)(hl:dd lt key l)(L:bY key (bf a m l))(M:bY key (bf m b l)):
  Sym3 lt key a m b (zem lt T.dflt a m b l) l:=by
 obtain⟨p,q,v,F,A,C,hq⟩:=Vf (ue5 R) (ue5 S) W;have B:=hl.sub λz G=>by
  rw[v];rcases uds.1 G with h|h
  exact ua6 _ (ubk _ h);exact ua6 _ (ua6 _ (ubk _ h))
 obtain⟨g,c,e,f,P,Q,N,O,f1,f2⟩:=VK (d:=T.dflt) F A C R S B L M;rw[<- v]at N O;rw[P]at L A;rw[Q]at M C;rw[P,Q]at v;generalize zem lt T.dflt a m b l=j at N O |-;subst v;simp at A C W;have H:=ubp.1 L;have K:=ubp.1 M;have D:(a+b)/2+m-j=m+e.length:=by omega
 have o:cT T.dflt m j ((a+b)/2+m-j) (p++(g++c++(e++f++q)))=p++(g++(e++(c++(f++q)))):=by
  rw[D];unfold cT;split;rename_i t;have:=UA (d:=T.dflt) (a:=j) (m:=m) (x:=c) (y:=e) (p:=p++g) (q:=f++q) (by omega) (by omega) (by simp;omega) (by omega) rfl;simpa using this;rename_i t;by_cases u:e=[];subst u;simp;have:=ubz.2 u;have:c=[]:=uaz.1 (by omega);subst this;simp
 have i:bh key (p++(g++c++(e++f++q))) (p++(g++(e++(c++(f++q))))):=by
  have h:=(bh.refl p).app (((bh.refl g).app (bh.swap λx hx y hy=>by have:=f2 y hy x hx;omega:bh key (c++e) (e++c))).app (bh.refl (f++q)));simpa using h
 have E:=hl.sub λz G=>i.mem.1 G;have g1:bf a j (p++(g++(e++(c++(f++q)))))=g:=rZ F (by omega);have g2:bf j ((a+b)/2) (p++(g++(e++(c++(f++q)))))=e:=by
  have:=rZ (p:=p++g) (s:=e) (q:=c++(f++q)) (a:=j) (b:=(a+b)/2) (by simp;omega) (by omega);simpa using this
 have w:∀ r:List T.den,r.length=g.length+e.length->bf ((a+b)/2) ((a+b)/2+m-j) (p++(r++(c++(f++q))))=c/\bf ((a+b)/2+m-j) b (p++(r++(c++(f++q))))=f:=λr hT=>by
  have k1:=rZ (p:=p++r) (s:=c) (q:=f++q) (a:=(a+b)/2) (b:=(a+b)/2+m-j) (by simp;omega) (by omega);have k2:=rZ (p:=p++r++c) (s:=f) (q:=q) (a:=(a+b)/2+m-j) (b:=b) (by simp;omega) (by omega);exact⟨by simpa using k1,by simpa using k2⟩
 have k:(p++(g++(e++(c++(f++q))))).length=(p++(g++c++(e++f++q))).length:=by simp;omega
 have n:a<j/\j<(a+b)/2->bA lt a ((a+b)/2) (p++(g++(e++(c++(f++q)))))=p++(cM lt (g++e)++(c++(f++q))):=λt=>by
  have:=rE (lt:=lt) (b:=(a+b)/2) (s:=g++e) (q:=c++(f++q)) F (by simp;omega);simpa using this
 refine⟨by omega,by omega,by omega,by omega,by omega,by omega,by rw[o];exact k,by rw[o];exact i,by rw[o,g1];exact H.1,by rw[o,g2];exact K.1,?_,?_,?_,?_⟩;rw[o];split;rw[rF (by omega) (by simp;omega)];exact k;exact k;rw[o];split;exact i.trans (Ka (by omega) (by simp;omega) E);exact i;rw[o];split;rename_i t;rw[n t,(w _ (by rw[mj];simp)).1];exact H.2.1;have:=(w (g++e) (by simp)).1;rw[show p++(g++(e++(c++(f++q))))=p++((g++e)++(c++(f++q))) by simp,this];exact H.2.1;rw[o];split;rename_i t;rw[n t,(w _ (by rw[mj];simp)).2];exact K.2.1;have:=(w (g++e) (by simp)).2;rw[show p++(g++(e++(c++(f++q))))=p++((g++e)++(c++(f++q))) by simp,this];exact K.2.1
def zbj{T:Ty}{lt:T.den->T.den->Bool}{key:T.den->Int}{a:Nat}{l:List T.den}(e:a<m)(f:m<b)(o:b<=l.length)(r:dd lt key l)(k:bY key (bf a m l))(n:bY key (bf m b l)):
  pO lt T.dflt a m b l=bA lt a b l:=by
 obtain⟨p,q,d,j,g,i,u⟩:=Vf (ue5 e) (ue5 f) o;generalize bf a m l=A at d g k;generalize bf m b l=B at d i n;subst d;have c:=r.sub λz t=>by
  rcases uds.1 t with h|h
  exact ua6 _ (ubk _ h);exact ua6 _ (ua6 _ (ubk _ h))
 rw[zbi j g i e f c k n];have:=rE (lt:=lt) (b:=b) (s:=A++B) (q:=q) j (by simp;omega);rw[<- this];simp
def F5(p q:Prop)[Decidable p][Decidable q]:(bif decide p then decide q else Y)=J (p/\q):=by
 by_cases p<;>by_cases q<;>simp_all
def VI{T:Ty}{aX a:Nat}{g:(aV T).den}{l:List T.den}(h:aX<a/\a<b->SymOk n aX a b g l):
  ((zz e T) n aX a b g l).ok/\((zz e T) n aX a b g l).get=((if aX<a/\a<b then bA (aM g) aX b l else l),()):=by
 unfold zz;have f:(bif J ((aX:Int)<a)then J ((a:Int)<b)else Y)=J (aX<a/\a<b):=by
  rw[F5,udh];omega
 rw[f];by_cases c:aX<a/\a<b;rw[uea c,ufv c];exact⟨⟨λ_=>⟨h c,uT⟩,λd=>by cases d⟩,rfl⟩;rw[udv c,ufw c];exact⟨⟨λd=>(by cases d),λ_=>uT⟩,rfl⟩
def VH{T:Ty}{a c aX d:Nat}{g:(aV T).den}{l:List T.den}(h:a<c/\c<aX->SymOk n a c aX g l)(k:aX<d/\d<b->SymOk n aX d b g (if a<c/\c<aX then bA (aM g) a aX l else l)):
  ((zy e T) n a c aX d b g l).ok/\((zy e T) n a c aX d b g l).get=((if aX<d/\d<b then bA (aM g) aX b (if a<c/\c<aX then bA (aM g) a aX l else l)else (if a<c/\c<aX then bA (aM g) a aX l else l)),()):=by
 unfold zy;have o:(bif J ((a:Int)<c)then J ((c:Int)<aX)else Y)=J (a<c/\c<aX):=by
  rw[F5,udh];omega
 rw[o];by_cases f:a<c/\c<aX;rw[ufv f]at k |-;rw[uea f];obtain⟨i,j⟩:=VI k;exact⟨⟨λ_=>⟨h f,i⟩,λm=>by cases m⟩,j⟩;rw[ufw f]at k |-;rw[udv f];obtain⟨i,j⟩:=VI k;exact⟨⟨λm=>(by cases m),λ_=>i⟩,j⟩
def zbh{T:Ty}{a c aX d:Nat}{g:(aV T).den}{l:List T.den}(r:d<=l.length)(f:(l.length:Int)<=4611686018427387903)(h:a<c/\c<aX->SymOk n a c aX g (cT T.dflt m c d l))(k:aX<d/\d<b->SymOk n aX d b g (if a<c/\c<aX then bA (aM g) a aX (cT T.dflt m c d l)else cT T.dflt m c d l)):
  ((Ek e T) n a m b c aX d g l).ok/\((Ek e T) n a m b c aX d g l).get=((if aX<d/\d<b then bA (aM g) aX b (if a<c/\c<aX then bA (aM g) a aX (cT T.dflt m c d l)else cT T.dflt m c d l)else (if a<c/\c<aX then bA (aM g) a aX (cT T.dflt m c d l)else cT T.dflt m c d l)),()):=by
 unfold Ek;have q:(bif J ((c:Int)<m)then J ((m:Int)<d)else Y)=J (c<m/\m<d):=by
  rw[F5,udh];omega
 rw[q];by_cases i:c<m/\m<d;have e:cT T.dflt m c d l=pC T.dflt c m d l:=by unfold cT;rw[ufv i]
 rw[e]at h k |-;rw[uea i];obtain⟨j,o⟩:=VH h k;exact⟨⟨λ_=>⟨by omega,by omega,by omega,by omega,f,j⟩,λp=>by cases p⟩,o⟩;have e:cT T.dflt m c d l=l:=by unfold cT;rw[ufw i]
 rw[e]at h k |-;rw[udv i];obtain⟨j,o⟩:=VH h k;exact⟨⟨λp=>(by cases p),λ_=>j⟩,o⟩
def VL{T:Ty}(n a m b:Nat)(g:(aV T).den)(l:List T.den)(h:SymOk (n+1) a m b g l):((qY e T) n l ((a:Int),(m:Int),(b:Int),g,())).ok/\((qY e T) n l ((a:Int),(m:Int),(b:Int),g,())).get=(bA (aM g) a b l,()):=by
 obtain⟨_,h1,h2,h3,c,E,f,key,A,W,sB⟩:=h;have u:a<m:=by omega
 have v:m<b:=by omega
 have w:b<=l.length:=by omega
 have hX:=zbj u v w A W sB;rw[<- hX];have w1:I6.wrap ((m:Int)-a)=(m-a:Nat):=zu (by omega) (by omega);have w2:I6.wrap ((b:Int)-m)=(b-m:Nat):=zu (by omega) (by omega);have x:cE (a:Int) b=((a+b)/2:Nat):=zn2 (by omega);dsimp only[qY];rw[w1,w2,x];by_cases y:m-a=1;have p:(((m-a:Nat):Int)==1)=true:=by rw[y];rfl
 rw[p];unfold pO;rw[ufv y];obtain⟨H,K⟩:=As (b-m) m b (by omega);have s:tg (a:Int) m b g l=(cp (λh=>aM g (l.getD h T.dflt) (l.getD a T.dflt)) (b-m) m b:Nat):=rfl;have e:(g.1,g.2)=g:=rfl;rw[s];generalize cp (λh=>aM g (l.getD h T.dflt) (l.getD a T.dflt)) (b-m) m b=r at H K |-;refine⟨⟨λ_=>⟨⟨by omega,by omega,by omega,by omega,by omega,c,f⟩,⟨by omega,by omega,by omega,c⟩,uT⟩,λd=>by cases d⟩,?_⟩;rw[show((r:Int)-1-a).toNat=r-1-a by omega];rfl
 ·have p:(((m-a:Nat):Int)==1)=false:=by rw[ubw];omega
  rw[p];by_cases B:b-m=1;have p:(((b-m:Nat):Int)==1)=true:=by rw[B];rfl
  rw[p];unfold pO;rw[ufw y,ufv B];obtain⟨H,K⟩:=As (m-a) a m (by omega);have s:FN (m:Int) a m g l=(cp (λh=>!aM g (l.getD m T.dflt) (l.getD h T.dflt)) (m-a) a m:Nat):=rfl;have e:(g.1,g.2)=g:=rfl;rw[s];generalize cp (λh=>!aM g (l.getD m T.dflt) (l.getD h T.dflt)) (m-a) a m=r at H K |-;refine⟨⟨λd=>(by cases d),λ_=>⟨λ_=>⟨⟨by omega,by omega,by omega,by omega,by omega,c,f⟩,⟨by omega,by omega,by omega,c⟩,uT⟩,λd=>by cases d⟩⟩,?_⟩;rw[show((m:Int)-r).toNat=m-r by omega];rfl
  ·have p:(((b-m:Nat):Int)==1)=false:=by rw[ubw];omega
   rw[p];have L:=zbg u v w A W sB;have q:∀ i j:Nat,(i=if (a+b)/2<m then (a+b)/2+m-b else a)->(j=if (a+b)/2<m then (a+b)/2 else m) ->
     ((zx e T) n a m b ((a+b)/2:Nat) i j g l).ok/\((zx e T) n a m b ((a+b)/2:Nat) i j g l).get=(pO (aM g) T.dflt a m b l,()):=λi j hi Q=>by
    have wp:I6.wrap (I6.wrap ((((a+b)/2:Nat):Int)+m)-1)=((a+b)/2+m-1:Nat):=by
     rw[Fo (by omega),Uk (by omega) (by omega)]
    have hS:Ar (((a+b)/2+m-1:Nat):Int) i j g l=(zem (aM g) T.dflt a m b l:Nat):=by
     unfold Ar zem;simp;rw[<- hi,<- Q]
    dsimp only[zx];have e:(g.1,g.2)=g:=rfl;rw[wp,e,hS];have we:I6.wrap (I6.wrap ((((a+b)/2:Nat):Int)+m)-(zem (aM g) T.dflt a m b l:Nat))=((a+b)/2+m-zem (aM g) T.dflt a m b l:Nat):=by
     have:=L.s3;rw[Fo (by omega),zu (by omega) (by omega)]
    rw[we];have C:pO (aM g) T.dflt a m b l=(if (a+b)/2<(a+b)/2+m-zem (aM g) T.dflt a m b l/\(a+b)/2+m-zem (aM g) T.dflt a m b l<b then bA (aM g) ((a+b)/2) b (if a<zem (aM g) T.dflt a m b l/\zem (aM g) T.dflt a m b l<(a+b)/2 then bA (aM g) a ((a+b)/2) (cT T.dflt m (zem (aM g) T.dflt a m b l) ((a+b)/2+m-zem (aM g) T.dflt a m b l) l)else cT T.dflt m (zem (aM g) T.dflt a m b l) ((a+b)/2+m-zem (aM g) T.dflt a m b l) l)else (if a<zem (aM g) T.dflt a m b l/\zem (aM g) T.dflt a m b l<(a+b)/2 then bA (aM g) a ((a+b)/2) (cT T.dflt m (zem (aM g) T.dflt a m b l) ((a+b)/2+m-zem (aM g) T.dflt a m b l) l)else cT T.dflt m (zem (aM g) T.dflt a m b l) ((a+b)/2+m-zem (aM g) T.dflt a m b l) l)):=by
     conv=>lhs;unfold pO
     rw[ufw y,ufw B]
    rw[C];generalize zem (aM g) T.dflt a m b l=st at L |-;obtain⟨q1,q2,q3,q4,q5,q6,R,k,M,O,S,o,N,P⟩:=L;obtain⟨o1,o2⟩:=zbh (n:=n) (by omega) c
     (λp=>⟨by omega,by omega,by omega,by omega,by omega,by omega,f.sub λz t=>k.mem.1 t,key,A.sub λz t=>k.mem.1 t,M,O⟩)
     (λp=>⟨by omega,by omega,by omega,by omega,by omega,by omega,f.sub λz t=>o.mem.1 t,key,A.sub λz t=>o.mem.1 t,N,P⟩)
    refine⟨⟨?_,o1⟩,o2⟩;refine⟨by omega,?_,?_,by omega,?_,?_,c,f⟩<;>(subst hi Q;split<;>omega)
   by_cases cm:m>(a+b)/2;have D:J ((m:Int)>((a+b)/2:Nat))=true:=uea (by omega);rw[D];have wi:I6.wrap (I6.wrap ((((a+b)/2:Nat):Int)+m)-b)=((a+b)/2+m-b:Nat):=by
    rw[Fo (by omega),zu (by omega) (by omega)]
   rw[wi];obtain⟨F,G⟩:=q ((a+b)/2+m-b) ((a+b)/2) (by rw[ufv (by omega)]) (by rw[ufv (by omega)]);exact⟨⟨λd=>(by cases d),λ_=>⟨λd=>(by cases d),λ_=>⟨by omega,λ_=>F,λd=>by cases d⟩⟩⟩,G⟩;have D:J ((m:Int)>((a+b)/2:Nat))=false:=udv (by omega);rw[D];obtain⟨F,G⟩:=q a m (by rw[ufw (by omega)]) (by rw[ufw (by omega)]);exact⟨⟨λd=>(by cases d),λ_=>⟨λd=>(by cases d),λ_=>⟨by omega,λd=>(by cases d),λ_=>F⟩⟩⟩,G⟩
def FH{T:Ty}{lt:T.den->T.den->Bool}{w:Nat}(c:0<w):(f b a:Nat)->(l:List T.den)->n<f+a->n<b+a->dV lt w n f a l=dV lt w n b a l
 |0,0,_,_,_,_=>rfl
 |0,b+1,a,l,h,_=>by simp only[dV];rw[ufw (by omega)]
 |f+1,0,a,l,_,h=>by simp only[dV];rw[ufw (by omega)]
 |f+1,b+1,a,l,h,d=>by
  simp only[dV];split;exact FH c f b _ _ (by omega) (by omega);rfl
def Kd{T:Ty}{lt:T.den->T.den->Bool}:(f a w:Nat)->(l:List T.den)->0<w->n<=f+w->n<=a+w->eK lt n f w l=eK lt n a w l
 |0,0,_,_,_,_,_=>rfl
 |0,a+1,w,l,b,h,_=>by simp only[eK];rw[ufw (by omega)]
 |f+1,0,w,l,b,_,h=>by simp only[eK];rw[ufw (by omega)]
 |f+1,a+1,w,l,b,h,c=>by
  simp only[eK];split;exact Kd f a _ _ (by omega) (by omega) (by omega);rfl
abbrev big:Nat:=4611686018427387903
abbrev eN(e:TypeId)(T:Ty):Pt:=⟨63,0,⟨[(1,.d i64),(2,(aV T)),(6,.d i64),(7,.d i64),(8,.d i64)],[.al 10000 0,.o 0 e T]⟩,⟨[(1,.d i64),(2,(aV T)),(6,.d i64),(7,.d i64)],[.al 10000 0,.o 0 e T]⟩,⟨[],[]⟩⟩
noncomputable def xG(e:TypeId)(T:Ty)(x:(eN e T).M.X):Fr (eN e T).Out:=
 let n:=x.1.1;let g:=x.1.2.1;let bs:=x.1.2.2.1;let a:=x.1.2.2.2.1;let b:=x.1.2.2.2.2.1;let l:=x.2.1
 Jb (J (b<=n))
  (Jd (0<=a)
   (Jd (a<=b)
    (Jd (b<=(l.length:Int))
     (Jd ((l.length:Int)<=4611686018427387903)
      (Jd (gR (g.1,g.2) l)
       (Jv (Rd.next ((n,(g.1,g.2),bs,b,I6.wrap (b+bs),()),(((kQ e T).f l (a,b,(g.1,g.2),())).1,())))))))))
  (Jv (Rd.out ((n,(g.1,g.2),bs,a,()),(l,()))))
structure InvBlk {T:Ty} (n bs a b:Int) (g:(aV T).den) (l:List T.den):Prop where
 nl:n=l.length
 big:n<=4611686018427387903
 tg:bs=20
 a0:0<=a
 an:a<=n
 ab:b=a+20
 ord:gR g l
def km{T:Ty}(n a:Int)(g:(aV T).den)(l:List T.den):Nat×List T.den:=dV (aM g) 20 n.toNat (n.toNat+1) a.toNat l
def sF(e:TypeId)(T:Ty)(x:(eN e T).M.X):Fr (eN e T).Out:=
 let n:=x.1.1;let g:=x.1.2.1;let bs:=x.1.2.2.1;let a:=x.1.2.2.2.1;let b:=x.1.2.2.2.2.1;let l:=x.2.1
 Jd (InvBlk n bs a b g l) (Jv (Rd.out ((n,g,bs,((km n a g l).1:Nat),()),((km n a g l).2,()))))
def JZ{T:Ty}{lt:T.den->T.den->Bool}{a:Nat}{l:List T.den}{x:T.den}(h:x∈bA lt a b l):x∈l:=by
 rcases uds.1 h with h|h
 exact ubq h;rcases uds.1 h with h|h
 exact ubq (ubr (yZ.1 h));exact ubr h
def qpl {T:Ty} (n bs a b:Int) (g:(aV T).den) (l:List T.den) (d:InvBlk n bs a b g l) (Q:(eN e T).Out->Prop)
  (h:Q (Rd.out ((n,g,bs,((km n a g l).1:Nat),()),((km n a g l).2,())))):((xG e T) ((n,g,bs,a,b,()),(l,()))).satP λ
   |.next c=>InvBlk c.1.1 c.1.2.2.1 c.1.2.2.2.1 c.1.2.2.2.2.1 c.1.2.1 c.2.1/\(c.1.1-c.1.2.2.2.1).toNat<(n-a).toNat/\((sF e T) c).satP Q
   |.out y=>Q (.out y)
   |.back z=>Q (.back z)
   |.pan p=>Q (.pan p):=by
 obtain⟨o,q,r,s,A,t,j⟩:=d;subst r t;dsimp only[xG,Fr.satP,Ty.den,PT.den];refine⟨λhi=>?_,λhi=>?_⟩
 ·have i:=ucx hi;have w:I6.wrap (a+20+20)=a+20+20:=IntWalk.i64_in _ (by omega);rw[w];have f:(bA (aM g) a.toNat (a+20).toNat l).length=l.length:=rF (by omega) (by omega);have k:InvBlk n 20 (a+20) (a+20+20) g (bA (aM g) a.toNat (a+20).toNat l):=⟨by rw[f];exact o,q,rfl,by omega,i,rfl,j.sub λx v=>JZ v⟩;refine⟨s,by omega,by omega,by omega,j,k,by omega,k,?_⟩;have e:km n a g l=km n (a+20) g (bA (aM g) a.toNat (a+20).toNat l):=by
   unfold km
   conv=>lhs;unfold dV
   rw[ufv (by omega),show a.toNat+20=(a+20).toNat by omega];exact FH (by omega) _ _ _ _ (by omega) (by omega)
  rw[e]at h;exact h
 have u:=uch hi;have e:km n a g l=(a.toNat,l):=by
  unfold km dV;rw[ufw (by omega)]
 rw[e]at h;have m:((a.toNat:Nat):Int)=a:=by omega
 simp only[m]at h;exact h
def S4{T:Ty}{c:Code}(f:ae P c (eN e T).M (eN e T) (xG e T)):ae P (.loop c) (eN e T).M (eN e T) (sF e T):=by
 refine ae.loop f (μ:=λx=>(x.1.1-x.1.2.2.2.1).toNat) ?_ (λx Q h=>h.1);rintro⟨⟨n,g,bs,a,b,_⟩,⟨l,_⟩⟩ d Q i;exact qpl n bs a b g l d Q i.2
abbrev eQ(e:TypeId)(T:Ty):Pt:=⟨63,4,⟨[(1,.d i64),(2,(aV T)),(6,.d i64),(7,.d i64),(8,.d i64)],[.al 10000 0,.o 0 e T]⟩,⟨[(1,.d i64),(2,(aV T)),(6,.d i64),(7,.d i64)],[.al 10000 0,.o 0 e T]⟩,⟨[],[]⟩⟩
noncomputable def xL(e:TypeId)(T:Ty)(x:(eQ e T).M.X):Fr (eQ e T).Out:=
 let n:=x.1.1;let g:=x.1.2.1;let bs:=x.1.2.2.1;let a:=x.1.2.2.2.1;let b:=x.1.2.2.2.2.1;let l:=x.2.1
 Jb (J (b<=n))
  (Jd (SymOk big a (I6.wrap (a+bs)) b (g.1,g.2) l)
   (Jv (Rd.next ((n,(g.1,g.2),bs,b,I6.wrap (b+I6.wrap (2*bs)),()),((((iP e T) big).f l (a,I6.wrap (a+bs),b,(g.1,g.2),())).1,())))))
  (Jv (Rd.out ((n,(g.1,g.2),bs,a,()),(l,()))))
structure InvPas {T:Ty} (n bs a b:Int) (g:(aV T).den) (l:List T.den):Prop where
 nl:n=l.length
 big:n<=4611686018427387903
 tg:0<bs
 bsn:bs<n
 a0:0<=a
 an:a<=n
 ab:b=a+2*bs
 mul:∃ c:Nat,a.toNat=c*(2*bs.toNat)
 dom:jv g l
 key:∃ key:T.den->Int,dd (aM g) key l/\∀ k:Nat,a.toNat<=k*bs.toNat->bY key (bf (k*bs.toNat) (k*bs.toNat+bs.toNat) l)
def gK{T:Ty}(n bs a:Int)(g:(aV T).den)(l:List T.den):Nat×List T.den:=dV (aM g) (2*bs.toNat) n.toNat (n.toNat+1) a.toNat l
def sI(e:TypeId)(T:Ty)(x:(eQ e T).M.X):Fr (eQ e T).Out:=
 let n:=x.1.1;let g:=x.1.2.1;let bs:=x.1.2.2.1;let a:=x.1.2.2.2.1;let b:=x.1.2.2.2.2.1;let l:=x.2.1
 Jd (InvPas n bs a b g l) (Jv (Rd.out ((n,g,bs,((gK n bs a g l).1:Nat),()),((gK n bs a g l).2,()))))
def qpx {T:Ty} (n bs a b:Int) (g:(aV T).den) (l:List T.den) (j:InvPas n bs a b g l) (Q:(eQ e T).Out->Prop)
  (o:Q (Rd.out ((n,g,bs,((gK n bs a g l).1:Nat),()),((gK n bs a g l).2,())))):((xL e T) ((n,g,bs,a,b,()),(l,()))).satP λ
   |.next d=>InvPas d.1.1 d.1.2.2.1 d.1.2.2.2.1 d.1.2.2.2.2.1 d.1.2.1 d.2.1/\(d.1.1-d.1.2.2.2.1).toNat<(n-a).toNat/\((sI e T) d).satP Q
   |.out y=>Q (.out y)
   |.back z=>Q (.back z)
   |.pan p=>Q (.pan p):=by
 obtain⟨B,C,D,E,F,O,G,⟨c,q⟩,t,key,u,f⟩:=j;subst G;dsimp only[xL,Fr.satP,Ty.den,PT.den,iP];have L:I6.wrap (a+bs)=a+bs:=IntWalk.i64_in _ (by omega);have M:I6.wrap (2*bs)=2*bs:=IntWalk.i64_in _ (by omega);rw[L,M];refine⟨λhi=>?_,λhi=>?_⟩
 ·have r:=ucx hi;have h:bY key (bf a.toNat (a+bs).toNat l):=by
   have:=f (2*c) (by rw[q,<- uen,uev c 2];exact ue9 _)
   rwa [show 2*c*bs.toNat=a.toNat by rw[q,<- uen,uev c 2],show a.toNat+bs.toNat=(a+bs).toNat by omega]at this
  have i:bY key (bf (a+bs).toNat (a+2*bs).toNat l):=by
   have e:(2*c+1)*bs.toNat=(a+bs).toNat:=by
    rw[uew,show 2*c*bs.toNat=a.toNat by rw[q,<- uen,uev c 2]];omega
   have:=f (2*c+1) (by omega)
   rwa [e,show(a+bs).toNat+bs.toNat=(a+2*bs).toNat by omega]at this
  have m:(bA (aM g) a.toNat (a+2*bs).toNat l).length=l.length:=rF (by omega) (by omega);by_cases w:a+2*bs+2*bs<=9223372036854775807
  ·have N:I6.wrap (a+2*bs+2*bs)=a+2*bs+2*bs:=IntWalk.i64_in _ (by omega);rw[N];have v:InvPas n bs (a+2*bs) (a+2*bs+2*bs) g (bA (aM g) a.toNat (a+2*bs).toNat l):=⟨by rw[m];exact B,C,D,E,by omega,r,rfl,⟨c+1,by rw[uew,<- q];omega⟩,t.sub λx s=>JZ s,key,u.sub λx s=>JZ s,λk K=>by
    rw[DB (Pw (by omega) (by omega) (ue9 _)) K];exact f k (by omega)⟩
   refine⟨⟨F,by omega,by omega,by omega,by omega,by simp;omega,t,key,u,h,i⟩,v,by omega,v,?_⟩;have e:gK n bs a g l=gK n bs (a+2*bs) g (bA (aM g) a.toNat (a+2*bs).toNat l):=by
    unfold gK
    conv=>lhs;unfold dV
    rw[ufv (by omega),show a.toNat+2*bs.toNat=(a+2*bs).toNat by omega];exact FH (by omega) _ _ _ _ (by omega) (by omega)
   rw[e]at o;exact o
  exfalso;omega
 have H:=uch hi;have e:gK n bs a g l=(a.toNat,l):=by
  unfold gK dV;rw[ufw (by omega)]
 rw[e]at o;have A:((a.toNat:Nat):Int)=a:=by omega
 simp only[A]at o;exact o
def S7{T:Ty}{c:Code}(f:ae P c (eQ e T).M (eQ e T) (xL e T)):ae P (.loop c) (eQ e T).M (eQ e T) (sI e T):=by
 refine ae.loop f (μ:=λx=>(x.1.1-x.1.2.2.2.1).toNat) ?_ (λx Q h=>h.1);rintro⟨⟨n,g,bs,a,b,_⟩,⟨l,_⟩⟩ d Q i;exact qpx n bs a b g l d Q i.2
abbrev eM(e:TypeId)(T:Ty):Pt:=⟨63,2,⟨[(1,.d i64),(2,(aV T)),(6,.d i64)],[.al 10000 0,.o 0 e T]⟩,⟨[],[.al 10000 0,.o 0 e T]⟩,⟨[],[]⟩⟩
noncomputable def xF(e:TypeId)(T:Ty)(x:(eM e T).M.X):Fr (eM e T).Out:=
 let n:=x.1.1;let g:=x.1.2.1;let bs:=x.1.2.2.1;let l:=x.2.1
 let r:=gK n bs 0 (g.1,g.2) l
 Jb (J (bs<n))
  (Jd (InvPas n bs 0 (I6.wrap (2*bs)) (g.1,g.2) l)
   (Jb (J (I6.wrap ((r.1:Int)+bs)<n))
    (Jd (SymOk big r.1 (I6.wrap ((r.1:Int)+bs)) n (g.1,g.2) r.2)
     (Jv (Rd.next ((n,(g.1,g.2),I6.wrap (bs*2),()),((((iP e T) big).f r.2 ((r.1:Int),I6.wrap ((r.1:Int)+bs),n,(g.1,g.2),())).1,())))))
    (Jv (Rd.next ((n,(g.1,g.2),I6.wrap (bs*2),()),(r.2,()))))))
  (Jv (Rd.out ((),(l,()))))
structure InvAll {T:Ty} (n bs:Int) (g:(aV T).den) (l:List T.den):Prop where
 nl:n=l.length
 big:n<=4611686018427387903
 tg:0<bs
 dom:jv g l
 key:∃ key:T.den->Int,dd (aM g) key l/\wt key bs.toNat l
def sE(e:TypeId)(T:Ty)(x:(eM e T).M.X):Fr (eM e T).Out:=
 let n:=x.1.1;let g:=x.1.2.1;let bs:=x.1.2.2.1;let l:=x.2.1
 Jd (InvAll n bs g l) (Jv (Rd.out ((),(eK (aM g) n.toNat n.toNat bs.toNat l,()))))
def qpj {T:Ty} (n bs:Int) (g:(aV T).den) (l:List T.den) (m:InvAll n bs g l) (Q:(eM e T).Out->Prop)
  (B:Q (Rd.out ((),(eK (aM g) n.toNat n.toNat bs.toNat l,())))):((xF e T) ((n,g,bs,()),(l,()))).satP λ
   |.next i=>InvAll i.1.1 i.1.2.2.1 i.1.2.1 i.2.1/\(i.1.1-i.1.2.2.1).toNat<(n-bs).toNat/\((sE e T) i).satP Q
   |.out y=>Q (.out y)
   |.back z=>Q (.back z)
   |.pan p=>Q (.pan p):=by
 obtain⟨H,D,K,s,key,j,q⟩:=m;dsimp only[xF,Ty.den,PT.den,iP];refine⟨λhi=>?_,λhi=>?_⟩
 ·have v:=ucx hi;have S:I6.wrap (2*bs)=2*bs:=IntWalk.i64_in _ (by omega);have W:I6.wrap (bs*2)=bs*2:=IntWalk.i64_in _ (by omega);have C:=wK (w:=2*bs.toNat) (n:=n.toNat) (by omega) (n.toNat+1) 0 l (by omega) (by omega) (by omega) ⟨0,by simp⟩ j (λk hk=>by omega);obtain⟨p1,p2,p3⟩:=TW (n:=n.toNat) (by omega) (by omega) j q;have a:kU (aM g) bs.toNat n.toNat l=if (gK n bs 0 g l).1+bs.toNat<n.toNat then bA (aM g) (gK n bs 0 g l).1 n.toNat (gK n bs 0 g l).2 else (gK n bs 0 g l).2:=rfl
  have d:eK (aM g) n.toNat n.toNat bs.toNat l=eK (aM g) n.toNat n.toNat (bs*2).toNat (kU (aM g) bs.toNat n.toNat l):=by
   obtain⟨f,N⟩:∃ f,n.toNat=f+1:=⟨n.toNat-1,by omega⟩
   conv=>lhs;rw[show eK (aM g) n.toNat n.toNat bs.toNat l=eK (aM g) n.toNat (f+1) bs.toNat l by rw[<- N]]
   simp only[eK];rw[ufv (by omega),show(bs*2).toNat=2*bs.toNat by omega];exact Kd _ _ _ _ (by omega) (by omega) (by omega)
  have E:InvAll n (bs*2) g (kU (aM g) bs.toNat n.toNat l):=⟨by omega,D,by omega,s.sub λx h=>p2.mem.1 h,key,j.sub λx h=>p2.mem.1 h,by rw[show(bs*2).toNat=2*bs.toNat by omega];exact p1⟩;have b:InvAll n (bs*2) g (kU (aM g) bs.toNat n.toNat l)/\(n-bs*2).toNat<(n-bs).toNat/\InvAll n (bs*2) g (kU (aM g) bs.toNat n.toNat l)/\Q (Rd.out ((),(eK (aM g) n.toNat n.toNat (bs*2).toNat (kU (aM g) bs.toNat n.toNat l),()))):=⟨E,by omega,E,by rw[<- d];exact B⟩;rw[S,W];have L:(dV (aM g) (2*bs.toNat) n.toNat (n.toNat+1) 0 l)=gK n bs 0 g l:=rfl;rw[L]at C;refine⟨⟨H,D,K,v,ufa _,by omega,by omega,⟨0,by simp⟩,s,key,j,λk _=>q k⟩,?_⟩;have e:(g.1,g.2)=g:=rfl;generalize gK n bs 0 g l=r at C a |-;obtain⟨⟨c,M⟩,q2,q3,q4,G,P,q7⟩:=C;have w3:I6.wrap ((r.1:Int)+bs)=r.1+bs:=IntWalk.i64_in _ (by omega);rw[w3];refine⟨λt=>?_,λt=>?_⟩;have u:=ucx t;rw[ufv (by omega)]at a;have F:=P;have o:2*c*bs.toNat=r.1:=by rw[M,<- uen,uev c 2]
  have A:(2*c+1)*bs.toNat=r.1+bs.toNat:=by rw[uew,o]
  have s1:bY key (bf r.1 (r.1+bs.toNat) r.2):=by
   rw[DB F (ue9 _),<- o];exact q (2*c)
  have R:bY key (bf (r.1+bs.toNat) n.toNat r.2):=by
   have:bf (r.1+bs.toNat) n.toNat r.2=bf (r.1+bs.toNat) (r.1+bs.toNat+bs.toNat) r.2:=by
    unfold bf;rw[ua3 (by omega),ua3 (by omega)]
   rw[this,DB F (by omega),<- A];exact q (2*c+1)
  refine⟨⟨by omega,by omega,by omega,by omega,by omega,by simp;omega,s.sub λx h=>G.mem.1 h,key,j.sub λx h=>G.mem.1 h,?_,?_⟩,?_⟩;rw[show((r.1:Int)+bs).toNat=r.1+bs.toNat by omega];exact s1;rw[show((r.1:Int)+bs).toNat=r.1+bs.toNat by omega];exact R;rw[a]at b;exact b;have u:=uch t;rw[ufw (by omega)]at a;rw[a]at b;exact b
 have O:=uch hi;have:eK (aM g) n.toNat n.toNat bs.toNat l=l:=by
  rw[Kd _ 0 _ _ (by omega) (by omega) (by omega)];rfl
 rw[this]at B;exact B
def S3{T:Ty}{c:Code}(b:ae P c (eM e T).M (eM e T) (xF e T)):ae P (.loop c) (eM e T).M (eM e T) (sE e T):=by
 refine ae.loop b (μ:=λx=>(x.1.1-x.1.2.2.1).toNat) ?_ (λx Q h=>h.1);rintro⟨⟨n,g,bs,_⟩,⟨l,_⟩⟩ a Q d;exact qpj n bs g l a Q d.2
noncomputable def nk(e:TypeId)(T:Ty):Mt:=⟨e,T,[.d i64,(aV T)],[],λl x=>(cM (aM x.2.1) l,()),λl x=>[x.1=l.length,(l.length:Int)<=4611686018427387903,gR x.2.1 l]⟩
noncomputable def xT(e:TypeId)(T:Ty)(l:List T.den)(x:ag [.d i64,(aV T)]):Fr (List T.den×aa []):=
 let n:=x.1;let g:=x.2.1
 let r:=km n 0 (g.1,g.2) l
 Jd (InvBlk n 20 0 20 (g.1,g.2) l)
 (Jd ((0:Int)<=r.1)
  (Jd ((r.1:Int)<=n)
   (Jd (n<=(r.2.length:Int))
    (Jd ((r.2.length:Int)<=4611686018427387903)
     (Jd (gR (g.1,g.2) r.2)
      (Jd (InvAll n 20 (g.1,g.2) ((kQ e T).f r.2 ((r.1:Int),n,(g.1,g.2),())).1)
       (Jv (eK (aM (g.1,g.2)) n.toNat n.toNat (20:Int).toNat ((kQ e T).f r.2 ((r.1:Int),n,(g.1,g.2),())).1,()))))))))
def Vu{T:Ty}(l:List T.den)(xs:ag (nk e T).ps)(p:l.length<=maxLen)(j:av ((nk e T).ok l xs)):av [((xT e T) l xs).ok]/\((xT e T) l xs).get=(nk e T).f l xs:=by
 obtain⟨n,g,rfl⟩:∃ (n:Int) (g:(aV T).den),xs=(n,g,()):=⟨xs.1,xs.2.1,rfl⟩;have c:(n:Int)=(List.length (α:=T.den) l:Int)/\(List.length (α:=T.den) l:Int)<=4611686018427387903/\gR g l:=j;obtain⟨s,o,i,key,a⟩:=c;subst s;have d:=wK (key:=key) (lt:=aM g) (w:=20) (n:=List.length (α:=T.den) l) (by omega) (List.length (α:=T.den) l+1) 0 l (by omega) (by omega) rfl ⟨0,by simp⟩ a (λk u=>by omega);have h:=zap a;unfold KV at h;have t:km (List.length (α:=T.den) l:Int) 0 g l=dV (aM g) 20 (List.length (α:=T.den) l) (List.length (α:=T.den) l+1) 0 l:=rfl;dsimp only[xT,Fr.ok,Fr.get,Ty.den,PT.den,kQ,nk];have e:(g.1,g.2)=g:=rfl;simp only[e,t];simp only at h;generalize dV (aM g) 20 (List.length (α:=T.den) l) (List.length (α:=T.den) l+1) 0 l=r at d h |-;obtain⟨p1,p2,p3⟩:=d.last a;have v:=d.le;have y:=d.len;have q:∀ x∈r.2,x∈l:=λx m=>d.same.mem.1 m;have b:∀ x∈bA (aM g) r.1 (List.length (α:=T.den) l) r.2,x∈l:=λx m=>p2.mem.1 m;refine⟨⟨⟨rfl,o,rfl,by omega,by omega,rfl,i,key,a⟩,by omega,by omega,by omega,by omega,⟨i.sub q,key,a.sub q⟩,⟨uft (λn:Nat=>(n:Int)) p3.symm,o,by omega,i.sub b,key,a.sub b,p1⟩,uT⟩,?_⟩;show(eK (aM g) (List.length (α:=T.den) l) (List.length (α:=T.den) l) 20 (bA (aM g) r.1 (List.length (α:=T.den) l) r.2),())=(cM (aM g) l,());rw[h]
noncomputable def pd(e:TypeId)(T:Ty):Mt:=⟨e,T,[(aV T)],[],λl x=>(cM (aM x.1) l,()),λl x=>[(l.length:Int)<=4611686018427387903,gR x.1 l]⟩
noncomputable def BZ(e:TypeId)(T:Ty)(l:List T.den)(x:ag [(aV T)]):Fr (List T.den×aa []):=
 let b:=(x.1.1,x.1.2);let a:=(l.length:Int);Jd (a=l.length) (Jd (a<=4611686018427387903) (Jd (gR b l) (Jv (((nk e T).f l (a,b,())).1,()))))
def Vo{T:Ty}(l:List T.den)(xs:ag (pd e T).ps)(b:l.length<=maxLen)(a:av ((pd e T).ok l xs)):av [((BZ e T) l xs).ok]/\((BZ e T) l xs).get=(pd e T).f l xs:=by
 obtain⟨g,rfl⟩:∃ g:(aV T).den,xs=(g,()):=⟨xs.1,rfl⟩;exact⟨⟨rfl,a.1,a.2,uT⟩,rfl⟩
abbrev qdy:PT:=aV i64
noncomputable abbrev J3:Mt:=pd 3 i64
noncomputable def IV:Code:=((Go.Ab.loopB (au f222 0) 0).getD .skip)
def qzc:ae prog IV (eO 3 i64).M (eO 3 i64) (xI 3 i64):=
 dn aH
def qqy:ae prog (.loop IV) (eO 3 i64).M (eO 3 i64) (sG 3 i64):=S5 qzc
noncomputable def WN:Nat->St->Option Tr:=λ_=>(eO 3 i64).han dB.Γ (eO 3 i64).M (sG 3 i64)
def qpa{E:Env}:bP prog E WN (au f222 0) 0:=
 kP (b:=IV) (by kernel_rfl) (by kernel_rfl) (ae.han aH rfl qqy)
def qze:ae prog (au f222 0) (eP 3 i64).M (eP 3 i64) (xJ 3 i64):=
 ae.of_run aH (bs:=0) (Λ:=WN) rfl rfl rfl (λE=>qpa) (λx=>by kernel_rfl)
def qq0:ae prog (.loop (au f222 0)) (eP 3 i64).M (eP 3 i64) (sH 3 i64):=S6 qze
noncomputable def zdp:Nat->St->Option Tr:=λ_=>(eP 3 i64).han dB.Γ (eP 3 i64).M (sH 3 i64)
def qod:SoundMt prog 222 (kQ 3 i64):=
 gW (iq aH (Λ:=zdp) (fn:=f222) (fr:=(xK 3 i64)) (e:=3) (T:=i64) (ps:=[.d i64,.d i64,(aV i64)]) (rs:=[]) (0,0,(λ_=>(0,()),λ_=>True),()) (by kernel_rfl) rfl rfl
  (λc E g=>zlp g (by kernel_rfl) (b:=au f222 0) (by kernel_rfl) (ae.han aH rfl qq0)) (λl x=>by kernel_rfl)) _ _ λ_ _ l xs _ _ a _ f=>RO l xs a f
def qzy:ae prog (au f244 0) (eX 3 i64).M (eX 3 i64) (xU 3 i64):=
 dn aH
def qrm:ae prog (.loop (au f244 0)) (eX 3 i64).M (eX 3 i64) (sP 3 i64):=SE qzy
noncomputable def zdw:Nat->St->Option Tr:=λ_=>(eX 3 i64).han dB.Γ (eX 3 i64).M (sP 3 i64)
def zbf:SoundMt prog 244 (jL 3 i64):=
 gW (iq aH (Λ:=zdw) (fn:=f244) (fr:=(Ca 3 i64)) (e:=3) (T:=i64) (ps:=[.d i64,.d i64,.d i64,(aV i64)]) (rs:=[]) (0,0,0,(λ_=>(0,()),λ_=>True),()) (by kernel_rfl) rfl rfl
  (λc E g=>zlp g (by kernel_rfl) (b:=au f244 0) (by kernel_rfl) (ae.han aH rfl qrm)) (λl x=>by kernel_rfl)) _ _ λ_ _ l xs _ _ a _ f=>VE l xs a f
noncomputable def LX:Cx:=cW [] [] (fG (cx [] []).Γ 244 (jL 3 i64))
def EH:CxOK prog LX:=cZ aG trivial trivial (gu aH.ct zbf)
def qzl:ae prog (au f236 0) (eR 3 i64).M (eR 3 i64) (xM 3 i64):=
 dn EH
def qq9:ae prog (.loop (au f236 0)) (eR 3 i64).M (eR 3 i64) (sJ 3 i64):=S8 qzl
noncomputable def zds:Nat->St->Option Tr:=λ_=>(eR 3 i64).han LX.Γ (eR 3 i64).M (sJ 3 i64)
def qxz:SoundMt prog 236 (pb 3 i64):=
 gW (iq EH (Λ:=zds) (fn:=f236) (fr:=(xN 3 i64)) (e:=3) (T:=i64) (ps:=[.d i64,.d i64,.d i64,(aV i64)]) (rs:=[]) (0,0,0,(λ_=>(0,()),λ_=>True),()) (by kernel_rfl) rfl rfl
  (λc E g=>zlp g (by kernel_rfl) (b:=au f236 0) (by kernel_rfl) (ae.han EH rfl qq9)) (λl x=>by kernel_rfl)) _ _ λ_ _ l xs _ _ a _ f=>UB l xs a f
def qzn:ae prog (au f223 0) (eS 3 i64).M (eS 3 i64) (xO 3 i64):=
 dn aH
def qrb:ae prog (.loop (au f223 0)) (eS 3 i64).M (eS 3 i64) (sK 3 i64):=S9 qzn
def qzr:ae prog (au f223 2) (eU 3 i64).M (eU 3 i64) (xQ 3 i64):=
 dn aH
def qrf:ae prog (.loop (au f223 2)) (eU 3 i64).M (eU 3 i64) (sM 3 i64):=SB qzr
def qzv:ae prog (au f223 4) (eW 3 i64).M (eW 3 i64) (xS 3 i64):=
 dn aH
def qrj:ae prog (.loop (au f223 4)) (eW 3 i64).M (eW 3 i64) (sO 3 i64):=SD qzv
def qzp:ae prog (au f223 1) (eT 3 i64).M (eT 3 i64) (xP 3 i64):=
 dn aH
def qrd:ae prog (.loop (au f223 1)) (eT 3 i64).M (eT 3 i64) (sL 3 i64):=SA qzp
def qzt:ae prog (au f223 3) (eV 3 i64).M (eV 3 i64) (xR 3 i64):=
 dn aH
def qrh:ae prog (.loop (au f223 3)) (eV 3 i64).M (eV 3 i64) (sN 3 i64):=SC qzt
noncomputable def Ma(n:Nat):Cx:=cW [] [] (iS (fG (cx [] []).Γ 236 (pb 3 i64)) (fG (cx [] []).Γ 223 ((iP 3 i64) n)))
def Xs(h:SoundMt prog 223 ((iP 3 i64) n)):CxOK prog (Ma n):=cZ aG trivial trivial (jN (gu aH.ct qxz) (gu aH.ct h))
noncomputable def LL:Nat->St->Option Tr
 |0=>(eS 3 i64).han dB.Γ (eS 3 i64).M (sK 3 i64)
 |1=>(eT 3 i64).han dB.Γ (eT 3 i64).M (sL 3 i64)
 |2=>(eU 3 i64).han dB.Γ (eU 3 i64).M (sM 3 i64)
 |3=>(eV 3 i64).han dB.Γ (eV 3 i64).M (sN 3 i64)
 |_=>(eW 3 i64).han dB.Γ (eW 3 i64).M (sO 3 i64)
def qpe{E:Env}{c:Code}(k:f223.body=U c):bP prog E LL c 0:=by
 have f:(f223.body.map ce)=U 5:=by kernel_rfl
 have b0:f223.body.bind (Go.Ab.loopB · 0)=U (au f223 0):=by kernel_rfl
 have b1:f223.body.bind (Go.Ab.loopB · 1)=U (au f223 1):=by kernel_rfl
 have g:f223.body.bind (Go.Ab.loopB · 2)=U (au f223 2):=by kernel_rfl
 have h:f223.body.bind (Go.Ab.loopB · 3)=U (au f223 3):=by kernel_rfl
 have j:f223.body.bind (Go.Ab.loopB · 4)=U (au f223 4):=by kernel_rfl
 have d:∀ i,i<5->f223.body.bind (Go.Ab.loopB · i)=U (au f223 i):=λi hi=>match i,hi with
  |0,_=>b0
  |1,_=>b1
  |2,_=>g
  |3,_=>h
  |4,_=>j
 rw[k]at f d;simp only[Option.map_some,ucl]at f;simp only[uda]at d;refine jJ c 0 λi l a=>?_;have b:=loopB_lt a;rw[f]at b;have e:=d i b;rw[e]at a;cases a
 match i,b with
 |0,_=>exact ae.han aH rfl qrb
 |1,_=>exact ae.han aH rfl qrd
 |2,_=>exact ae.han aH rfl qrf
 |3,_=>exact ae.han aH rfl qrh
 |4,_=>exact ae.han aH rfl qrj
def qyb(n:Nat)(l:List (i64).den)(x:ag [.d i64,.d i64,.d i64,(aV i64)]):yS prog (Ma n) LL f223 3 i64 [.d i64,.d i64,.d i64,(aV i64)] [] l x=U ((qY 3 i64) n l x):=by kernel_rfl
def VJ:(n:Nat)->SoundMt prog 223 ((iP 3 i64) n)
 |0=>by
  have hf:prog.funcs[223]?= some f223:=by kernel_rfl
  obtain⟨c,hb⟩:∃ c,f223.body=some c:=⟨_,rfl⟩;refine⟨by decide,rfl,rfl,enters hf hb (by kernel_rfl),λw F l xs v vs rows _ _ _ _ _ _ _ hok=>?_⟩;have h:SymOk 0 xs.1 xs.2.1 xs.2.2.1 xs.2.2.2.1 l:=hok;have h1:=h.am;have h2:=h.mb;have h3:=h.size;omega
 |n+1=>by
  refine gW (iq (Xs (VJ n)) (Λ:=LL) (fn:=f223) (fr:=(qY 3 i64) n) (e:=3) (T:=i64) (ps:=[.d i64,.d i64,.d i64,(aV i64)]) (rs:=[]) (0,0,0,(λ_=>(0,()),λ_=>True),()) (by kernel_rfl) rfl rfl
   (λc E hc=>qpe hc) (qyb n)) _ _ λw F l xs vs _ _ _ hok=>?_
  obtain⟨a,m,b,g,rfl⟩:∃ (a m b:Int) (g:(aV i64).den),xs=(a,m,b,g,()):=⟨xs.1,xs.2.1,xs.2.2.1,xs.2.2.2.1,rfl⟩;have h:SymOk (n+1) a m b g l:=hok;have h0:=h.a0;have h1:=h.am;have h2:=h.mb;obtain⟨a',rfl⟩:∃ n:Nat,a=n:=⟨a.toNat,by omega⟩;obtain⟨m',rfl⟩:∃ n:Nat,m=n:=⟨m.toNat,by omega⟩;obtain⟨b',rfl⟩:∃ n:Nat,b=n:=⟨b.toNat,by omega⟩;exact VL n a' m' b' g l h
noncomputable def zL:Cx:=cW [] [] (iS (fG (cx [] []).Γ 222 (kQ 3 i64)) (fG (cx [] []).Γ 223 ((iP 3 i64) big)))
def qk:CxOK prog zL:=cZ aG trivial trivial (jN (gu aH.ct qod) (gu aH.ct (VJ big)))
def qy7:ae prog (au f201 0) (eN 3 i64).M (eN 3 i64) (xG 3 i64):=
 dn qk
def qqr:ae prog (.loop (au f201 0)) (eN 3 i64).M (eN 3 i64) (sF 3 i64):=S4 qy7
noncomputable def Kb:Code:=((Go.Ab.loopB (au f201 1) 0).getD .skip)
def qzj:ae prog Kb (eQ 3 i64).M (eQ 3 i64) (xL 3 i64):=
 dn qk
def qq5:ae prog (.loop Kb) (eQ 3 i64).M (eQ 3 i64) (sI 3 i64):=S7 qzj
noncomputable def WP:Nat->St->Option Tr:=λ_=>(eQ 3 i64).han zL.Γ (eQ 3 i64).M (sI 3 i64)
def qpc{E:Env}:bP prog E WP (au f201 1) 0:=
 kP (b:=Kb) (by kernel_rfl) (by kernel_rfl) (ae.han qk rfl qq5)
def qy5:ae prog (au f201 1) (eM 3 i64).M (eM 3 i64) (xF 3 i64):=
 ae.of_run qk (bs:=0) (Λ:=WP) rfl rfl rfl (λE=>qpc) (λx=>by kernel_rfl)
def qqp:ae prog (.loop (au f201 1)) (eM 3 i64).M (eM 3 i64) (sE 3 i64):=S3 qy5
noncomputable def zdu:Nat->St->Option Tr
 |0=>(eN 3 i64).han zL.Γ (eN 3 i64).M (sF 3 i64)
 |_=>(eM 3 i64).han zL.Γ (eM 3 i64).M (sE 3 i64)
def zao:SoundMt prog 201 (nk 3 i64):=
 gW (iq qk (Λ:=zdu) (fn:=f201) (fr:=(xT 3 i64)) (e:=3) (T:=i64) (ps:=[.d i64,(aV i64)]) (rs:=[]) (0,(λ_=>(0,()),λ_=>True),()) (by kernel_rfl) rfl rfl
  (λc E f=>C8 f (by kernel_rfl) (b0:=au f201 0) (b1:=au f201 1) (by kernel_rfl) (by kernel_rfl) (ae.han qk rfl qqr) (ae.han qk rfl qqp)) (λl x=>by kernel_rfl)) _ _ λ_ _ l xs _ _ a _ b=>Vu l xs a b
noncomputable def Xt:Cx:=cW [] [] (fG (cx [] []).Γ 201 (nk 3 i64))
def Xw:CxOK prog Xt:=cZ aG trivial trivial (gu aH.ct zao)
def zad:SoundMt prog 155 (pd 3 i64):=
 gW (iq Xw (Λ:=bw) (fn:=f155) (fr:=(BZ 3 i64)) (e:=3) (T:=i64) (ps:=[(aV i64)]) (rs:=[]) ((λ_=>(0,()),λ_=>True),()) (by kernel_rfl) rfl rfl
  (λc E _=>aY c 0) (λl x=>by kernel_rfl)) _ _ λ_ _ l xs _ _ a _ b=>Vo l xs a b
noncomputable def Xc:Cx:=cx [(213,wS),(202,ja)] []
def LT:CxOK prog Xc:=aP aG ⟨Sy,JG,uT⟩ trivial
def eY:List Int->Bool
 |a::b::r=>J (a<=b)&&eY (b::r)
 |_=>Z
def Vs:(l:List Int)->(a b:Int)->eY (l++[a,b])=(eY (l++[a])&&J (a<=b))
 |[],a,b=>by simp[eY]
 |[x],a,b=>by simp[eY]
 |x::y::l,a,b=>by
  have:=Vs (y::l) a b;simp only[uc4,eY]at this |-;rw[this,uec]
abbrev mc:Pt:=⟨21,0,⟨[(0,.d aK),(3,.d i64)],[]⟩,⟨[],[]⟩,⟨[(2,.d .bool)],[]⟩⟩
def IB(x:mc.M.X):Fr mc.Out:=
 let a:=x.1.2.1;Jb (J (a>0))
  (Jd (0<=a/\a<x.1.1.length)
   (Jd (0<=I6.wrap (a-1)/\I6.wrap (a-1)<x.1.1.length)
    (Jb (wS.f (x.1.1.getD a.toNat i64.dflt,x.1.1.getD (I6.wrap (a-1)).toNat i64.dflt,())).1
     (Jv (Rd.back ((Y,()),())))
     (Jv (Rd.next ((x.1.1,I6.wrap (a-1),()),()))))))
  (Jv (Rd.out ((),())))
def qzx:ae prog (au f188 0) mc.M mc IB:=
 dn LT
def sU(l:List Int)(i:Int):Prop:=-1<=i/\i<l.length/\(l.length:Int)<=9223372036854775807
def ML(x:mc.M.X):Fr mc.Out:=
 Jd (sU x.1.1 x.1.2.1) (Jb (eY (x.1.1.take (x.1.2.1+1).toNat)) (Jv (Rd.out ((),()))) (Jv (Rd.back ((Y,()),()))))
def zam(l:List Int)(k:Nat)(h:k+1<l.length):eY (l.take (k+2))=(eY (l.take (k+1))&&J (l[k]<=l[k+1])):=by
 have a:=(uat (show k<l.length by omega)).symm;have b:l.take (k+2)=l.take k++[l[k],l[k+1]]:=by
  have c:=(uat h).symm;rw[c,a,ucr];rfl
 rw[b,a,Vs]
def qp6 (l:List Int) (i:Int) (c:sU l i) (Q:mc.Out->Prop)
  (b:(Jb (eY (l.take (i+1).toNat)) (Jv (Rd.out ((),()))) (Jv (Rd.back ((Y,()),()))):Fr mc.Out).satP Q) :
  (IB ((l,i,()),())).satP λ
   |.next d=>sU d.1.1 d.1.2.1/\d.1.2.1.toNat<i.toNat/\(ML d).satP Q
   |.out y=>Q (.out y)
   |.back z=>Q (.back z)
   |.pan p=>Q (.pan p):=by
 obtain⟨u,q,r⟩:=c;refine⟨λhi=>?_,λhi=>?_⟩;have f:i>0:=ucx hi;obtain⟨k,s⟩:∃ k:Nat,i=k+1:=⟨(i-1).toNat,by omega⟩;subst s;have t:I6.wrap ((k:Int)+1-1)=k:=by rw[show(k:Int)+1-1=k by omega];exact IntWalk.i64_in _ (by omega)
 have j:k+1<l.length:=by omega
 have n:l.getD ((k:Int)+1).toNat i64.dflt=l[k+1]:=by
  rw[show((k:Int)+1).toNat=k+1 by omega,uah,uaq j];rfl
 have o:l.getD (k:Int).toNat i64.dflt=l[k]:=by
  rw[show(k:Int).toNat=k by omega,uah,uaq (show k<l.length by omega)];rfl
 have m:((k:Int)+1+1).toNat=k+2:=by omega
 rw[m,zam l k j]at b;dsimp only[IB,Fr.satP];rw[t,n,o];have g:sU l k:=⟨by omega,by omega,r⟩;refine⟨⟨(show(0:Int)<=(k:Int)+1 by omega),q⟩,⟨(show(0:Int)<=(k:Int) by omega),(show(k:Int)<(l.length:Int) by omega)⟩,λe=>?_,λe=>?_⟩;have a:¬ l[k]<=l[k+1]:=by have:=ucx e;exact ufj.2 this
 rw[udv a,ued]at b;exact b.2 rfl;have a:l[k]<=l[k+1]:=by have:=uch e;exact ufk.1 this
 rw[uea a,uem]at b;exact⟨g,by omega,g,by rw[show((k:Int)+1).toNat=k+1 by omega];exact b⟩;have f:¬ i>0:=uch hi;have:eY (l.take (i+1).toNat)=true:=by
  rcases uep (i+1).toNat 1 with h|h
  rw[show(i+1).toNat=0 by omega];rfl;rw[show(i+1).toNat=1 by omega];cases l<;>rfl
 rw[this]at b;exact b.1 rfl
def qrl:ae prog (.loop (au f188 0)) mc.M mc ML:=by
 refine ae.loop qzx (μ:=λx=>x.1.2.1.toNat) ?_ (λx Q h=>h.1);rintro⟨⟨l,i,_⟩,_⟩ a Q b;exact qp6 l i a Q b.2
def G5:Ct:=⟨[.d aK],[.bool],λx=>(eY x.1,()),λ_=>[]⟩
def ql0(x:ag [.d aK]):Fr (aa [.bool]):=
 Jd (sU x.1 (I6.wrap (x.1.length-1))) (Jb (eY (x.1.take (I6.wrap (x.1.length-1)+1).toNat)) (Jv (Z,())) (Jv (Y,())))
def zaf:af prog 188 G5:=
 conv (cS LT qrl (fr:=ql0)) _ _ λw F xs vs c _=>by
  obtain⟨l,_⟩:=xs;obtain⟨v,g,rfl,e,_⟩:=c;have b:=aA.wf e.2.2;have a:=b.1;have f:I6.wrap ((l.length:Int)-1)=l.length-1:=IntWalk.i64_in _ (by simp only[maxLen]at a;omega);have d:l.take ((l.length:Int)-1+1).toNat=l:=ua3 (by omega);refine⟨⟨?_,λ_=>uT,λ_=>uT⟩,?_⟩;show sU l (I6.wrap ((l.length:Int)-1));simp only[maxLen]at a;exact⟨by omega,by omega,by omega⟩;show(if eY (l.take (I6.wrap ((l.length:Int)-1)+1).toNat)=Z then (Z,())else (Y,()))=(eY l,());rw[f,d];cases eY l<;>rfl
noncomputable def Xd:Cx:=cx [(188,G5),(202,ja)] []
def LU:CxOK prog Xd:=aP aG ⟨zaf,JG,uT⟩ trivial
def QC(x:ag [.d ak]):Fr (aa [.bool]):=
 let b:=(Y,());let a:=x.1.2;Jb (bif J (x.1.1>=0)then J (x.1.1<8)else Y) (Jb (bif J (a.2.2.2.1>=1)then J (a.2.2.2.1<=10000)else Y) (Jb (G5.f ([0,a.2.2.1,I6.wrap (a.1-1),I6.wrap (a.2.1-1),999999999999999],())).1 (Jv (J (a.2.2.1<a.1),())) (Jv b)) (Jv b)) (Jv b)
def qll:af prog 136 (bg [.d ak] [.bool] QC):=
 aS LU f136
def QB(x:ag [.d i64,.d i64]):Fr (aa [i64]):=
 let a:=ja.f (x.2.1,());Jb (ja.f (x.1,())).1 (Jb a.1 (Jv (0,())) (Jv (-1,()))) (Jb a.1 (Jv (1,())) (Jb (J (x.1<x.2.1)) (Jv (-1,())) (Jb (J (x.1>x.2.1)) (Jv (1,())) (Jv (0,())))))
def qlk:af prog 157 (bg [.d i64,.d i64] [i64] QB):=
 aS LU f157
def QE(x:ag [.d cn,.d i64]):Fr (aa [.bool]):=
 Jv (bif J (x.2.1>=(tu.f ((x.1.1,x.1.2.1,()),())).1.1)then J (x.2.1<(tu.f ((x.1.1,x.1.2.1,()),())).1.2.1)else Y,())
def qlr:af prog 140 (bg [.d cn,.d i64] [.bool] QE):=
 aS LR f140
def QG(x:ag [.d cn]):Fr (aa [i64]):=
 Jv (I6.wrap ((tu.f ((x.1.1,x.1.2.1,()),())).1.2.1-(tu.f ((x.1.1,x.1.2.1,()),())).1.1),())
def qlu:af prog 102 (bg [.d cn] [i64] QG):=
 aS LR f102
def Rz{n:Int}(h:Wf i64 n): -9223372036854775808<=n/\n<=9223372036854775807:=h
def WA{n:Int}(h : -9223372036854775808<=n/\n<=9223372036854775807):(n=-9223372036854775808/\I6.wrap (n-1)=9223372036854775807)\/(-9223372036854775808<n/\I6.wrap (n-1)=n-1):=by
 by_cases a:n=-9223372036854775808;left;subst a;exact⟨rfl,by kernel_rfl⟩;right;exact⟨by omega,cz (by omega)⟩
def qel(p l g d s:Int)(n : -9223372036854775808<=l/\l<=9223372036854775807)(m : -9223372036854775808<=g/\g<=9223372036854775807):
  (eY [0,d,I6.wrap (l-1),I6.wrap (g-1),999999999999999]&&J (d<l))=J (0<=d/\d<l/\l<=g/\g<=1000000000000000):=by
 rw[udx];simp only[eY,udc,ucu];rcases WA n with ⟨j,c⟩|⟨j,c⟩<;>rcases WA m with ⟨k,e⟩|⟨k,e⟩<;>rw[c,e]
 omega;omega;omega;constructor;rintro⟨⟨a,b,f,h,_⟩,i⟩;exact⟨a,i,by omega,by omega⟩;rintro⟨a,b,f,h⟩;exact⟨⟨a,by omega,by omega,by omega,uT⟩,b⟩
def xn:af prog 136 j6:=
 conv qll _ _ (λw F x vs q _=>by
  obtain⟨⟨p,l,g,d,s,_⟩,_⟩:=x;obtain⟨v,t,rfl,r,_⟩:=q;have e:=aA.wf r.2.2;refine⟨by simp[av,Fr.ok,QC],?_⟩;have o:=qel p l g d s (Rz e.2.1) (Rz e.2.2.1);show(if (bif J (p>=0)then J (p<8)else Y)=Z then (if (bif J (s>=1)then J (s<=10000)else Y)=Z then (if eY [0,d,I6.wrap (l-1),I6.wrap (g-1),999999999999999]=Z then (J (d<l),())else (Y,()))else (Y,()))else (Y,()))=(o7 p l g d s,());have m:(if eY [0,d,I6.wrap (l-1),I6.wrap (g-1),999999999999999]=Z then ((J (d<l),()):Bool×Unit)else (Y,()))=(J (0<=d/\d<l/\l<=g/\g<=1000000000000000),()):=by
   rw[<- o];cases eY [0,d,I6.wrap (l-1),I6.wrap (g-1),999999999999999]<;>rfl
  rw[m];have n:∀ (a b c:Bool),(if a=Z then (if b=Z then ((c,()):Bool×Unit)else (Y,()))else (Y,()))=(a&&(b&&c),()):=λa b c=>by cases a<;>cases b<;>rfl
  rw[n];congr 1;rw[udx];simp only[o7,ubb,udc,ucu];exact⟨λ⟨⟨f,h⟩,⟨i,j⟩,k⟩=>⟨f,h,i,j,k⟩,λ⟨f,h,i,j,k⟩=>⟨⟨f,h⟩,⟨i,j⟩,k⟩⟩)
def l5(a b:Int):Int:=if a<b then -1 else if b<a then 1 else 0
def mC:Ct:=⟨[.d i64,.d i64],[i64],λx=>(l5 x.1 x.2.1,()),λ_=>[]⟩
def Be:af prog 157 mC:=
 conv qlk _ _ (λ_ _ x _ _ _=>by
  obtain⟨a,b,_⟩:=x;refine⟨by simp[av,Fr.ok,QB],?_⟩;show(if J (a<b)=Z then ((-1:Int),())else if J (a>b)=Z then (1,())else (0,()))=(if a<b then -1 else if b<a then 1 else 0,());by_cases c:a<b;rw[ufv (uea c),ufv c];rw[ufw (by simp[c]),ufw c];by_cases d:b<a;rw[ufv (uea d),ufv d];rw[ufw (by simpa using d),ufw d])
def qno(a b d:Int):(bif J (d>=(rn (a,b,())).1)then J (d<(rn (a,b,())).2.1)else Y)=gr a b d:=by
 unfold rn;by_cases h:dN (a,b,())=Z;rw[ufv h];obtain⟨j,o,k⟩:=nc.1 h;simp only[ubb,gr];rw[udx];simp only[udc,ucu,Ty.den,PT.den];constructor;rintro⟨c,e⟩;exact⟨j,k,c,e⟩;rintro⟨_,_,c,e⟩;exact⟨c,e⟩;rw[ufw h];have i:¬ (1<=a/\a<b/\b<=292195):=λl=>h (nc.2 l);simp only[ubb,gr];rw[udx];simp only[udc,ucu];constructor;rintro⟨c,e⟩;have f:(0:Int)<=d:=c;have g:d<(0:Int):=e;omega;rintro⟨c,e,m,n⟩;exact absurd ⟨c,by omega,e⟩ i
def oT:af prog 140 fM:=
 conv qlr _ _ (λ_ _ x _ _ _=>by
  obtain⟨⟨a,b,_⟩,d,_⟩:=x;refine⟨by simp[av,Fr.ok,QE],?_⟩;exact uft (·,()) (qno a b d))
def ry(a b:Int):Int:=if dN (a,b,())=Z then b-a else 0
def tv:Ct:=⟨[.d cn],[i64],λx=>(ry x.1.1 x.1.2.1,()),λ_=>[]⟩
def SK:af prog 102 tv:=
 conv qlu _ _ (λ_ _ x _ _ _=>by
  obtain⟨⟨a,b,_⟩,_⟩:=x;refine⟨by simp[av,Fr.ok,QG],?_⟩;show(I6.wrap ((rn (a,b,())).2.1-(rn (a,b,())).1),())=(ry a b,());unfold rn ry;by_cases h:dN (a,b,())=Z;rw[ufv h,ufv h];obtain⟨d,e,f⟩:=nc.1 h;have c:I6.wrap (b-a)=b-a:=cz (by omega);exact uft (·,()) c;rw[ufw h,ufw h];rfl)
abbrev cY:Ty:=.pair i64 (.pair i64 .unit)
noncomputable def Xe:Cx:=cx [(136,j6)] []
def s7:CxOK prog Xe:=aP aG ⟨xn,uT⟩ trivial
abbrev lR:Pt:=⟨26,0,⟨[(14,.d i64),(13,.d i64),(12,.d (.sl ak)),(1,.d (.sl ak))],[]⟩,⟨[],[]⟩,⟨[(4,.d .bool)],[]⟩⟩
abbrev sf:Type:=ag [.d (.sl ak)]×cR []
def zk(e:(ak.den×ak.den))(s:sf):Fr (sf ⊕ lR.R.X):=
 Jb (!(e.1.1==e.2.1&&(e.1.2.1==e.2.2.1&&(e.1.2.2.1==e.2.2.2.1&&(e.1.2.2.2.1==e.2.2.2.2.1&&(e.1.2.2.2.2.1==e.2.2.2.2.2.1&&Z)))))) (Jv (.inr ((Y,()),()))) (Jv (.inl ((s.1.1,()),())))
def pQ(x:lR.M.X):Int×List (ak.den×ak.den)×sf:=(x.1.1,x.1.2.2.1.zip x.1.2.2.2.1,x.1.2.2.2,x.2)
def Rb(x:lR.M.X):Prop:=x.1.2.1=(x.1.2.2.1.length:Int)/\x.1.2.2.1.length=x.1.2.2.2.1.length
def qvk(s:sf):lR.E.X:=((),())
def qez:sf:=(aW _,bN _)
def Ho:lR.R.X:=(aW _,bN _)
def qrs:ae prog (.loop (au f192 0)) lR.M lR (FL zk pQ Rb qvk Rd.back qez Ho):=
 zdl s7 (λ_ _=>.n (.z .o)) ak.dflt ak.dflt (λx=>x.1.2.2.1) (λx=>x.1.2.2.2.1) (λx=>x.1.2.1) (λx s=>((I6.wrap (x.1.1+1),x.1.2.1,x.1.2.2.1,s.1),s.2)) (λ_ h=>h)
def D1(y:lR.M.X):sf ⊕ lR.R.X:=dt zk ((pQ y).2.1.drop (pQ y).1.toNat) (pQ y).2.2
def quy(y:lR.M.X):Prop:=jo zk ((pQ y).2.1.drop (pQ y).1.toNat) (pQ y).2.2
abbrev jp:Pt:=⟨32,0,⟨[(8,.d i64),(7,.d i64),(6,.d (.sl ak)),(0,.d (.sl ak)),(3,.d i64)],[]⟩,⟨[(0,.d (.sl ak))],[]⟩,⟨[(2,.d .bool)],[]⟩⟩
abbrev fH:Type:=ag [.d (.sl ak),.d i64]×cR []
def zt(e:ak.den)(s:fH):Fr (fH ⊕ jp.R.X):=
 Jb (bif J (e.1<=s.1.2.1)then Z else !(j6.f ((e.1,e.2.1,e.2.2.1,e.2.2.2.1,e.2.2.2.2.1,()),())).1) (Jv (.inr ((Y,()),()))) (Jv (.inl ((s.1.1,e.1,()),())))
def pY(x:jp.M.X):Int×List ak.den×fH:=(x.1.1,x.1.2.2.1,x.1.2.2.2,x.2)
def Rm(x:jp.M.X):Prop:=x.1.2.1=(x.1.2.2.1.length:Int)
def rB(s:fH):jp.E.X:=((s.1.1,()),())
def qL:fH:=(aW _,bN _)
def Hv:jp.R.X:=(aW _,bN _)
def qta:ae prog (.loop (au f106 0)) jp.M jp (FL zt pY Rm rB Rd.back qL Hv):=
 qf s7 (λ_ _=>.n .o) ak.dflt (λx=>x.1.2.1) (λx s=>((I6.wrap (x.1.1+1),x.1.2.1,x.1.2.2.1,s.1),s.2)) (λ_ h=>h)
def vM(y:jp.M.X):fH ⊕ jp.R.X:=dt zt ((pY y).2.1.drop (pY y).1.toNat) (pY y).2.2
def qu5(y:jp.M.X):Prop:=jo zt ((pY y).2.1.drop (pY y).1.toNat) (pY y).2.2
abbrev jR:Pt:=⟨37,0,⟨[(8,.d i64),(7,.d i64),(6,.d (.sl cY)),(0,.d (.sl cY)),(3,.d i64)],[]⟩,⟨[(0,.d (.sl cY))],[]⟩,⟨[(2,.d .bool)],[]⟩⟩
abbrev gL:Type:=ag [.d (.sl cY),.d i64]×cR []
def zp(e:cY.den)(s:gL):Fr (gL ⊕ jR.R.X):=
 Jb (bif bif bif J (e.1<=s.1.2.1)then Z else J (e.1>200)then Z else J (e.2.1<0)then Z else J (e.2.1>100000)) (Jv (.inr ((Y,()),()))) (Jv (.inl ((s.1.1,e.1,()),())))
def pU(x:jR.M.X):Int×List cY.den×gL:=(x.1.1,x.1.2.2.1,x.1.2.2.2,x.2)
def Ri(x:jR.M.X):Prop:=x.1.2.1=(x.1.2.2.1.length:Int)
def yv(s:gL):jR.E.X:=((s.1.1,()),())
def xo:gL:=(aW _,bN _)
def Hs:jR.R.X:=(aW _,bN _)
def qs0:ae prog (.loop (au f215 0)) jR.M jR (FL zp pU Ri yv Rd.back xo Hs):=
 qf s7 (λ_ _=>.n .o) cY.dflt (λx=>x.1.2.1) (λx s=>((I6.wrap (x.1.1+1),x.1.2.1,x.1.2.2.1,s.1),s.2)) (λ_ h=>h)
def yN(y:jR.M.X):gL ⊕ jR.R.X:=dt zp ((pU y).2.1.drop (pU y).1.toNat) (pU y).2.2
def qu1(y:jR.M.X):Prop:=jo zp ((pU y).2.1.drop (pU y).1.toNat) (pU y).2.2
def qib(x:ag [.d (.sl ak),.d (.sl ak)]):Fr (aa [.bool]):=
 let a:=((0,((List.length x.1):Int),x.1,x.2.1,()),());let b:=D1 a;Jb (((List.length x.1):Int) != ((List.length x.2.1):Int)) (Jv (Y,())) (Jd (InL (Rb a) (pQ a)) (Jd (quy a) (Jb (dF b) (Jv (Z,())) (Jv ((zej Ho b).1.1,())))))
def qic:af prog 192 (bg [.d (.sl ak),.d (.sl ak)] [.bool] qib):=
 cS s7 qrs
def qkd(x:ag [.d (.sl ak)]):Fr (aa [.bool]):=
 let a:=((0,((List.length x.1):Int),x.1,x.1,-1,()),());let c:=vM a;let b:=((List.length (rB (dO qL c)).1.1):Int);Jd (InL (Rm a) (pY a)) (Jd (qu5 a) (Jb (dF c) (Jv (bif J (b>=1)then J (b<=8)else Y,())) (Jv ((zej Hv c).1.1,()))))
def qke:af prog 106 (bg [.d (.sl ak)] [.bool] qkd):=
 cS s7 qta
def qj1(x:ag [.d (.sl cY)]):Fr (aa [.bool]):=
 let a:=((0,((List.length x.1):Int),x.1,x.1,-1,()),());let b:=yN a;Jd (InL (Ri a) (pU a)) (Jd (qu1 a) (Jb (dF b) (Jv (J (((List.length (yv (dO xo b)).1.1):Int)<=100),())) (Jv ((zej Hs b).1.1,()))))
def qj2:af prog 215 (bg [.d (.sl cY)] [.bool] qj1):=
 cS s7 qs0
def uB{l:List T}(h:l.length<=maxLen):(l.length:Int)<=9223372036854775807:=by
 simp only[maxLen]at h;omega
def mv{t:Ty}{l:List t.den}(h:Fg prog w F (.d (.sl t)) l v):(l.length:Int)<=9223372036854775807:=uB (aA.wf (t:=.sl t) h.2.2).1
def kG(l:List Int):Bool:=l.all λn=>J (0<=n/\n<=100000)
def wQ:Ct:=⟨[.d aK],[.bool],λx=>(kG x.1,()),λ_=>[]⟩
def mA(p:T->σ->Bool)(f:T->σ->σ):List T->σ->Bool
 |[],_=>Z
 |e::r,s=>p e s&&mA p f r (f e s)
def gm(f:T->σ->σ):List T->σ->σ
 |[],s=>s
 |e::r,s=>gm f r (f e s)
def qt{step:T->σ->Fr (σ ⊕ ρ)}{p:T->σ->Bool}{f:T->σ->σ}{c:ρ}(h:∀ e s,(step e s).get=if p e s=Z then .inl (f e s)else .inr c):
  (l:List T)->(s:σ)->dt step l s=if mA p f l s=Z then .inl (gm f l s)else .inr c
 |[],s=>rfl
 |e::r,s=>by
  simp only[dt,mA,gm];by_cases b:p e s=Z;have a:=h e s;rw[ufv b]at a;simp only[a,b,uel];exact qt h r (f e s);have a:=h e s;rw[ufw b]at a;have d:p e s=false:=by simpa using b
  simp only[a,d,Bool.false_and];rfl
def l6(c:ak.den):Bool:=o7 c.1 c.2.1 c.2.2.1 c.2.2.2.1 c.2.2.2.2.1
def wH:List ak.den->Int->Bool
 |[],_=>Z
 |c::r,last=>(J (last<c.1)&&l6 c)&&wH r c.1
def l7(l:List ak.den):Bool:=J (1<=l.length/\l.length<=8)&&wH l (-1)
def wP:Ct:=⟨[.d (.sl ak)],[.bool],λx=>(l7 x.1,()),λ_=>[]⟩
def zbv(e:ak.den)(s:fH):(zt e s).get=if (J (s.1.2.1<e.1)&&l6 e)=Z then .inl ((s.1.1,e.1,()),())else .inr ((Y,()),()):=by
 show(if (bif J (e.1<=s.1.2.1)then Z else !(l6 e))=Z then _ else _)=_;have a:(bif J (e.1<=s.1.2.1)then Z else !(l6 e))=!(J (s.1.2.1<e.1)&&l6 e):=by
  have:J (e.1<=s.1.2.1)=!J (s.1.2.1<e.1):=by
   rw[udx];simp only[ucv,ucu,uav];exact ufk.symm
  rw[this];cases J (s.1.2.1<e.1)<;>cases l6 e<;>rfl
 rw[a];cases (J (s.1.2.1<e.1)&&l6 e)<;>rfl
def zbt(l b:List ak.den)(last:Int):mA (λ(e:ak.den) (s:fH)=>J (s.1.2.1<e.1)&&l6 e) (λe s=>((s.1.1,e.1,()),())) l ((b,last,()),())=wH l last:=by
 induction l generalizing last with
 |nil=>rfl
 |cons c r a=>
  show((J (last<c.1)&&l6 c)&&_)=((J (last<c.1)&&l6 c)&&_);rw[a]
def zbu(l a:List ak.den)(last:Int):(gm (λ(e:ak.den) (s:fH)=>(((s.1.1,e.1,()),()):fH)) l ((a,last,()),())).1.1=a:=by
 induction l generalizing last with
 |nil=>rfl
 |cons c r b=>exact b c.1
def qqe(n:Nat):(bif J ((n:Int)>=1)then J ((n:Int)<=8)else Y)=J (1<=n/\n<=8):=by
 rw[udx];simp only[ubb,udc,ucu];omega
def VS:af prog 106 wP:=
 conv qke _ _ (λw F x vs f _=>by
  obtain⟨l,_⟩:=x;obtain⟨v,h,rfl,g,_⟩:=f;have c:=mv g;refine⟨⟨⟨rfl,ufa _,ub4 _,c⟩,ph (step:=zt) (λe s=>⟨λ_=>uT,λ_=>uT⟩) _ _,λ_=>uT,λ_=>uT⟩,?_⟩;have a:=qt zbv l ((l,-1,()),());rw[zbt]at a;have b:vM ((0,(l.length:Int),l,l,-1,()),())=if wH l (-1)=Z then .inl _ else .inr _:=a
  show(if dF (vM ((0,(l.length:Int),l,l,-1,()),()))=Z then ((bif J (((rB (dO qL (vM ((0,(l.length:Int),l,l,-1,()),())))).1.1.length:Int)>=1)then J (((rB (dO qL (vM ((0,(l.length:Int),l,l,-1,()),())))).1.1.length:Int)<=8)else Y,()):Bool×Unit)else ((zej Hv (vM ((0,(l.length:Int),l,l,-1,()),()))).1.1,()))=(l7 l,());rw[b];unfold l7;cases wH l (-1)with
  |true=>
   have d:(rB (dO qL (Sum.inl (gm (λ(e:ak.den) (s:fH)=>(((s.1.1,e.1,()),()):fH)) l ((l,-1,()),())):fH ⊕ jp.R.X))).1.1=l:=zbu l l (-1);show((bif J (((rB (dO qL (Sum.inl (gm (λ(e:ak.den) (s:fH)=>(((s.1.1,e.1,()),()):fH)) l ((l,-1,()),())):fH ⊕ jp.R.X))).1.1.length:Int)>=1)then J (((rB (dO qL (Sum.inl (gm (λ(e:ak.den) (s:fH)=>(((s.1.1,e.1,()),()):fH)) l ((l,-1,()),())):fH ⊕ jp.R.X))).1.1.length:Int)<=8)else Y,()):Bool×Unit)=_;rw[d];exact uft (·,()) ((qqe l.length).trans (uem _).symm)
  |false=>
   rw[ued];rfl)
def oa(u b:Int):Bool:=J (u<=200/\0<=b/\b<=100000)
def wG:List cY.den->Int->Bool
 |[],_=>Z
 |c::r,last=>(J (last<c.1)&&oa c.1 c.2.1)&&wG r c.1
def wJ(l:List cY.den):Bool:=J (l.length<=100)&&wG l (-1)
def Au:Ct:=⟨[.d (.sl cY)],[.bool],λx=>(wJ x.1,()),λ_=>[]⟩
def qbd(u b last:Int):(bif bif bif J (u<=last)then Z else J (u>200)then Z else J (b<0)then Z else J (b>100000))=!(J (last<u)&&oa u b):=by
 rw[udx];simp only[oa,uby,udt,ucv,Bool.and_eq_false_iff,ucu,uav];omega
def qw3(e:cY.den)(s:gL):(zp e s).get=if (J (s.1.2.1<e.1)&&oa e.1 e.2.1)=Z then .inl ((s.1.1,e.1,()),())else .inr ((Y,()),()):=by
 show(if (bif bif bif J (e.1<=s.1.2.1)then Z else J (e.1>200)then Z else J (e.2.1<0)then Z else J (e.2.1>100000))=Z then _ else _)=_;have a:=qbd e.1 e.2.1 s.1.2.1;rw[a];cases (J (s.1.2.1<e.1)&&oa e.1 e.2.1)<;>rfl
def qw1(l b:List cY.den)(last:Int):mA (λ(e:cY.den) (s:gL)=>J (s.1.2.1<e.1)&&oa e.1 e.2.1) (λe s=>((s.1.1,e.1,()),())) l ((b,last,()),())=wG l last:=by
 induction l generalizing last with
 |nil=>rfl
 |cons c r a=>
  show((J (last<c.1)&&oa c.1 c.2.1)&&_)=((J (last<c.1)&&oa c.1 c.2.1)&&_);rw[a]
def qw2(l a:List cY.den)(last:Int):(gm (λ(e:cY.den) (s:gL)=>(((s.1.1,e.1,()),()):gL)) l ((a,last,()),())).1.1=a:=by
 induction l generalizing last with
 |nil=>rfl
 |cons c r b=>exact b c.1
def qqf(n:Nat):J ((n:Int)<=100)=J (n<=100):=by
 rw[udx];simp only[ucu];omega
def NP:af prog 215 Au:=
 conv qj2 _ _ (λw F x vs f _=>by
  obtain⟨l,_⟩:=x;obtain⟨v,h,rfl,g,_⟩:=f;have c:=mv g;refine⟨⟨⟨rfl,ufa _,ub4 _,c⟩,ph (step:=zp) (λe s=>⟨λ_=>uT,λ_=>uT⟩) _ _,λ_=>uT,λ_=>uT⟩,?_⟩;have a:=qt qw3 l ((l,-1,()),());rw[qw1]at a;have b:yN ((0,(l.length:Int),l,l,-1,()),())=if wG l (-1)=Z then .inl _ else .inr _:=a
  show(if dF (yN ((0,(l.length:Int),l,l,-1,()),()))=Z then ((J (((yv (dO xo (yN ((0,(l.length:Int),l,l,-1,()),())))).1.1.length:Int)<=100),()):Bool×Unit)else ((zej Hs (yN ((0,(l.length:Int),l,l,-1,()),()))).1.1,()))=(wJ l,());rw[b];unfold wJ;cases wG l (-1)with
  |true=>
   have d:(yv (dO xo (Sum.inl (gm (λ(e:cY.den) (s:gL)=>(((s.1.1,e.1,()),()):gL)) l ((l,-1,()),())):gL ⊕ jR.R.X))).1.1=l:=qw2 l l (-1);show((J (((yv (dO xo (Sum.inl (gm (λ(e:cY.den) (s:gL)=>(((s.1.1,e.1,()),()):gL)) l ((l,-1,()),())):gL ⊕ jR.R.X))).1.1.length:Int)<=100),()):Bool×Unit)=_;rw[d];exact uft (·,()) ((qqf l.length).trans (uem _).symm)
  |false=>
   rw[ued];rfl)
def qH(a b:ak.den):Bool:=(a.1==b.1&&(a.2.1==b.2.1&&(a.2.2.1==b.2.2.1&&(a.2.2.2.1==b.2.2.2.1&&(a.2.2.2.2.1==b.2.2.2.2.1&&Z)))))
def qek{a b:ak.den}:qH a b=Z↔a=b:=by
 obtain⟨c,d,e,f,g,_⟩:=a;obtain⟨b1,h,i,j,k,_⟩:=b;simp only[qH,udc,ufh,ueg]
def gy:List ak.den->List ak.den->Bool
 |[],[]=>Z
 |a::l,b::m=>qH a b&&gy l m
 |_,_=>Y
def KI:{l m:List ak.den}->(gy l m=Z↔l=m)
 |[],[]=>by simp[gy]
 |[],b::m=>by simp[gy]
 |a::l,[]=>by simp[gy]
 |a::l,b::m=>by
  simp only[gy,udc,udq];rw[qek,KI]
def wV:Ct:=⟨[.d (.sl ak),.d (.sl ak)],[.bool],λx=>(gy x.1 x.2.1,()),λ_=>[]⟩
def Va:{l m:List ak.den}->l.length=m.length->gy l m=(l.zip m).all λe=>qH e.1 e.2
 |[],[],_=>rfl
 |[],b::m,h=>by cases h
 |a::l,[],h=>by cases h
 |a::l,b::m,h=>by
  simp only[gy,List.zip_cons_cons,uej];rw[Va (by simpa using h)]
def qyh:{l m:List ak.den}->l.length≠m.length->gy l m=false:=λh=>by
 cases a:gy _ _ with
 |true=>exact absurd (uft List.length (KI.1 a)) h
 |false=>rfl
def Fq(p:T->Bool)(l:List T)(s:σ):mA (λe _=>p e) (λ_ s=>s) l s=l.all p:=by
 induction l with
 |nil=>rfl
 |cons e r a=>simp only[mA,uej];rw[a]
def qak(e:ak.den×ak.den)(s:sf):(zk e s).get=if qH e.1 e.2=Z then .inl s else .inr ((Y,()),()):=by
 show(if (!(qH e.1 e.2))=Z then _ else _)=_;cases qH e.1 e.2<;>rfl
def qqg(a b:Nat):((a:Int) != (b:Int))=!J (a=b):=by
 rw[udx];simp;omega
def qal:af prog 192 wV:=
 conv qic _ _ (λw F x vs j _=>by
  obtain⟨l,m,_⟩:=x;obtain⟨v,o,rfl,k,_⟩:=j;have h:(l.length:Int)<=9223372036854775807:=mv k;have g:=qqg l.length m.length;by_cases b:l.length=m.length;have a:((l.length:Int) != (m.length:Int))=false:=by rw[g,uea b];rfl
  have n:((l.zip m).length:Int)<=9223372036854775807:=by
   rw[udy];omega
  refine⟨⟨λ_=>uT,λ_=>⟨⟨⟨rfl,b⟩,ufa _,ub4 _,n⟩,ph (step:=zk) (λe s=>⟨λ_=>uT,λ_=>uT⟩) _ _,λ_=>uT,λ_=>uT⟩⟩,?_⟩;have c:=qt qak (l.zip m) ((m,()),());rw[Fq,<- Va b]at c;have d:D1 ((0,(l.length:Int),l,m,()),())=if gy l m=Z then .inl _ else .inr _:=c
  show(if ((l.length:Int) != (m.length:Int))=Z then ((Y,()):Bool×Unit)else if dF (D1 ((0,(l.length:Int),l,m,()),()))=Z then (Z,())else ((zej Ho (D1 ((0,(l.length:Int),l,m,()),()))).1.1,()))=(gy l m,());rw[d,a];cases gy l m<;>rfl
  have a:((l.length:Int) != (m.length:Int))=true:=by rw[g,udv b];rfl
  refine⟨⟨λ_=>uT,λi=>(by have f:((l.length:Int) != (m.length:Int))=false:=i;rw[a]at f;cases f)⟩,?_⟩;show(if ((l.length:Int) != (m.length:Int))=Z then ((Y,()):Bool×Unit)else _)=(gy l m,());rw[a,qyh b];rfl)
abbrev dm:Ty:=.pair cn (.pair dG (.pair (.sl ak) .unit))
abbrev az:Ty:=.pair i64 (.pair i64 (.pair i64 (.pair dG (.pair (.sl ak) (.pair i64 .unit)))))
abbrev aC:Ty:=.pair i64 (.pair i64 (.pair dm (.pair (.sl az) .unit)))
abbrev qk0:Ty:=.pair i64 (.pair i64 (.pair i64 (.pair i64 .unit)))
abbrev aQ:Ty:=.pair i64 (.pair qk0 (.pair (.sl cY) (.pair aK (.pair aK (.pair i64 .unit)))))
abbrev zll:Ty:=.pair (.sl aQ) .unit
noncomputable def Xf:Cx:=cx [(104,oy),(215,Au),(106,wP),(192,wV),(140,fM)] []
def ww:CxOK prog Xf:=aP aG ⟨K2,NP,VS,qal,oT,uT⟩ trivial
def Qb(x:ag [.d az]):Fr (aa [.bool]):=
 let a:=x.1.2.2.2;Jv (bif bif (oy.f ((a.1.1,a.1.2.1,a.1.2.2.1,a.1.2.2.2.1,()),())).1 then ((List.length a.2.1):Int)==0 else Y then a.2.2.1==0 else Y,())
def qij:af prog 160 (bg [.d az] [.bool] Qb):=
 aS ww f160
def Qc(x:ag [.d az]):Fr (aa [.bool]):=
 let a:=x.1.2.2.2;Jv (bif bif (wP.f (a.2.1,())).1 then a.1.1==0&&(a.1.2.1==0&&(a.1.2.2.1==0&&(a.1.2.2.2.1==0&&Z)))else Y then a.2.2.1==0 else Y,())
def qik:af prog 161 (bg [.d az] [.bool] Qc):=
 aS ww f161
def Qd(x:ag [.d az]):Fr (aa [.bool]):=
 let a:=x.1.2.2.2;Jv (bif bif bif a.2.2.1==0 then Z else a.2.2.1==1 then ((List.length a.2.1):Int)==0 else Y then a.1.1==0&&(a.1.2.1==0&&(a.1.2.2.1==0&&(a.1.2.2.2.1==0&&Z)))else Y,())
def qil:af prog 162 (bg [.d az] [.bool] Qd):=
 aS ww f162
def Qe(x:ag [.d az]):Fr (aa [.bool]):=
 let a:=x.1.2.2.2;Jv (bif bif a.2.2.1==0 then ((List.length a.2.1):Int)==0 else Y then a.1.1==0&&(a.1.2.1==0&&(a.1.2.2.1==0&&(a.1.2.2.2.1==0&&Z)))else Y,())
def qim:af prog 163 (bg [.d az] [.bool] Qe):=
 aS ww f163
def qi1(x:ag [.d aB,.d aB]):Fr (aa [.bool]):=
 let b:=x.1.2.2;let a:=x.2.1.2.2;Jv (bif bif x.1.2.1==x.2.1.2.1 then b.1.1==a.1.1&&(b.1.2.1==a.1.2.1&&(b.1.2.2.1==a.1.2.2.1&&(b.1.2.2.2.1==a.1.2.2.2.1&&Z)))else Y then (wV.f (b.2.1,a.2.1,())).1 else Y,())
def qi2:af prog 144 (bg [.d aB,.d aB] [.bool] qi1):=
 aS ww f144
def GY(c:az.den):Bool:=(Qb (c,())).get.1
def GZ(c:az.den):Bool:=(Qc (c,())).get.1
def Ha(c:az.den):Bool:=(Qd (c,())).get.1
def Hb(c:az.den):Bool:=(Qe (c,())).get.1
def Gb:Ct:=⟨[.d az],[.bool],λx=>(GY x.1,()),λ_=>[]⟩
def Gc:Ct:=⟨[.d az],[.bool],λx=>(GZ x.1,()),λ_=>[]⟩
def Gd:Ct:=⟨[.d az],[.bool],λx=>(Ha x.1,()),λ_=>[]⟩
def Ge:Ct:=⟨[.d az],[.bool],λx=>(Hb x.1,()),λ_=>[]⟩
def qdh:af prog 160 Gb:=conv qij _ _ (λ_ _ _ _ _ _=>⟨uT,rfl⟩)
def qdi:af prog 161 Gc:=conv qik _ _ (λ_ _ _ _ _ _=>⟨uT,rfl⟩)
def qdj:af prog 162 Gd:=conv qil _ _ (λ_ _ _ _ _ _=>⟨uT,rfl⟩)
def qdk:af prog 163 Ge:=conv qim _ _ (λ_ _ _ _ _ _=>⟨uT,rfl⟩)
def Jp(c:az.den):Bool:=if c.2.2.1=1 then GY c else if c.2.2.1=2 then GZ c else if c.2.2.1=3 then Ha c else if c.2.2.1=4 then Hb c else Y
def gl(c:az.den):Bool:=g8 c.1&&(g8 c.2.1&&Jp c)
def ou:Ct:=⟨[.d az],[.bool],λx=>(gl x.1,()),λ_=>[]⟩
def ju(t:dm.den):Bool:=dN t.1&&(J (t.1.2.1-t.1.1<=1100)&&(n8 t.2.1.1 t.2.1.2.1 t.2.1.2.2.1 t.2.1.2.2.2.1&&l7 t.2.2.1))
def q9:Ct:=⟨[.d dm],[.bool],λx=>(ju x.1,()),λ_=>[]⟩
def yP(a b:dG.den):Bool:=(a.1==b.1&&(a.2.1==b.2.1&&(a.2.2.1==b.2.2.1&&(a.2.2.2.1==b.2.2.2.1&&Z))))
def ni(a b:aB.den):Bool:=(a.2.1==b.2.1)&&(yP a.2.2.1 b.2.2.1&&gy a.2.2.2.1 b.2.2.2.1)
def A7:Ct:=⟨[.d aB,.d aB],[.bool],λx=>(ni x.1 x.2.1,()),λ_=>[]⟩
def Rx:af prog 144 A7:=conv qi2 _ _ (λ_ _ x _ _ _=>by
 obtain⟨a,b,_⟩:=x;exact⟨uT,uft (·,()) (Lr (a.2.1==b.2.1) (yP a.2.2.1 b.2.2.1) (gy a.2.2.2.1 b.2.2.2.1))⟩)
def kr(h:aC.den)(i:Int):Int:=(h.2.2.2.1.getD i.toNat az.dflt).2.1
abbrev aL(h:aC.den):List az.den:=h.2.2.2.1
noncomputable def XF:Cx:=cx [(157,mC)] []
def XG:CxOK prog XF:=aP aG ⟨Be,uT⟩ trivial
def qlw(x:ag [.d i64,.d i64,.ptr aC]):Fr (aa [i64]):=
 let a:=((aL x.2.2.1).length:Int);Jd (0<=x.1/\x.1<a) (Jd (0<=x.2.1/\x.2.1<a) (Jv ((mC.f (kr x.2.2.1 x.1,kr x.2.2.1 x.2.1,())).1,())))
def tw:Ct:=⟨[.d i64,.d i64,.ptr aC],[i64],λx=>(l5 (kr x.2.2.1 x.1) (kr x.2.2.1 x.2.1),()),λx=>[0<=x.1/\x.1<((aL x.2.2.1).length:Int),0<=x.2.1/\x.2.1<((aL x.2.2.1).length:Int)]⟩
def T9:af prog 156 tw:=
 conv (aS XG f156 (fr:=qlw)) _ _ λ_ _ x _ _ a=>
  ⟨⟨a.1,a.2,uT⟩,rfl⟩
def iw(n:Nat):List Int:=(List.range n).map λi:Nat=>(i:Int)
def qw0(n:Nat):iw (n+1)=iw n++[(n:Int)]:=by simp[iw,ud1]
def Kl(n:Nat):(iw n).length=n:=by simp[iw]
def Km(h:x∈iw n):0<=x/\x<n:=by
 simp only[iw,ue6,ud9]at h;omega
noncomputable def XH:Cx:=cW [(156,tw)] [] (fG (cx [(156,tw)] []).Γ 155 J3)
def XI:CxOK prog (cx [(156,tw)] []):=aP aG ⟨T9,uT⟩ trivial
def Me:CxOK prog XH:=cZ aG ⟨T9,uT⟩ trivial (gu XI.ct zad)
abbrev nu:Pt:=⟨20,0,⟨[(7,.d i64),(8,.d i64)],[.x 1 114 aC,.r 1 1 0,.o 3 3 i64]⟩,⟨[],[.x 1 114 aC,.r 1 1 0,.o 3 3 i64]⟩,⟨[],[]⟩⟩
def I9(x:nu.M.X):Fr nu.Out:=
 let n:=x.1.1;let k:=x.1.2.1;let h:=x.2.1;let l:=x.2.2.1
 Jb (J (k<n))
  (Jd (l.length + [k].length<=maxLen/\(l.length + [k].length)*prog.types[3].bytes<=140737488355328) (Jv (Rd.next ((n,I6.wrap (k+1),()),(h,l++[k],())))))
  (Jv (Rd.out ((),(h,l,()))))
def qzi:ae prog (au f97 0) nu.M nu I9:=
 dn Me
def qoe:prog.types[3].bytes=8:=by kernel_rfl
structure InvOrd (n k:Int) (l:List Int):Prop where
 k0:0<=k
 kn:k<=n
 big:n<=1000000
 ll:l=iw k.toNat
def MK(x:nu.M.X):Fr nu.Out:=
 Jd (InvOrd x.1.1 x.1.2.1 x.2.2.1) (Jv (Rd.out ((),(x.2.1,iw x.1.1.toNat,()))))
def qpw (n k:Int) (h:aC.den) (l:List Int) (b:InvOrd n k l) (Q:nu.Out->Prop) (c:Q (Rd.out ((),(h,iw n.toNat,())))):(I9 ((n,k,()),(h,l,()))).satP λ
   |.next a=>InvOrd a.1.1 a.1.2.1 a.2.2.1/\(a.1.1-a.1.2.1).toNat<(n-k).toNat/\(MK a).satP Q
   |.out y=>Q (.out y)
   |.back z=>Q (.back z)
   |.pan p=>Q (.pan p):=by
 obtain⟨j,m,e,f⟩:=b;subst f;dsimp only[I9,Fr.satP,Ty.den,PT.den];rw[qoe];refine⟨λhi=>?_,λhi=>?_⟩;have i:=ucx hi;have w:I6.wrap (k+1)=k+1:=IntWalk.i64_in _ (by omega);rw[w];have d:InvOrd n (k+1) (iw k.toNat++[k]):=⟨by omega,by omega,e,by rw[show(k+1).toNat=k.toNat+1 by omega,qw0,show((k.toNat:Nat):Int)=k by omega]⟩;refine⟨?_,d,by omega,d,c⟩;simp only[Kl,uc9,udl,maxLen];omega;have g:=uch hi;rw[show n=k by omega]at c;exact c
def qq4:ae prog (.loop (au f97 0)) nu.M nu MK:=by
 refine ae.loop qzi (μ:=λx=>(x.1.1-x.1.2.1).toNat) ?_ (λx Q h=>h.1);rintro⟨⟨n,k,_⟩,⟨h,l,_⟩⟩ a Q b;exact qpw n k h l a Q b.2
def JV(h:aC.den):qdy.den:=(λx=>tw.f (x.1,x.2.1,h,()),λx=>av (tw.ok (x.1,x.2.1,h,())))
noncomputable def QH(x:ag [.d aC]):Fr (aa [.sl i64]):=
 let n:Int:=((aL x.1).length:Int)
 Jd (InvOrd n 0 [])
 (Jd (((iw n.toNat).length:Int)<=4611686018427387903)
  (Jd (gR (JV x.1) (iw n.toNat)) (Jv ((J3.f (iw n.toNat) (JV x.1,())).1,()))))
def SF(h:aC.den)(x y:Int):Bool:=J (kr h x<kr h y)
def bE(h:aC.den):List Int:=cM (SF h) (iw (aL h).length)
def SG(h:aC.den):aM (JV h)=SF h:=by
 funext x y;show J (l5 (kr h x) (kr h y)<0)=J (kr h x<kr h y);unfold l5;split;simp[*];split<;>simp<;>omega
def G0:Ct:=⟨[.d aC],[.sl i64],λx=>(bE x.1,()),λx=>[((aL x.1).length:Int)<=1000000]⟩
def JX:af prog 97 G0:=
 conv (cS Me qq4 (fr:=QH)) _ _ λ_ _ x _ _ b=>by
  obtain⟨h,rfl⟩:∃ h:aC.den,x=(h,()):=⟨x.1,rfl⟩;have a:((aL h).length:Int)<=1000000:=b;have e:((aL h).length:Int).toNat=(aL h).length:=rfl;dsimp only[QH,Fr.ok,J3,pd];rw[e,SG,Kl];refine⟨⟨⟨ufa _,by omega,a,rfl⟩,by omega,⟨λx c y d=>⟨Km c,Km d⟩,kr h,λx _ y _=>by rw[SG];rfl⟩,uT⟩,rfl⟩
section
variable {key:Int->Int} {lt:Int->Int->Bool}
end
def qf8(h:i<l.length):l.drop i=l.getD i 0::l.drop (i+1):=by
 simp[uaq h]
def Bl(s:aB.den)(c:az.den):aB.den:=
 if c.2.2.1=1 then (s.1,s.2.1,c.2.2.2.1,s.2.2.2.1,s.2.2.2.2.1,())
 else if c.2.2.1=2 then (s.1,s.2.1,s.2.2.1,c.2.2.2.2.1,s.2.2.2.2.1,())
 else if c.2.2.1=3 then (s.1,Y,s.2.2.1,s.2.2.2.1,s.2.2.2.2.1,())
 else if c.2.2.1=4 then (s.1,Z,s.2.2.1,s.2.2.2.1,s.2.2.2.2.1,())
 else s
def bZ(h:aC.den)(i:Int):az.den:=(aL h).getD i.toNat az.dflt
noncomputable def Xg:Cx:=cx [(144,A7),(140,fM)] []
def LV:CxOK prog Xg:=aP aG ⟨Rx,oT,uT⟩ trivial
abbrev lZ:Pt:=⟨21,0,⟨[(10,.d i64),(9,.d i64),(8,.d zel),(1,.d i64)],[.x 4 213 aB,.r 4 4 0]⟩,⟨[],[.x 4 213 aB,.r 4 4 0]⟩,⟨[(5,.d .bool)],[.x 4 213 aB,.r 4 4 0]⟩⟩
abbrev vU:Type:=ag [.d i64]×cR [.x 4 213 aB,.r 4 4 0]
def sn(e:aB.den)(s:vU):Fr (vU ⊕ lZ.R.X):=
 Jb (fM.f (e.1,s.1.1,())).1 (Jv (.inr ((Z,()),e,()))) (Jv (.inl s))
def pV(x:lZ.M.X):Int×List aB.den×vU:=(x.1.1,x.1.2.2.1,x.1.2.2.2,x.2)
def Rj(x:lZ.M.X):Prop:=x.1.2.1=(x.1.2.2.1.length:Int)
def qvr(s:vU):lZ.E.X:=((),s.2.1,())
def qe5:vU:=(aW _,bN _)
def Bi:lZ.R.X:=(aW _,bN _)
def qs3:ae prog (.loop (au f130 0)) lZ.M lZ (FL sn pV Rj qvr Rd.back qe5 Bi):=
 qf LV (λ_ _=>.n .o) aB.dflt (λx=>x.1.2.1) (λx s=>((I6.wrap (x.1.1+1),x.1.2.1,x.1.2.2.1,s.1),s.2)) (λ_ h=>h)
def vK(y:lZ.M.X):vU ⊕ lZ.R.X:=dt sn ((pV y).2.1.drop (pV y).1.toNat) (pV y).2.2
def qu2(y:lZ.M.X):Prop:=jo sn ((pV y).2.1.drop (pV y).1.toNat) (pV y).2.2
def qj6(x:ag [.d zel,.d i64]):Fr (aa [aB,.bool]):=
 let a:=((0,((List.length x.1):Int),x.1,x.2.1,()),((0,0,()),Y,(0,0,0,0,()),[],0,()),());let b:=zej Bi (vK a);Jd (InL (Rj a) (pV a)) (Jd (qu2 a) (Jb (dF (vK a)) (Jv (((0,0,()),Y,(0,0,0,0,()),[],0,()),Y,())) (Jv (b.2.1,b.1.1,()))))
def qj7:af prog 130 (bg [.d zel,.d i64] [aB,.bool] qj6):=
 cS LV qs3
def lM:aB.den:=((0,0,()),Y,(0,0,0,0,()),[],0,())
def dp:List aB.den->Int->aB.den×Bool
 |[],_=>(lM,Y)
 |s::r,d=>if gr s.1.1 s.1.2.1 d=Z then (s,Z)else dp r d
def tj:Ct:=⟨[.d zel,.d i64],[aB,.bool],λx=>((dp x.1 x.2.1).1,(dp x.1 x.2.1).2,()),λ_=>[]⟩
def NK:(l:List aB.den)->(d:Int)->(dp l d).2=Y->(dp l d).1=lM
 |[],_,_=>rfl
 |s::r,d,h=>by
  unfold dp at h |-;by_cases hi:gr s.1.1 s.1.2.1 d=Z;rw[ufv hi]at h;cases h;rw[ufw hi]at h |-;exact NK r d h
def qa4(l:List aB.den)(d:Int)(m:aB.den):dt sn l ((d,()),(m,()))=if (dp l d).2=Z then .inr ((Z,()),((dp l d).1,()))else .inl ((d,()),(m,())):=by
 induction l with
 |nil=>rfl
 |cons e r b=>
  by_cases h:gr e.1.1 e.1.2.1 d=Z;have a:(sn e ((d,()),(m,()))).get=.inr ((Z,()),(e,())):=ufv h;simp only[dt,a,dp,ufv h,if_true];have a:(sn e ((d,()),(m,()))).get=.inl ((d,()),(m,())):=ufw h;simp only[dt,a,dp,ufw h];exact b
def qa3(l:List aB.den)(d:Int){a b:σ}{c:ag [.d .bool]×aB.den×Unit}:
  (if dF (if (dp l d).2=Z then (.inr ((Z,()),((dp l d).1,())):σ ⊕ (ag [.d .bool]×aB.den×Unit))else .inl a)=Z then ((lM,Y,()):aB.den×Bool×Unit)
   else ((zej c (if (dp l d).2=Z then (.inr ((Z,()),((dp l d).1,())):σ ⊕ (ag [.d .bool]×aB.den×Unit))else .inl a)).2.1,(zej c (if (dp l d).2=Z then (.inr ((Z,()),((dp l d).1,())):σ ⊕ (ag [.d .bool]×aB.den×Unit))else .inl a)).1.1,()))=((dp l d).1,(dp l d).2,()):=by
 cases h:(dp l d).2 with
 |true=>rfl
 |false=>
  rw[NK l d h];rfl
def zab:af prog 130 tj:=
 conv qj7 _ _ (λw F x vs f _=>by
  obtain⟨l,d,_⟩:=x;obtain⟨v,h,rfl,g,_⟩:=f;have a:(l.length:Int)<=9223372036854775807:=mv g;refine⟨⟨⟨rfl,ufa _,ub4 _,a⟩,ph (step:=sn) (λe s=>⟨λ_=>uT,λ_=>uT⟩) _ _,λ_=>uT,λ_=>uT⟩,?_⟩;have c:vK ((0,(l.length:Int),l,d,()),(lM,()))=_:=qa4 l d lM;show(if dF (vK ((0,(l.length:Int),l,d,()),(lM,())))=Z then ((lM,Y,()):aB.den×Bool×Unit)else ((zej Bi (vK ((0,(l.length:Int),l,d,()),(lM,())))).2.1,(zej Bi (vK ((0,(l.length:Int),l,d,()),(lM,())))).1.1,()))=((dp l d).1,(dp l d).2,());rw[c];exact qa3 l d (b:=((d,()),(lM,()))))
def zl2(h:aC.den):Bool:=(ju h.2.2.1&&J (h.2.2.2.1.length<=2000))&&h.2.2.2.1.all λc=>gl c&&gr h.2.2.1.1.1 h.2.2.1.1.2.1 c.2.1
def Gr:Ct:=⟨[.d aC],[.bool],λx=>(zl2 x.1,()),λ_=>[]⟩
def qan(p:T->σ->Bool)(l:List T)(s:σ):mA p (λ_ s=>s) l s=l.all λe=>p e s:=by
 induction l with
 |nil=>rfl
 |cons e r a=>simp only[mA,uej];rw[a]
end Go.Proofs.YtdokapnnagbehaaGreat
