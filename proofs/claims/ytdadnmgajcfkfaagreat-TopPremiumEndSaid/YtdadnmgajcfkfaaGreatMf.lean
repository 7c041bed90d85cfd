/-
  Parts of the proof, one behind the other.
-/
import Derived.Test.YtdadnmgajcfkfaaGreatMe
import Derived.IntWalk
import Derived.RangeFuncNested
import Derived.RangeFuncBound
import Derived.RangeFuncCalls
import Derived.RangeFuncLeaves
import Derived.Shelf.Abstract
import Derived.Shelf.RegionOpen
import Derived.WalkKit
import Derived.OwnWalkIn
import Derived.TacticsInMore
import Derived.LoopNIn
import Derived.LoopIn
import Derived.Lib.Hide
import Derived.Tactics2
import Derived.Laws.Pointers
set_option linter.all false
set_option maxRecDepth 100000
set_option maxHeartbeats 4000000
noncomputable section
open Option renaming some->U,none->V
open Bool renaming true->Z,false->Y
open Decidable renaming decide->J
open List renaming replicate->Lrp
open BitVec renaming ofInt->Bvo
open Go Go.RowKit
variable {T α σ ρ β:Type} {P:Program} {ad:Addr} {arr cs cur:Array Value} {f:FuncId} {x a y day:Int} {k:IntKind} {l:List Int} {xs vs news:List Value} {off i n b c d B m len:Nat} {F F' K:Nat->Prop} {R g R':Nat->Value->Prop} {o:Oper} {p:Prop} {e ety t ty el:TypeId} {v u vx:Value} {w w' W' W:World}
namespace Go.Proofs.YtdadnmgajcfkfaaGreat
open Go Go.Ab Go.RowKit Go.Proofs Tryz Go.Shelf
open Go.Ab.Fr renaming val->Jv,need->Jd,br->Jb
abbrev rW:Pt:=⟨105,0,⟨[(35,.d i64),(34,.d i64),(33,.d aP),(0,.d i64),(7,.d .bool)],[.o 8 3 i64,.x 280001 3 i64,.g 6 241 [280001]]⟩,⟨[(7,.d .bool),(0,.d i64)],[.o 8 3 i64]⟩,⟨[(4,.d aP),(5,.d i64)],[]⟩⟩
def zF(k:Int×(List Int)×Int)(b:Prop)(i:Int)(e:i64.q)(s:Bool×(List Int)×Int):Fr ((Bool×(List Int)×Int) ⊕ rW.R.X):=
 Jd b (Jb (J (e<0)) (Jb (1==1) (Jv (.inr (([],1,()),()))) (Jd (s.2.1.length + [0].length<=maxLen/\(s.2.1.length + [0].length)*8<=140737488355328) (Jv (.inl (bif s.1 then Z else 1==5,s.2.1++[0],s.2.2))))) (Jb (bif J (I6.wrap (s.2.2+e)>4000000000000000000)then Z else J (I6.wrap (s.2.2+e)<0)) (Jb (5==1) (Jv (.inr (([],5,()),()))) (Jd (s.2.1.length + [0].length<=maxLen/\(s.2.1.length + [0].length)*8<=140737488355328) (Jv (.inl (bif s.1 then Z else 5==5,s.2.1++[0],4000000000000000001))))) (Jb (0==1) (Jv (.inr (([],0,()),()))) (Jd (s.2.1.length + [I6.wrap (s.2.2+e)].length<=maxLen/\(s.2.1.length + [I6.wrap (s.2.2+e)].length)*8<=140737488355328) (Jv (.inl (bif s.1 then Z else 0==5,s.2.1++[I6.wrap (s.2.2+e)],I6.wrap (s.2.2+e))))))))
def R3:rW.M.X->Fr rW.Out:=FK (λx=>(x.1.1,(x.1.2.1,x.1.2.2.1,x.1.2.2.2.1),(x.1.2.2.2.2.1,x.2.1,x.2.2.1))) (λk=>k.1) (λk=>k.2.1) zF (λk s=>((s.1,k.2.2,()),s.2.1,())) (λ_ y=>Rd.back y) (Y,[],0) (aY _,cf _)
def zez:af prog (.loop (au f149 0)) rW.M rW R3:=
 lG Ag (λi k s=>((i,k.1,k.2.1,k.2.2,s.1,()),s.2.1,s.2.2,())) i64.j
def qyo:=λk s=>bC (zF k True) 0 k.2.1 s
def zhh:=λk s=>eI (zF k True) 0 k.2.1 s
def zs0(a:Gm):St->Option Tr:=rW.han a rW.M R3
abbrev yU:Pt:=⟨105,3,⟨[(84,.d i64),(83,.d i64),(0,.d i64),(13,.d i64),(15,.d i64)],[.o 82 3 i64,.o 14 3 i64]⟩,⟨[],[.o 14 3 i64]⟩,⟨[],[]⟩⟩
def Dn(k:Int×Int×Int×(List Int))(b:Prop)(i:Int)(e:i64.q)(s:Int×(List Int)):Fr (Int×(List Int)):=
 let a:=JV.f (k.2.1,e,k.2.2.1,());Jd b (Jd (Int.toNat i<k.2.2.2.length) (Jd (0<=i/\i<(s.2.length:Int)) (Jd (Int.toNat i<s.2.length) (Jv (a.1,s.2.set (Int.toNat i) (I6.wrap (a.1-s.1)))))))
def R4:yU.M.X->Fr yU.Out:=FG (λx=>(x.1.1,(x.1.2.1,x.1.2.2.1,x.1.2.2.2.1,x.2.1),(x.1.2.2.2.2.1,x.2.2.1))) (λk=>k.1) (λk=>k.2.2.2) Dn (λk s=>((),s.2,()))
def ze0:af prog (.loop (au f149 1)) yU.M yU R4:=
 cX Ag (λi k s=>((i,k.1,k.2.1,k.2.2.1,s.1,()),k.2.2.2,s.2,())) i64.j
def qyp:=λk s=>bw (Dn k True) 0 k.2.2.2 s
def zhi:=λk s=>bY (Dn k True) 0 k.2.2.2 s
def zs1(a:Gm):St->Option Tr:=yU.han a yU.M R4
def Bl(x:ap [.d i64,.d aP]):Fr (aa [aP,i64]):=
 Jb (bif J (x.1<0)then Z else J (((List.length x.2.1):Int)>2000)) (Jv ([],1,())) (Jd ((0:Int)<=0/\0<=((List.length x.2.1):Int)/\((List.length x.2.1):Int)<=(maxLen:Int)/\((List.length x.2.1):Int)*(8:Int)<=140737488355328) (iS (InK (((List.length x.2.1):Int)) 0 (List.length x.2.1)) (zhh (((List.length x.2.1):Int),x.2.1,x.1) (J (x.1>4000000000000000000),Lrp (Int.toNat 0) 0,0)) (qyo (((List.length x.2.1):Int),x.2.1,x.1) (J (x.1>4000000000000000000),Lrp (Int.toNat 0) 0,0)) (Y,[],0) (aY _,cf _) (λa=>Jb a.1 (Jv ([],5,())) (Jd (((a.2.1.length:Int)==0)=Y->0<=I6.wrap ((a.2.1.length:Int)-1)/\I6.wrap ((a.2.1.length:Int)-1)<(a.2.1.length:Int)) (Jd (((a.2.1.length:Int)==0)=Y->(I6.wrap ((a.2.1.length:Int)-1)).toNat<a.2.1.length) (Jb (bif (a.2.1.length:Int)==0 then Z else a.2.1.getD (I6.wrap ((a.2.1.length:Int)-1)).toNat i64.j==0) (Jv ([],6,())) (Jd (0<=I6.wrap ((a.2.1.length:Int)-1)/\I6.wrap ((a.2.1.length:Int)-1)<(a.2.1.length:Int)) (Jd ((I6.wrap ((a.2.1.length:Int)-1)).toNat<a.2.1.length) (Jd (0<=(a.2.1.length:Int)/\(a.2.1.length:Int)<=(a.2.1.length:Int)/\(a.2.1.length:Int)<=(maxLen:Int)/\(a.2.1.length:Int)*(8:Int)<=140737488355328) (cT (InK ((a.2.1.length:Int)) 0 a.2.1.length) (zhi ((a.2.1.length:Int),x.1,a.2.1.getD (I6.wrap ((a.2.1.length:Int)-1)).toNat i64.j,a.2.1) (0,Lrp ((a.2.1.length:Int)).toNat 0)) (qyp ((a.2.1.length:Int),x.1,a.2.1.getD (I6.wrap ((a.2.1.length:Int)-1)).toNat i64.j,a.2.1) (0,Lrp ((a.2.1.length:Int)).toNat 0)) (λb=>Jv (b.2,0,())))))))))) (λc=>Jv c.1)))
def qu1:ag prog 149 ⟨[.d i64,.d aP],[aP,i64],λxs=>(Bl xs).get,λxs=>[(Bl xs).ok]⟩:=
 cF Ag (Λ:=(λk=>if k=0 then zs0 IP.Γ else zs1 IP.Γ)) (fn:=f149) (aY [.d i64,.d aP]) (by kernel_rfl) (λc E a=>GA a (by kernel_rfl) (b0:=au f149 0) (b1:=au f149 1) (by kernel_rfl) (by kernel_rfl) (af.han Ag rfl zez) (af.han Ag rfl ze0)) (λx=>by kernel_rfl)
def fI:1000000<=maxLen:=by decide
def eU{l:Nat}(h:l<=1000000000):InK (l:Int) 0 l:=⟨rfl,by decide,ub4 _,by omega⟩
def yj{l:Nat}(h:l<=1000000):0<=(l:Int)/\(l:Int)<=(l:Int)/\(l:Int)<=(maxLen:Int)/\(l:Int)*(8:Int)<=140737488355328:=by have:=fI;omega
def zoe(a:Int)(l:List Int)(k:l.length<=2000)(b:Bool):
  eI (zF ((l.length:Int),l,a) True) 0 l (b,[],0)/\iV (λs=>s.2.1.length=l.length) (λy=>y.1.1=[]) (bC (zF ((l.length:Int),l,a) True) 0 l (b,[],0)):=
 o5 (step:=zF ((l.length:Int),l,a) True) (λ(i:Nat) (s:Bool×List Int×Int)=>s.2.1.length=i) (λ(y:rW.R.X)=>y.1.1=[]) l (λi e s g f=>by
  have h:i<l.length:=(uak.1 g).1;have m:=fI;have d:∀ z:Int,s.2.1.length + [z].length<=maxLen/\(s.2.1.length + [z].length)*8<=140737488355328:=λz=>by rw[f,ua7];omega
  have c:∀ z:Int,(s.2.1++[z]).length=i+1:=λz=>by rw[ub6,f];rfl
  exact⟨uT,λ_=>⟨λ_=>rfl,λ_=>⟨d 0,c 0⟩⟩,λ_=>⟨λ_=>⟨λ_=>rfl,λ_=>⟨d 0,c 0⟩⟩,λ_=>⟨λ_=>rfl,λ_=>⟨d (I6.wrap (s.2.2+e)),c (I6.wrap (s.2.2+e))⟩⟩⟩⟩) _ rfl
def zof(k:Int×Int×Int×List Int)(s:Int×List Int)(a:s.2.length=k.2.2.2.length):
  bY (Dn k True) 0 k.2.2.2 s/\(bw (Dn k True) 0 k.2.2.2 s).2.length=k.2.2.2.length:=
 dK (λ_ (s:Int×List Int)=>s.2.length=k.2.2.2.length) k.2.2.2 (λi e s c a=>by have b:i<k.2.2.2.length:=(uak.1 c).1;refine⟨uT,?_,⟨?_,?_⟩,?_,?_⟩;rw[uc0];exact b;exact ub4 i;rw[a];exact Int.ofNat_lt.2 b;rw[uc0,a];exact b;show(List.set _ _ _).length=_;rw[udp];exact a) s a
def qbn(a:Int)(l:List Int):(Bl (a,l,())).s7 (λy=>y.1=[]\/y.1.length=l.length):=by
 unfold Bl;dsimp only;refine⟨λ_=>.inl rfl,λr=>?_⟩;have t:l.length<=2000:=by
  by_cases h:(l.length:Int)>2000;have e:J ((l.length:Int)>2000)=true:=ueb h;have b:(bif J (a<0)then Z else J ((l.length:Int)>2000))=false:=r;rw[e]at b;cases p:J (a<0)<;>rw[p]at b<;>cases b
  omega
 have v:=fI;refine⟨⟨by decide,(yj (by omega)).1,(yj (by omega)).2.2⟩,I8 (eU (by omega)) (zoe a l t _) (λs c=>⟨λ_=>.inl rfl,λ_=>?_⟩) (λy u=>.inl u)⟩;have c:s.2.1.length=l.length:=c;have k:(s.2.1.length:Int)≠0->I6.wrap ((s.2.1.length:Int)-1)=(s.2.1.length:Int)-1:=λ_=>cV (by omega);have f:(s.2.1.length:Int)≠0->0<=I6.wrap ((s.2.1.length:Int)-1)/\I6.wrap ((s.2.1.length:Int)-1)<(s.2.1.length:Int):=λh=>by rw[k h];omega
 have g:(s.2.1.length:Int)≠0->(I6.wrap ((s.2.1.length:Int)-1)).toNat<s.2.1.length:=λh=>by rw[k h];omega
 have m:((s.2.1.length:Int)==0)=Y->(s.2.1.length:Int)≠0:=λh=>by simpa using h
 refine⟨λh=>f (m h),λh=>g (m h),λ_=>.inl rfl,λh=>?_⟩;have i:(s.2.1.length:Int)≠0:=λe=>by
  have o:((s.2.1.length:Int)==0)=true:=by simpa using e
  have b:(bif (s.2.1.length:Int)==0 then Z else s.2.1.getD (I6.wrap ((s.2.1.length:Int)-1)).toNat i64.j==0)=false:=h;rw[o]at b;cases b
 refine⟨f i,g i,yj (by omega),ii (A:=λ(n:Int×List Int)=>n.2.length=s.2.1.length) (eU (by omega)) (zof _ _ ?_) (λn d=>.inr (d.trans c))⟩;show(Lrp _ _).length=_;rw[ubc,uc0]
def AB:Ct:=⟨[.d i64,.d aP],[aP,i64],λx=>(Bl x).get,λ_=>[]⟩
def zoh:ag prog 149 AB:=
 conv qu1 _ _ (λ_ _ x _ _ _=>⟨(dt (qbn x.1 x.2.1)).1,rfl⟩)
def zog(a:Int)(l:List Int):(AB.f (a,l,())).1=[]\/(AB.f (a,l,())).1.length=l.length:=(dt (qbn a l)).2
def eP:Code->Nat->Option Code
 |.loop c,0=>U c
 |.seq a b,k=>if k<cD a then eP a k else eP b (k-cD a)
 |.cond _ a b,k=>if k<cD a then eP a k else eP b (k-cD a)
 |.block _ c,k=>eP c k
 |.scope c,k=>eP c k
 |_,_=>V
def yh(f:Func)(k:Nat):Code:=(f.body.bind (eP · k)).getD .skip
def Qi:FuncId->Option Ct:=λf=>if f=259 then U la else if f=225 then U A6 else V
def C2:Cx:=⟨Qi,λ_=>V,λ_ _ _ _=>V⟩
def IB:CxOK prog C2:=Ol λf b h=>by simp only[Qi]at h;split at h;rename_i a;subst a;cases h;exact Yk;split at h;rename_i a;subst a;cases h;exact X8;cases h
def ce(l:List Int)(x:Int):Nat:=l.countP λy=>J (y<x)
def qoz(f:∀ k y,k<i->l[k]?= U y->y<x)(g:∀ k y,i<=k->l[k]?= U y->¬ y<x)(h:i<=l.length):ce l x=i:=by
 unfold ce;rw[<- uba i l,List.countP_append];have d:(l.take i).countP (λy=>J (y<x))=(l.take i).length:=by rw[List.countP_eq_length];intro y c;obtain⟨k,a⟩:=ua9.1 c;rw[ub2]at a;split at a;rename_i b;simpa using f k y b a;cases a
 have e:(l.drop i).countP (λy=>J (y<x))=0:=by rw[List.countP_eq_zero];intro y c;obtain⟨k,a⟩:=ua9.1 c;rw[ub1]at a;simpa using g (i+k) y (by omega) a
 rw[d,e,uc5];omega
abbrev nm:Pt:=⟨54,0,⟨[(0,.d aP),(1,.d i64),(6,.d i64),(7,.d i64),(8,.d i64)],[]⟩,⟨[(0,.d aP),(1,.d i64),(6,.d i64),(7,.d i64)],[]⟩,⟨[],[]⟩⟩
def bc(i j:Int):Int:=I6.wrap ((U6.wrap (I6.wrap (i+j))).fdiv (2 ^ min (Int.toNat 1) U6.bits))
def Ms(x:nm.M.X):Fr nm.Out:=
 let b:=x.1.2;let a:=b.2.2;Jb (J (a.1<a.2.1))
  (Jd (¬ (1:Int)<0)
   (Jd (0<=bc a.1 a.2.1/\bc a.1 a.2.1<x.1.1.length)
    (Jb (A6.f (x.1.1.getD (bc a.1 a.2.1).toNat i64.j,b.1,())).1
     (Jv (Rd.next ((x.1.1,b.1,b.2.1,I6.wrap (bc a.1 a.2.1+1),a.2.1,()),())))
     (Jv (Rd.next ((x.1.1,b.1,b.2.1,a.1,bc a.1 a.2.1,()),()))))))
  (Jv (Rd.out ((x.1.1,b.1,b.2.1,a.1,()),())))
def zmh:af prog (yh f252 0) nm.M nm Ms:=
 af.of_run IB (bs:=0) (Λ:=Cn) rfl rfl rfl (λE=>oz _ 0) (λx=>by kernel_rfl)
def zgh{i j:Int}(d:0<=i)(c:i<=j)(e:j<=9223372036854775807):bc i j=(i+j)/2:=by
 unfold bc;have a:U6.wrap (I6.wrap (i+j))=i+j:=by rw[udf,IntKind.wrap_u64];omega
 have b:(2:Int) ^ min (Int.toNat 1) U6.bits=2:=by decide
 rw[a,b,uag _ (by decide),IntWalk.i64_in _ (by omega)]
structure InvB (l:List Int) (x i j:Int):Prop where
 lo:0<=i
 le:i<=j
 hi:j<=l.length
 big:(l.length:Int)<=9223372036854775807
 up:l.Pairwise (· < ·)
 below:∀ (k:Nat) (y:Int),(k:Int)<i->l[k]?= some y->y<x
 above:∀ (k:Nat) (y:Int),j<=k->l[k]?= some y->¬ y<x
def FB(x:nm.M.X):Fr nm.Out:=
 Jd (InvB x.1.1 x.1.2.1 x.1.2.2.2.1 x.1.2.2.2.2.1) (Jv (Rd.out ((x.1.1,x.1.2.1,x.1.2.2.1,(ce x.1.1 x.1.2.1:Int),()),())))
def PW(h:l.Pairwise (· < ·)){a:Nat}{z:Int}(c:a<b)(f:l[a]?= U y)(g:l[b]?= U z):y<z:=by obtain⟨d,rfl⟩:=uak.1 f;obtain⟨e,rfl⟩:=uak.1 g;exact(uan.1 h) a b d e c
def zbs (l:List Int) (x n i j:Int) (m:InvB l x i j) (Q:nm.Out->Prop) (g:Q (Rd.out ((l,x,n,(ce l x:Int),()),()))) :
  (Ms ((l,x,n,i,j,()),())).s7 λ
   |.next f=>InvB f.1.1 f.1.2.1 f.1.2.2.2.1 f.1.2.2.2.2.1/\(f.1.2.2.2.2.1-f.1.2.2.2.1).toNat<(j-i).toNat/\(FB f).s7 Q
   |.out y=>Q (.out y)
   |.back z=>Q (.back z)
   |.pan p=>Q (.pan p):=by
 obtain⟨u,C,D,v,s,w,A⟩:=m;simp only[Ms,Fr.s7,ucu,uav];refine⟨λb=>?_,λb=>?_⟩;have b:i<j:=b;have F:=zgh u C (by omega);have o:0<=(i+j)/2/\(i+j)/2<l.length:=by omega
 rw[F];refine⟨by omega,o,?_⟩;obtain⟨y,c⟩:∃ y,l[((i+j)/2).toNat]?= U y:=by
  have:((i+j)/2).toNat<l.length:=by omega
  exact⟨_,uaq this⟩
 have h:l.getD ((i+j)/2).toNat i64.j=y:=by rw[uah,c];rfl
 rw[h];show(J (y<x)=Z->_)/\(J (y<x)=Y->_);simp only[ucu,uav];refine⟨λa=>?_,λa=>?_⟩;have a:=a;have G:I6.wrap ((i+j)/2+1)=(i+j)/2+1:=IntWalk.i64_in _ (by omega);rw[G];have r:InvB l x ((i+j)/2+1) j:=⟨by omega,by omega,D,v,s,λk z t e=>by
  by_cases d:k<((i+j)/2).toNat;exact ue2 (PW s d e c) a;have:k=((i+j)/2).toNat:=by omega
  subst this;rw[c]at e;cases e;exact a,A⟩
 exact⟨r,by show(j-((i+j)/2+1)).toNat<(j-i).toNat;omega,r,g⟩;have a:=a;have r:InvB l x i ((i+j)/2):=⟨u,by omega,by omega,v,s,w,λk z t e=>by
  by_cases d:((i+j)/2).toNat<k;have:=PW s d c e;omega;have:k=((i+j)/2).toNat:=by omega
  subst this;rw[c]at e;cases e;exact a⟩
 exact⟨r,by show((i+j)/2-i).toNat<(j-i).toNat;omega,r,g⟩;have b:¬ i<j:=b;have B:i=j:=by omega
 have E:ce l x=i.toNat:=qoz (λk y t c=>w k y (by omega) c) (λk y t c=>A k y (by omega) c) (by omega);rw[E]at g;have:((i.toNat:Nat):Int)=i:=by omega
 rw[this]at g;exact g
def loopB:af prog (.loop (yh f252 0)) nm.M nm FB:=by refine af.loop zmh (μ:=λx=>(x.1.2.2.2.2.1-x.1.2.2.2.1).toNat) ?_ (λx Q h=>h.1);rintro⟨⟨l,x,n,i,j,_⟩,_⟩ a Q b;exact zbs l x n i j a Q b.2
def qR:{c:Code} -> {k:Nat} -> {b:Code}->eP c k=U b->k<cD c
 |.loop _,0,_,_=>udv
 |.loop _,_+1,_,h=>by simp[eP]at h
 |.seq x y,k,b,h=>by simp only[eP]at h;simp only[cD];split at h;omega;have:=qR h;omega
 |.cond _ x y,k,b,h=>by simp only[eP]at h;simp only[cD];split at h;omega;have:=qR h;omega
 |.block _ c,k,b,h=>qR (c:=c) h
 |.scope c,k,b,h=>qR (c:=c) h
 |.skip,_,_,h=>by simp[eP]at h
 |.region _ _ _,_,_,h=>by simp[eP]at h
 |.ret,_,_,h=>by simp[eP]at h
 |.exit _,_,_,h=>by simp[eP]at h
 |.label _,_,_,h=>by simp[eP]at h
 |.goto _,_,_,h=>by simp[eP]at h
 |.rangeFunc _ _ _ _,_,_,h=>by simp[eP]at h
 |.refuse _,_,_,h=>by simp[eP]at h
def rI{E:Env}{Λ:Nat->St->Option Tr}:(c:Code)->(k:Nat)->(∀ i b,eP c i=U b->km prog E b (Λ (k+i)))->co prog E Λ c k
 |.loop b,k,h=>h 0 b rfl
 |.seq x y,k,h=>⟨rI x k λi b a=>h i b (by simp only[eP];rw[ufw (qR a)];exact a),rI y _ λi b a=>by
   have:=h (cD x+i) b (by simp only[eP];rw[ufx (by omega),uax];exact a)
   rwa [<- uei]at this⟩
 |.cond _ x y,k,h=>⟨rI x k λi b a=>h i b (by simp only[eP];rw[ufw (qR a)];exact a),rI y _ λi b a=>by
   have:=h (cD x+i) b (by simp only[eP];rw[ufx (by omega),uax];exact a)
   rwa [<- uei]at this⟩
 |.block _ c,k,h=>rI c k h
 |.skip,_,_=>trivial
 |.ret,_,_=>trivial
 |.exit _,_,_=>trivial
 |.region _ _ _,_,_=>trivial
 |.label _,_,_=>trivial
 |.goto _,_,_=>trivial
 |.scope c,k,h=>rI c k h
 |.rangeFunc _ _ _ _,_,_=>trivial
 |.refuse _,_,_=>trivial
def Xv{E:Env}{Λ:Nat->St->Option Tr}{fn:Func}{c b:Code}(f:fn.body=U c)(e:(fn.body.map cD)=U 1)(d:fn.body.bind (eP · 0)=U b)(h:km prog E b (Λ 0)):co prog E Λ c 0:=by
 refine rI c 0 λi k a=>?_;have l:=qR a;rw[f]at e d;simp at e;have g:i=0:=by omega
 subst g;simp at d;rw[d]at a;cases a;exact h
def ΛB:Nat->St->Option Tr:=λ_=>nm.han Qi nm.M FB
def MD(x:ap [.d aP,.d i64]):Fr (aa [i64,.bool]):=
 let a:=(ce x.1 x.2.1:Int);let b:=Int.toNat a;Jd (InvB x.1 x.2.1 0 x.1.length)
  (Jd (J (a<x.1.length)=Z->0<=a/\a<x.1.length)
  (Jd ((x.1.getD b i64.j==x.2.1)=Y->J (a<x.1.length)=Z->0<=a/\a<x.1.length)
   (Jv
    (a,
     bif J (a<x.1.length)then
      bif x.1.getD b i64.j==x.2.1 then Z
      else
       bif (la.f (x.1.getD b i64.j,())).1 then (la.f (x.2.1,())).1 else Y
     else Y,
     ()))))
def zmd:ag prog 252 (bg [.d aP,.d i64] [i64,.bool] MD):=
 cF IB (Λ:=ΛB) (fn:=f252) ([],0,()) (by kernel_rfl) (λc E a=>Xv a (by kernel_rfl) (b:=yh f252 0) (by kernel_rfl) (af.han IB rfl loopB)) (λe=>by kernel_rfl)
def Tu:{l:List Int}->l.Pairwise (· < ·)->(∀ k y,k<ce l x->l[k]?= U y->y<x)/\∀ k y,ce l x<=k->l[k]?= U y->¬ y<x
 |[],_=>⟨λk y _ h=>by simp at h,λk y _ h=>by simp at h⟩
 |a::r,h=>by
  obtain⟨c,f⟩:=uca.1 h;obtain⟨i,m⟩:=Tu f;by_cases d:a<x;have n:ce (a::r) x=ce r x+1:=by simp[ce,d]
  refine⟨λk y e b=>?_,λk y e b=>?_⟩;cases k with
  |zero=>simp at b;omega
  |succ k=>exact i k y (by omega) (by simpa using b)
  cases k with
  |zero=>omega
  |succ k=>exact m k y (by omega) (by simpa using b)
  have o:ce (a::r) x=0:=by
   unfold ce;rw[List.countP_eq_zero];intro y b;rcases uej.1 b with rfl|b
   simpa using d;have:=c y b;simp;omega
  refine⟨λk y e _=>by omega,λk y _ b=>?_⟩;cases k with
  |zero=>simp at b;omega
  |succ k=>have g:=ubg (by simpa using b);have:=c y g;omega
def Tt(h:l.Pairwise (· < ·)):x∈l↔l[ce l x]?= U x:=by obtain⟨d,e⟩:=Tu h;constructor;intro i;obtain⟨k,a⟩:=ua9.1 i;by_cases b:k<ce l x;have:=d k x b a;omega;by_cases f:k=ce l x;rw[<- f];exact a;have g:=(uak.1 a).1;have c:l[ce l x]?= U (l[ce l x]'(by omega)):=uaq (by omega);have m:=PW h (by omega) c a;have n:=e _ _ (ufb _) c;omega;exact λa=>ubg a
def qo0(l:List Int)(x:Int):ce l x<=l.length:=List.countP_le_length
def zal(h:l.Pairwise (· < ·))(b:(l.length:Int)<=9223372036854775807):InvB l x 0 l.length:=
 ⟨ufc _,by omega,ufc _,b,h,λk y a _=>by omega,λk y a c=>by have:=(uak.1 c).1;omega⟩
def qxd(h:l.Pairwise (· < ·))(hl:(l.length:Int)<=9223372036854775807):(MD (l,x,())).ok/\(MD (l,x,())).get=((ce l x:Int),l.contains x,()):=by
 refine⟨⟨zal h hl,λhd=>?_,λ_ hd=>?_,uT⟩,?_⟩
 ·have hd':(ce l x:Int)<l.length:=by simpa using hd
  exact⟨by omega,hd'⟩
 ·have hd':(ce l x:Int)<l.length:=by simpa using hd
  exact⟨by omega,hd'⟩
 ·show((ce l x:Int),(bif decide ((ce l x:Int)<l.length)then bif l.getD (ce l x) i64.j==x then true else (bif false then false else false)else false),())=_;have hb:(bif decide ((ce l x:Int)<l.length)then bif l.getD (ce l x) i64.j==x then true else (bif false then false else false)else false)=l.contains x:=by
   have hm:=Tt (x:=x) h;by_cases hlt:ce l x<l.length
   ·have h1:decide ((ce l x:Int)<l.length)=true:=by simpa using hlt
    have hg:=uaq hlt;have hd:l.getD (ce l x) i64.j=l[ce l x]'hlt:=by rw[uah,hg];rfl
    rw[h1,hd];by_cases he:l[ce l x]'hlt=x
    ·have:=hm.2 (by rw[hg,he]);simp[he,this]
    ·have:¬ x∈l:=λhx=>he (by have:=hm.1 hx;rw[hg]at this;simpa using this);simp[he,this]
   ·have h1:decide ((ce l x:Int)<l.length)=false:=by simpa using hlt
    have:¬ x∈l:=λhx=>by
     have:=hm.1 hx;rw[ua4 (by omega)]at this;cases this
    rw[h1];simp[this]
  rw[hb]
def Kq:Ct:=⟨[.d aP,.d i64],[i64,.bool],λx=>((ce x.1 x.2.1:Int),x.1.contains x.2.1,()),λx=>[x.1.Pairwise (· < ·)]⟩
def zme:ag prog 252 Kq:=
 conv zmd _ _ λw F g h d b=>by
  obtain⟨l,x,_⟩:=g;obtain⟨v,f,rfl,e,_⟩:=d;have c:=aG.wf e.2.2;have a:(l.length:Int)<=9223372036854775807:=by have:=c.1;simp only[maxLen]at this;omega
  exact qxd b a
def xk(l:List Int)(x:Int):Nat:=l.countP λy=>J (y<=x)
def Ts{x:Int}:{l:List Int}->l.Pairwise (· < ·)->xk l x=ce l x+(if l.contains x then 1 else 0)
 |[],_=>rfl
 |a::r,h=>by
  obtain⟨e,f⟩:=uca.1 h;have o:=Ts (x:=x) f;have c:a=x->¬ x∈r:=λp n=>by have:=e x n;omega
  unfold xk ce at *;rw[List.countP_cons,List.countP_cons,o];rcases Int.lt_trichotomy a x with b|d|m
  have:¬ x=a:=by omega
  simp[b,ueu b,this];omega;subst d;have:=c rfl;simp[this];have g:¬ a<=x:=by omega
  have i:¬ a<x:=by omega
  have k:¬ x=a:=by omega
  simp[g,i,k]
def eG(f:bG.q)(d:Int):Int:=match xk f.1 d with
 |0=>0
 |k+1=>f.2.1.getD k 0
def Qj:FuncId->Option Ct:=λf=>if f=252 then U Kq else if f=235 then U Kk else V
def C3:Cx:=⟨Qj,λ_=>V,λ_ _ _ _=>V⟩
def DH:CxOK prog C3:=Ol λf b h=>by simp only[Qj]at h;split at h;rename_i a;subst a;cases h;exact zme;split at h;rename_i a;subst a;cases h;exact zgk;cases h
def ME(x:ap [.d bG,.d i64]):Fr (aa [i64]):=
 let r:=Kq.f (x.1.1,x.2.1,())
 Jd (x.1.1.Pairwise (· < ·))
  (Jb (!r.2.1)
   (Jb (J (I6.wrap (r.1-1)<0)) (Jv (0,()))
    (Jd (0<=I6.wrap (r.1-1)/\I6.wrap (r.1-1)<x.1.2.1.length) (Jv (x.1.2.1.getD (I6.wrap (r.1-1)).toNat i64.j,()))))
   (Jb (J (r.1<0)) (Jv (0,()))
    (Jd (0<=r.1/\r.1<x.1.2.1.length) (Jv (x.1.2.1.getD r.1.toNat i64.j,())))))
def zro:ag prog 237 (bg [.d bG,.d i64] [i64] ME):=
 cF DH (Λ:=Cn) (fn:=f237) (([],[],()),0,()) (by kernel_rfl) (λc E _=>oz c 0) (λa=>by kernel_rfl)
def qxg{at_ val:List Int}{d:Int}(h:at_.Pairwise (· < ·))(u:(at_.length:Int)<=9223372036854775807)(n:at_.length=val.length):
  (ME ((at_,val,()),d,())).ok/\(ME ((at_,val,()),d,())).get=(eG (at_,val,()) d,()):=by
 have r:=qo0 at_ d;have e:=Ts (x:=d) h;have f:=Tt (x:=d) h;by_cases i:d∈at_;have b:at_.contains d=true:=by simpa using i
 have s:ce at_ d<at_.length:=(uak.1 (f.1 i)).1;have l:eG (at_,val,()) d=val.getD (ce at_ d) 0:=by unfold eG;simp only[e,b,if_true]
 refine⟨⟨h,λc=>?_,λ_=>⟨λc=>?_,λ_=>⟨⟨by show(0:Int)<=(ce at_ d:Int);omega,by show(ce at_ d:Int)<val.length;omega⟩,uT⟩⟩⟩,?_⟩;have a:(!at_.contains d)=true:=c;rw[b]at a;cases a;trivial;show(if (!at_.contains d)=Z then _ else if J ((ce at_ d:Int)<0)=Z then ((0:Int),())else (val.getD (Int.toNat (ce at_ d:Int)) i64.j,()))=_;have g:J ((ce at_ d:Int)<0)=false:=by simp
 rw[b,g,l];rfl;have b:at_.contains d=false:=by simpa using i
 have m:I6.wrap ((ce at_ d:Int)-1)=(ce at_ d:Int)-1:=IntWalk.i64_in _ (by omega);have l:eG (at_,val,()) d=(match ce at_ d with|0=>0|k+1=>val.getD k 0):=by unfold eG;simp only[e,b,ub3,uft,uez]
 refine⟨⟨h,λ_=>⟨λ_=>uT,λc=>?_⟩,λc=>?_⟩,?_⟩;have a:J (I6.wrap ((ce at_ d:Int)-1)<0)=false:=c;rw[m]at a;have p:¬ ((ce at_ d:Int)-1<0):=by simpa using a
 refine⟨?_,uT⟩;show 0<=I6.wrap ((ce at_ d:Int)-1)/\I6.wrap ((ce at_ d:Int)-1)<val.length;rw[m];omega;have a:(!at_.contains d)=false:=c;rw[b]at a;cases a;show(if (!at_.contains d)=Z then (if J (I6.wrap ((ce at_ d:Int)-1)<0)=Z then ((0:Int),())else (val.getD (I6.wrap ((ce at_ d:Int)-1)).toNat i64.j,()))else _)=_;rw[b,m,l];cases t:ce at_ d with
 |zero=>rfl
 |succ k=>
  have g:J (((k+1:Nat):Int)-1<0)=false:=by simp
  have o:(((k+1:Nat):Int)-1).toNat=k:=by omega
  rw[g,o];rfl
def qmm:Ct:=⟨[.d bG,.d i64],[i64],λx=>(eG x.1 x.2.1,()),λx=>[x.1.1.Pairwise (· < ·),x.1.1.length=x.1.2.1.length]⟩
def zrp:ag prog 237 qmm:=
 conv zro _ _ λw F h i e b=>by
  obtain⟨⟨at_,val,_⟩,d,_⟩:=h;obtain⟨v,g,rfl,f,_⟩:=e;have c:=aG.wf f.2.2;have a:(at_.length:Int)<=9223372036854775807:=by have:=c.1.1;simp only[maxLen]at this;omega
  exact qxg b.1 a b.2
def iN:List Int->List Int->Int->Int->Bool
 |d::l,v::r,a,last=>(J (a<d)&&(J (d<=292194)&&(!(v==last)&&kO v)))&&iN l r d v
 |_,_,_,_=>Z
abbrev mq:Pt:=⟨48,0,⟨[(18,.d i64),(17,.d i64),(16,.d aP),(3,.d i64),(4,.d i64)],[.x 1 201 bG,.r 1 1 0]⟩,⟨[],[]⟩,⟨[(2,.d .bool)],[]⟩⟩
def Vu(x:mq.M.X):Fr mq.Out:=
 let b:=x.2.1.2.1;let a:=x.1.2.2;Jb (J (x.1.1<x.1.2.1))
  (Jd (0<=x.1.1/\x.1.1<a.1.length)
   (Jd (0<=x.1.1/\x.1.1<b.length)
    (Jb
     (bif bif bif J (a.1.getD x.1.1.toNat i64.j<=a.2.1)then Z else J (a.1.getD x.1.1.toNat i64.j>292194)then Z
       else b.getD x.1.1.toNat i64.j==a.2.2.1 then Z
      else !(Kk.f (b.getD x.1.1.toNat i64.j,())).1)
     (Jv (Rd.back ((Y,()),())))
     (Jv (Rd.next ((I6.wrap (x.1.1+1),x.1.2.1,a.1,a.1.getD x.1.1.toNat i64.j,b.getD x.1.1.toNat i64.j,()),(x.2.1.1,b,()),()))))))
  (Jv (Rd.out ((),())))
def zmu:af prog (yh f206 0) mq.M mq Vu:=
 af.of_run DH (bs:=0) (Λ:=Cn) rfl rfl rfl (λE=>oz _ 0) (λx=>by kernel_rfl)
def zgz{b:Bool}(h:(!b)=Z):b=false:=by cases b<;>first|rfl|cases h
def zgw{b:Bool}(h:(!b)=Y):b=true:=by cases b<;>first|rfl|cases h
structure InvR (i n:Int) (l at_ val:List Int):Prop where
 same:l=at_
 len:n=l.length
 both:at_.length=val.length
 lo:0<=i
 hi:i<=n
 big:(l.length:Int)<=9223372036854775807
def FR(x:mq.M.X):Fr mq.Out:=
 Jd (InvR x.1.1 x.1.2.1 x.1.2.2.1 x.2.1.1 x.2.1.2.1)
  (Jb (iN (x.1.2.2.1.drop x.1.1.toNat) (x.2.1.2.1.drop x.1.1.toNat) x.1.2.2.2.1 x.1.2.2.2.2.1) (Jv (Rd.out ((),()))) (Jv (Rd.back ((Y,()),()))))
def zb7 (i n:Int) (l:List Int) (d v:Int) (at_ val:List Int) (g:InvR i n l at_ val) (Q:mq.Out->Prop)
  (a:(Jb (iN (l.drop i.toNat) (val.drop i.toNat) d v) (Jv (Rd.out ((),()))) (Jv (Rd.back ((Y,()),()))):Fr mq.Out).s7 Q) :
  (Vu ((i,n,l,d,v,()),(at_,val,()),())).s7 λ
   |.next b=>InvR b.1.1 b.1.2.1 b.1.2.2.1 b.2.1.1 b.2.1.2.1/\(b.1.2.1-b.1.1).toNat<(n-i).toNat/\(FR b).s7 Q
   |.out y=>Q (.out y)
   |.back z=>Q (.back z)
   |.pan p=>Q (.pan p):=by
 obtain⟨rfl,rfl,F,s,L,G⟩:=g;refine⟨λo=>?_,λo=>?_⟩;have f:i<l.length:=by simpa using o
 have k:i.toNat<l.length:=by omega
 have u:i.toNat<val.length:=by omega
 have B:=ual k;have C:=ual u;have D:l.getD i.toNat i64.j=l[i.toNat]:=by rw[uah,uaq k];rfl
 have E:val.getD i.toNat i64.j=val[i.toNat]:=by rw[uah,uaq u];rfl
 rw[B,C]at a;generalize M:l[i.toNat]=x at *;generalize N:val[i.toNat]=y at *;have K:I6.wrap (i+1)=i+1:=IntWalk.i64_in _ (by omega);have H:(i+1).toNat=i.toNat+1:=by omega
 refine⟨⟨s,f⟩,⟨s,by show i<(val.length:Int);omega⟩,?_⟩;show((bif bif bif J (l.getD i.toNat i64.j<=d)then Z else J (l.getD i.toNat i64.j>292194)then Z else val.getD i.toNat i64.j==v then Z else !(kO (val.getD i.toNat i64.j)))=Z->Q (Rd.back ((Y,()),()))) /\
  ((bif bif bif J (l.getD i.toNat i64.j<=d)then Z else J (l.getD i.toNat i64.j>292194)then Z else val.getD i.toNat i64.j==v then Z else !(kO (val.getD i.toNat i64.j)))=Y ->
   InvR (I6.wrap (i+1)) l.length l l val/\((l.length:Int)-I6.wrap (i+1)).toNat<((l.length:Int)-i).toNat /\
    (FR ((I6.wrap (i+1),(l.length:Int),l,l.getD i.toNat i64.j,val.getD i.toNat i64.j,()),(l,val,()),())).s7 Q)
 rw[D,E,K];have e:(bif bif bif J (x<=d)then Z else J (x>292194)then Z else y==v then Z else !(kO y))=!(J (d<x)&&(J (x<=292194)&&(!(y==v)&&kO y))):=by
  have w:J (x<=d)=!J (d<x):=by by_cases h:x<=d<;>simp[h]<;>omega
  have A:J (x>292194)=!J (x<=292194):=by by_cases h:x<=292194<;>simp[h]<;>omega
  rw[w,A];cases J (d<x)<;>cases J (x<=292194)<;>cases (y==v)<;>cases kO y<;>rfl
 rw[e];have r:iN (x::l.drop (i.toNat+1)) (y::val.drop (i.toNat+1)) d v=((J (d<x)&&(J (x<=292194)&&(!(y==v)&&kO y)))&&iN (l.drop (i.toNat+1)) (val.drop (i.toNat+1)) x y):=rfl;rw[r]at a;refine⟨λm=>?_,λm=>?_⟩;have c:=zgz m;rw[c]at a;exact a.2 rfl;have c:=zgw m;rw[c,uem]at a;have t:InvR (i+1) l.length l l val:=⟨rfl,rfl,F,by omega,by omega,G⟩;refine⟨t,by omega,t,?_⟩;rw[H];exact a;have f:¬ i<l.length:=by simpa using o
 have k:l.drop i.toNat=[]:=ua2 (by omega);rw[k]at a;exact a.1 rfl
def zdi:af prog (.loop (yh f206 0)) mq.M mq FR:=by refine af.loop zmu (μ:=λx=>(x.1.2.1-x.1.1).toNat) ?_ (λx Q h=>h.1);rintro⟨⟨i,n,l,d,v,_⟩,⟨at_,val,_⟩,_⟩ a Q b;exact zb7 i n l d v at_ val a Q b.2
def ΛR:Nat->St->Option Tr:=λ_=>mq.han Qj mq.M FR
def qxc(x:ap [.d bG]):Fr (aa [.bool]):=
 let a:=Int.toNat 0;Jb ((x.1.1.length:Int) != (x.1.2.1.length:Int)) (Jv (Y,()))
  (Jd (InvR 0 x.1.1.length x.1.1 x.1.1 x.1.2.1)
   (Jb (iN (x.1.1.drop a) (x.1.2.1.drop a) 0 0) (Jv (Z,())) (Jv (Y,()))))
def zll:ag prog 206 (bg [.d bG] [.bool] qxc):=
 cF DH (Λ:=ΛR) (fn:=f206) (([],[],()),()) (by kernel_rfl) (λc E a=>Xv a (by kernel_rfl) (b:=yh f206 0) (by kernel_rfl) (af.han DH rfl zdi)) (λe=>by kernel_rfl)
def my(f:bG.q):Bool:=J (f.1.length=f.2.1.length)&&iN f.1 f.2.1 0 0
def qmj:Ct:=⟨[.d bG],[.bool],λx=>(my x.1,()),λ_=>[]⟩
def zlm:ag prog 206 qmj:=
 conv zll _ _ λw F k l g _=>by
  obtain⟨⟨at_,val,_⟩,_⟩:=k;obtain⟨v,i,rfl,h,_⟩:=g;have e:=aG.wf h.2.2;have c:(at_.length:Int)<=9223372036854775807:=by have:=e.1.1;simp only[maxLen]at this;omega
  by_cases d:at_.length=val.length;have a:((at_.length:Int) != (val.length:Int))=false:=by simp[d]
  refine⟨⟨λf=>?_,λ_=>⟨⟨rfl,rfl,d,ufc _,by omega,c⟩,⟨λ_=>uT,λ_=>uT⟩⟩⟩,?_⟩;trivial;show(if ((at_.length:Int) != (val.length:Int))=Z then (Y,())else if iN at_ val 0 0=Z then (Z,())else (Y,()))=(J (at_.length=val.length)&&iN at_ val 0 0,());rw[a,ueb d];cases iN at_ val 0 0<;>rfl
  have a:((at_.length:Int) != (val.length:Int))=true:=by simp;omega
  refine⟨⟨λ_=>uT,λf=>?_⟩,?_⟩;have b:=f;rw[a]at b;cases b;show(if ((at_.length:Int) != (val.length:Int))=Z then (Y,())else _)=(J (at_.length=val.length)&&iN at_ val 0 0,());rw[a,udw d];rfl
section
attribute [local go_sem] Oper.semAt_some
def Ps(h:aG w F aP l (λ_ u=>u=v)):
  ∃ A c,v=.slice A l.length c/\l.length<=c/\c<=maxLen/\(0<l.length->∃ b off,A=U ⟨b,off,V⟩/\F b/\∀ (i:Nat) (x:Int),l[i]?= U x->w.cell? ⟨b,off+i,V⟩=U (.int .i64 x) /\ -9223372036854775808<=x/\x<=9223372036854775807):=by
 obtain⟨A,c,rfl,p,r,n⟩:=h;refine⟨A,c,rfl,p,r,λz=>?_⟩;obtain⟨e,rfl,t,y,_⟩:=n 0 l[0] (uaq z);have o:e.spot=none:=by
  have a:w.cell? (e.add (0*i64.size+0))=U (.int .i64 l[0]):=y;have m:e.add (0*i64.size+0)=e:=by simp[Addr.add]
  rw[m]at a;unfold World.cell? at a;split at a;split at a;cases a;rename_i f;cases g:e.spot with
  |none=>rfl
  |some _=>rw[g]at f;exact absurd rfl f
  cases a
 obtain⟨b,off,D⟩:=e;simp only at o;subst o;refine⟨b,off,rfl,t,λi x C=>?_⟩;obtain⟨e,s,_,k,B⟩:=n i x C;cases s;have d:w.cell? ((⟨b,off,V⟩:Addr).add (i*1+0))=U (.int .i64 x):=k;have m:(⟨b,off,V⟩:Addr).add (i*1+0)=⟨b,off+i,V⟩:=by
  unfold Addr.add;split;have:i=0:=by omega
  subst this;rfl;simp
 rw[m]at d;exact⟨d,B⟩
def gq(f:bG.q)(e:Int):List Int->Int->List (Int×Int×Int)
 |[],a=>[(a,e,eG f a)]
 |d::l,a=>if d<=a\/e<=d then gq f e l a else (a,d,eG f a)::gq f e l d
def cU(a c d:Nat)(W b:World):Prop:=Below a W b/\b.heap[c]?= W.heap[c]? /\ b.heap[d]?= W.heap[d]?
def cU.refl(a b c:Nat)(W:World):cU a b c W W:=⟨ufk _ _,rfl,rfl⟩
def cU.trans{a b c:Nat}{A B C:World}(h:cU a b c A B)(k:cU a b c B C):cU a b c A C:=⟨h.1.trans k.1,k.2.1.trans h.2.1,k.2.2.trans h.2.2⟩
def cU.below{a b c:Nat}(h:Below W.heap.size W W')(d:a<=W.heap.size)(e:b<W.heap.size)(f:c<W.heap.size):cU a b c W W':=⟨h.mono d,h.block _ e,h.block _ f⟩
def Ee{d:β->World->Prop}(b:AbidesFrom B d){s:β}(h:d s W)(a:Below W.heap.size W W'):d s W':=
 b s W W' V h ⟨a.os,a.tape,a.output,a.size,λk c _=>a.block k c⟩ (λr e=>nomatch e)
abbrev Zv(x:Int×Int×Int):Array Value:=#[.agg #[.int .i64 x.1,.int .i64 x.2.1],.int .i64 x.2.2]
def Ea(f:bG.q)(b:Value)(W:World):Prop:=∀ d:Int,-9223372036854775808<=d->d<=9223372036854775807->Calls prog 237 #[b,.int .i64 d] W λe a=>e=.returned (.int .i64 (eG f d))/\Below W.heap.size W a
def zrn{f:bG.q}{c:Value}(r:∀ b,F b->b<W.heap.size)(t:bJ W F bG f c)(o:f.1.Pairwise (· < ·))(p:f.1.length=f.2.1.length):Ea f c W:=λd g i=>by have s:bJ W F i64 d (.int .i64 d):=⟨rfl,⟨λh=>(by cases h),λ⟨w,h⟩=>(by cases h)⟩,rfl,g,i⟩;refine(zrp.2 W F (f,d,()) [c,.int .i64 d] r ⟨c,_,rfl,t,_,[],rfl,s,rfl⟩ ⟨o,p⟩).mono ?_;rintro e n ⟨v,m,rfl,a,_,_,u⟩;have k:aK prog n m (λ_ _=>True) (eR i64 (eG f d)) v:=iH u;have l:v=.int .i64 (eG f d):=k.2.1;exact⟨by rw[l],a⟩
def cn{x:Nat×Nat}(h:W.heap[b]?= U (.cells cs t x))(i:Nat):W.cell? ⟨b,i,V⟩=cs[i]? := by simp[World.cell?,h]
def uM{P:Nat->Prop}(h:∀ j,j<9->P j):P 0/\P 1/\P 2/\P 3/\P 4/\P 5/\P 6/\P 7/\P 8:=⟨h 0 (by decide),h 1 (by decide),h 2 (by decide),h 3 (by decide),h 4 (by decide),h 5 (by decide),h 6 (by decide),h 7 (by decide),h 8 (by decide)⟩
def mG:World->List Obj->World
 |w,[]=>w
 |w,o::l=>mG (w.alloc o) l
def wB:(l:List Obj)->(w:World)->Below w.heap.size w (mG w l)/\(mG w l).heap.size=w.heap.size+l.length/\∀ i o,l[i]?= U o->(mG w l).heap[w.heap.size+i]?= U o
 |[],w=>⟨ufk _ _,rfl,λi o h=>by simp at h⟩
 |a::l,w=>by
  obtain⟨c,d,e⟩:=wB l (w.alloc a);have b:=(ufk _ w).alloc (ufb _) a;refine⟨b.trans (c.mono b.size),by unfold mG;rw[d];simp;omega,λi o h=>?_⟩;cases i with
  |zero=>simp at h;subst h;exact(c.block _ (by simp)).trans (World.alloc_heap_new w _)
  |succ i=>have:=e i o (by simpa using h);rw[udg]at this;rw[<- uei,Nat.add_right_comm];exact this
structure RoundAt (n₀ B1 B2:Nat) (A:Option Addr) (at_:List Int) (va vb:Value) (e0 e1:Int) (f:bG.q) (W:World):Prop where
 b1:W.heap[B1]?= some (.cells #[va,vb] 201 (0,0))
 b2:W.heap[B2]?= some (.cells #[.int .i64 e0,.int .i64 e1] 60 (0,0))
 cells:0<at_.length->∃ b off,A=some ⟨b,off,none⟩/\b<n₀/\∀ (i:Nat) (x:Int),at_[i]?= some x->W.cell? ⟨b,off+i,none⟩=some (.int .i64 x) /\ -9223372036854775808<=x/\x<=9223372036854775807
 vals:Ea f (.agg #[va,vb]) W
section
variable {α:Type} {g:α->Int×Int×Int}
def Yp{g:α->β}{all a:List α}{y:β}{b:List β}(h:a.map g++y::b=all.map g)(d:a <+: all):∃ x,g x=y/\a++[x] <+: all:=by
 obtain⟨t,rfl⟩:=d;rw[udx]at h;have c:=List.append_cancel_left h;cases t with
 |nil=>cases c
 |cons x t=>simp at c;exact⟨x,c.1.symm,t,by simp⟩
def pi(g:α->Int×Int×Int)(f:bG.q)(c:Int)(at_:List Int)(all:List α)(k:Nat)(b:Int)(a:List α):Prop:=a <+: all/\a.map g++gq f c (at_.drop k) b=all.map g
def pi.skip{f:bG.q}{c:Int}{at_:List Int}{all:List α}{k:Nat}{a:Int}{b:List α}(h:pi g f c at_ all k a b){d:Int}(l:at_[k]?= U d)(i:d<=a\/c<=d):pi g f c at_ all (k+1) a b:=by
 obtain⟨m,rfl⟩:=uak.1 l;refine⟨h.1,?_⟩;have e:=h.2;rw[ual m]at e;rw[<- e]
 conv=>rhs;unfold gq
 rw[ufw i]
def pi.step{f:bG.q}{e:Int}{at_:List Int}{all:List α}{k:Nat}{a:Int}{b:List α}(h:pi g f e at_ all k a b){d:Int}(n:at_[k]?= U d)(m:¬ (d<=a\/e<=d)):
  ∃ x,g x=(a,d,eG f a)/\pi g f e at_ all (k+1) d (b++[x])/\b.length<all.length:=by
 obtain⟨o,rfl⟩:=uak.1 n;have c:=h.2;rw[ual o]at c;unfold gq at c;rw[ufx m]at c;obtain⟨x,l,i⟩:=Yp c h.1;refine⟨x,l,⟨i,?_⟩,?_⟩;rw[<- c];simp[l];have:=i.length_le;simp at this;omega
def pi.last{f:bG.q}{d:Int}{at_:List Int}{all:List α}{k:Nat}{a:Int}{b:List α}(h:pi g f d at_ all k a b)(e:at_.length<=k):
  ∃ x,g x=(a,d,eG f a)/\b++[x]=all/\b.length<all.length:=by
 have c:=h.2;rw[ua2 e]at c;obtain⟨x,m,l⟩:=Yp c h.1;have i:=ufu List.length c;simp[gq]at i;refine⟨x,m,l.eq_of_length (by simp;omega),by omega⟩
end
def zjk (g:α->Int×Int×Int) (all:List α) (n:Nat) (hn:1<=n) (l B1 B2 n₀:Nat) (A:Option Addr) (c:Nat) (at_:List Int) (vb:Value) (hvb:∃ A' n' c',vb=.slice A' n' c') (e0 e1:Int) (f:bG.q) (hlen:at_.length<=9223372036854775807) (he0 : -9223372036854775808<=e0/\e0<=9223372036854775807)
  (hall:all.map g=gq f e1 at_ e0) (J Jx:List α->World->Prop) (W:World) (hJ:AbidesFrom W.heap.size J) (hn0:n₀<=W.heap.size)
  (hY:∀ pre x W1,J pre W1->pre.length<all.length->YieldAt Fence.wide (n-1) prog l (Zv (g x)) W1 λe W'=>
   (e=.returned (.bool true)/\J (pre++[x]) W'/\cU n₀ B1 B2 W1 W')\/(e=.returned (.bool false)/\Jx (pre++[x]) W'))
  (hat:∀ W',cU n₀ B1 B2 W W'->RoundAt n₀ B1 B2 A at_ (.slice A at_.length c) vb e0 e1 f W') (h0:J [] W) :
  CallsIn Fence.wide n prog 236 #[.func (.yield l) #[] #[],.pointer (some ⟨B2,0,none⟩),.pointer (some ⟨B1,0,none⟩)] W λe W'=>(∃ v,e=.returned v) /\
   ((∃ xs,xs=all/\J xs W')\/(∃ pre,pre <+: all/\Jx pre W')):=by
 obtain⟨A',n',c',rfl⟩:=hvb;have hro:Fence.wide.round=none:=rfl;refine callsIn_of_wp func236 rfl trivial ?_ hro;simp only[ntmps236,ucq,uc9,udm,Nat.reduceAdd,Nat.reduceSub,ubn,ubo,ucy,ubx,udn,uc4];have r0:=hat W (cU.refl _ _ _ _);have c10:W.cell? ⟨B1,0,none⟩=some (.slice A at_.length c):=cn r0.b1 0;have c11:W.cell? ⟨B1,1,none⟩=some (.slice A' n' c'):=cn r0.b1 1;have c20:W.cell? ⟨B2,0,none⟩=some (.int .i64 e0):=cn r0.b2 0;have c21:W.cell? ⟨B2,1,none⟩=some (.int .i64 e1):=cn r0.b2 1;have hlen':=hlen
 gi_wp2
 gi_loopw [4,12] (λu i wr=>∃ (k:Nat) (cur:Int) (pre:List α),k<=at_.length/\i=.int .i64 k/\u=.int .i64 cur/\(-9223372036854775808<=cur/\cur<=9223372036854775807)/\pi g f e1 at_ all k cur pre/\J pre wr/\cU n₀ B1 B2 W wr)
  (λ_ i _=>at_.length-(intOf i).toNat)
 case atStart=>exact⟨0,e0,[],ufh _,rfl,rfl,he0,⟨List.nil_prefix,hall.symm⟩,h0,cU.refl _ _ _ _⟩
 case round=>
  obtain⟨k,cur,pre,hk,rfl,rfl,hcur,hrel,hJs,hkp⟩:=hrel;clear c10 c11 c20 c21 r0;have rr:=hat _ hkp;have c10:wr.cell? ⟨B1,0,none⟩=some (.slice A at_.length c):=cn rr.b1 0;have c11:wr.cell? ⟨B1,1,none⟩=some (.slice A' n' c'):=cn rr.b1 1;have c21:wr.cell? ⟨B2,1,none⟩=some (.int .i64 e1):=cn rr.b2 1;by_cases hlt:k<at_.length
  ·obtain⟨b,off,rfl,hb,hcx⟩:=rr.cells (by omega);obtain⟨d,hd⟩:∃ d,at_[k]?= some d:=⟨_,uaq hlt⟩;obtain⟨hcd,hdr⟩:=hcx k d hd;clear hcx;have hb1:B1<wr.heap.size:=(uaf.1 rr.b1).1;have hb2:B2<wr.heap.size:=(uaf.1 rr.b2).1;have hn1:n₀<=wr.heap.size:=uep hn0 hkp.1.size;by_cases t1:d<=cur
   ·have ht1:decide (d<=cur)=true:=by simpa using t1
    have hn:=hrel.skip hd (.inl t1)
    gi_wp2
    exact⟨⟨k+1,cur,pre,by omega,by simp,rfl,hcur,hn,hJs,hkp⟩,by simp[intOf];omega⟩
   ·have ht1:decide (d<=cur)=false:=by simpa using t1
    by_cases t2:e1<=d
    ·have ht2:decide (d>=e1)=true:=by simpa using t2
     have hn:=hrel.skip hd (.inr t2)
     gi_wp2
     exact⟨⟨k+1,cur,pre,by omega,by simp,rfl,hcur,hn,hJs,hkp⟩,by simp[intOf];omega⟩
    ·have ht2:decide (d>=e1)=false:=by simpa using t2
     obtain⟨x,hgx,hst,hln⟩:=hrel.step hd (by omega)
     gi_wp2
     refine⟨uT,?_⟩;refine(callsIn_wide.2 (rr.vals cur hcur.1 hcur.2)).mono ?_;rintro e w1 ⟨rfl,hbel⟩;have hk1:=hkp.trans (cU.below hbel hn1 hb1 hb2);obtain⟨fn,tmps,assign,body,hy,hR⟩:=hY pre x w1 (Ee hJ hJs hbel) hln;rw[hgx]at hy
     gi_wp2
     refine hR.mono ?_;rintro e W3 (⟨rfl,hJ3,hk3⟩|⟨rfl,hJx3⟩)
     ·gi_wp2
      go_roundw
      case rel=>exact⟨k+1,d,pre++[x],by omega,by simp,rfl,hdr,hst,hJ3,hk1.trans hk3⟩
      case measure=>simp[intOf];omega
     ·gi_wp2
      refine ue3 (ue4 rfl _ _ _) rfl ?_;exact⟨⟨_,rfl⟩,.inr ⟨_,hst.1,hJx3⟩⟩
  ·obtain rfl:k=at_.length:=by omega
   obtain⟨x,hgx,hl,hln⟩:=hrel.last (ufb _);have hb1:B1<wr.heap.size:=(uaf.1 rr.b1).1;have hb2:B2<wr.heap.size:=(uaf.1 rr.b2).1;have hn1:n₀<=wr.heap.size:=uep hn0 hkp.1.size;have hmx:prog.follows .mixedOrders=true:=by kernel_rfl
   have hkd:cU n₀ B1 B2 W wr.drew:=hkp.trans ⟨⟨rfl,rfl,rfl,ufb _,λ_ _=>rfl⟩,rfl,rfl⟩;have rd:=hat _ hkd;have hJd:J pre wr.drew:=Ee hJ hJs ⟨rfl,rfl,rfl,ufb _,λ_ _=>rfl⟩
   gi_wp2
   gi_region_with_o (first
    |(refine⟨uT,?_⟩;gi_at_call 237;refine(callsIn_wide.2 (rd.vals cur hcur.1 hcur.2)).mono ?_;rintro e w1 ⟨rfl,hbel⟩;have d21:w1.cell? ⟨B2,1,none⟩=some (.int .i64 e1):=cn (hat _ (hkd.trans (cU.below hbel hn1 hb1 hb2))).b2 1;obtain⟨fn,tmps,assign,body,hy,hR⟩:=hY pre x w1 (Ee hJ hJd hbel) hln;rw[hgx]at hy)
    |(refine(hR.mono (R':=λe W'=>∃ bv,e=.returned (.bool bv)/\(if bv=true then J (pre++[x]) W' else Jx (pre++[x]) W')) (λe W' h=>h.elim (λh=>⟨true,h.1,h.2.1⟩) (λh=>⟨false,h.1,h.2⟩))).mono ?_;rintro e W3 ⟨bv,rfl,hJ3⟩))
   all_goals go_end0
   all_goals (refine⟨⟨_,rfl⟩,?_⟩;cases bv;exact .inr ⟨_,⟨[],by rw[uds];exact hl⟩,hJ3⟩;exact .inl ⟨_,hl,hJ3⟩)
def Yg{v:Int}:kO v=Z ↔ -4000000000000000000<=v/\v<=4000000000000000000:=by simp[kO]
def OU:{l r:List Int} -> {d v:Int}->iN l r d v=Z->l.length=r.length->l.Pairwise (· < ·)/\(∀ x∈l,d<x/\x<=292194)/\∀ y∈r,kO y=Z
 |[],[],_,_,_,_=>⟨List.Pairwise.nil,by simp,by simp⟩
 |[],_::_,_,_,_,e=>by simp at e
 |_::_,[],_,_,_,e=>by simp at e
 |a::l,b::r,d,v,h,e=>by
  simp only[iN,udc,ucu]at h;obtain⟨⟨i,k,s,m⟩,n⟩:=h;obtain⟨o,g,p⟩:=OU n (by simpa using e);refine⟨uca.2 ⟨λx c=>(g x c).1,o⟩,λx c=>?_,λy f=>?_⟩;rcases uej.1 c with rfl|c
  exact⟨i,k⟩;exact⟨ue2 i (g x c).1,(g x c).2⟩;rcases uej.1 f with rfl|f
  exact m;exact p y f
def OR{f:bG.q}(h:my f=Z):f.1.length=f.2.1.length/\f.1.Pairwise (· < ·)/\(∀ x∈f.1,0<x/\x<=292194)/\∀ y∈f.2.1,-4000000000000000000<=y/\y<=4000000000000000000:=by simp only[my,udc,ucu]at h;obtain⟨a,b,c⟩:=OU h.2 h.1;exact⟨h.1,a,b,λy d=>Yg.1 (c y d)⟩
def qds{f:bG.q}(h:∀ y∈f.2.1,-4000000000000000000<=y/\y<=4000000000000000000)(d:Int): -4000000000000000000<=eG f d/\eG f d<=4000000000000000000:=by
 unfold eG;split;omega;rename_i k _;rw[uah];cases a:f.2.1[k]? with
 |none=>simp
 |some y=>have:=h y (ubg a);simpa using this
def sZ(x:Int×Int×Int):Prop:=1<=x.1/\x.1<x.2.1/\x.2.1<=292195 /\ -4000000000000000000<=x.2.2/\x.2.2<=4000000000000000000
def GX{f:bG.q}(h:∀ y∈f.2.1,-4000000000000000000<=y/\y<=4000000000000000000){e:Int}(i:e<=292195):(l:List Int)->(a:Int)->1<=a->a<e->∀ x∈gq f e l a,sZ x
 |[],a,c,g,x,b=>by simp only[gq,ucf]at b;subst b;exact⟨c,g,i,qds h a⟩
 |d::l,a,c,g,x,b=>by
  unfold gq at b;split at b;exact GX h i l a c g x b;rename_i k;rcases uej.1 b with rfl|b
  exact⟨c,by show a<d;omega,by show d<=292195;omega,qds h a⟩;exact GX h i l d (by omega) (by omega) x b
abbrev lK:Type:={ x:Int×Int×Int // sZ x }
def lC(q:Int×Int)(x:Int×Int×Int):Option (Int×Int):=
 if max x.2.2 (-x.2.2)>(4000000000000000000-q.2)/(x.2.1-x.1)then V else U (q.1+(x.2.1-x.1)*x.2.2,q.2+(x.2.1-x.1)*max x.2.2 (-x.2.2))
def fN:List (Int×Int×Int)->Int×Int->Option (Int×Int)
 |[],q=>U q
 |x::l,q=>(lC q x).bind (fN l)
def qb1(l m:List (Int×Int×Int))(q:Int×Int):fN (l++m) q=(fN l q).bind (fN m):=by
 induction l generalizing q with
 |nil=>rfl
 |cons x l a=>
  simp only[uc4,fN];cases lC q x with
  |none=>rfl
  |some b=>exact a b
def Ap(q:Int×Int):Prop:=0<=q.2/\q.2<=4000000000000000000 /\ -q.2<=q.1/\q.1<=q.2
def qb4{q d:Int×Int}{x:Int×Int×Int}(m:sZ x)(h:lC q x=U d)(l:Ap q):Ap d/\(x.2.1-x.1)*max x.2.2 (-x.2.2)<=4000000000000000000-q.2/\0<=(x.2.1-x.1)*max x.2.2 (-x.2.2) /\ -((x.2.1-x.1)*max x.2.2 (-x.2.2))<=(x.2.1-x.1)*x.2.2/\(x.2.1-x.1)*x.2.2<=(x.2.1-x.1)*max x.2.2 (-x.2.2):=by
 obtain⟨u,w,y,z,A⟩:=m;obtain⟨a,b,v⟩:=x;obtain⟨s,t⟩:=q;obtain⟨n,o,p,r⟩:=l;unfold lC at h;split at h;cases h;rename_i B;cases h;simp only at *;have k:0<b-a:=by omega
 have c:max v (-v)<=(4000000000000000000-t)/(b-a):=by omega
 have e:(b-a)*max v (-v)<=4000000000000000000-t:=by have:=(Int.le_ediv_iff_mul_le k).1 c;rw[ue1];exact this
 have f:0<=(b-a)*max v (-v):=uec (by omega) (by omega);have g:(b-a)*v<=(b-a)*max v (-v):=Int.mul_le_mul_of_nonneg_left (by omega) (by omega);have i : -((b-a)*max v (-v))<=(b-a)*v:=by rw[<- Int.mul_neg];exact Int.mul_le_mul_of_nonneg_left (by omega) (by omega)
 refine⟨⟨?_,?_,?_,?_⟩,e,f,i,g⟩<;>simp only<;>omega
def fP(f:bG.q)(s:cK.q):Int×Int:=
 if my f=Z/\fp s=Z then match fN (gq f s.2.1 f.1 s.1) (0,0)with
  |some q=>(q.1,0)
  |none=>(0,5)
 else (0,1)
def EB:Ct:=⟨[.d bG,.d cK],[i64,i64],λx=>((fP x.1 x.2.1).1,(fP x.1 x.2.1).2,()),λ_=>[]⟩
def zjl(n:Nat)(A a:Option Addr)(g b h c:Nat)(d f:Int)(w:World):
  CallsIn Fence.wide n prog 208 #[.agg #[.slice A g b,.slice a h c],.agg #[.int .i64 d,.int .i64 f]] w λe w'=>
   e=.returned (.func (.func 236) #[] #[.pointer (U ⟨w.heap.size+1,0,V⟩),.pointer (U ⟨w.heap.size,0,V⟩)]) /\
   w'=(w.alloc (.cells #[.slice A g b,.slice a h c] 201)).alloc (.cells #[.int .i64 d,.int .i64 f] 60):=by
 refine callsIn_of_wp func208 rfl trivial ?_ rfl;simp only[ntmps208,ucq,uc9,udm,Nat.reduceAdd,Nat.reduceSub,ubn,ubo,ucy,ubx,udn,uc4]
 gi_wp2
 go_ret
 exact⟨rfl,rfl⟩
def JE{ps:List PT}{g:ap ps->Bool}{ok:ap ps->List Prop}(h:ag prog f ⟨ps,[.bool],λx=>(g x,()),ok⟩){xs:ap ps}(l:∀ b,F b->b<w.heap.size)(m:dm prog w F ps xs vs)(c:az (ok xs)):
  Calls prog f vs.toArray w λe w'=>e=.returned (.bool (g xs))/\Below w.heap.size w w':=by
 refine(h.2 w F xs vs l m c).mono ?_;rintro e w' ⟨v,k,rfl,a,_,_,n⟩;have d:aK prog w' k (λ_ _=>True) (eR .bool (g xs)) v:=iH n;have i:=d.2;exact⟨by rw[i],a⟩
structure Four (W:World) (z:Nat) (va vb x0 x1 x4 x5:Value):Prop where
 b0:W.heap[z]?= some (.cells #[va,vb] 201 (0,0))
 b1:W.heap[z+1]?= some (.cells #[x0,x1] 60 (0,0))
 b2:Boxed W (z+1+1) 3 x4
 b3:Boxed W (z+1+1+1) 38 x5
def Four.below{z:Nat}{b c d e f g:Value}(h:Four W z b c d e f g)(a:Below m W W')(i:z+3<m):Four W' z b c d e f g:=
 ⟨(a.block _ (by omega)).trans h.b0,(a.block _ (by omega)).trans h.b1,(a.block _ (by omega)).trans h.b2,(a.block _ (by omega)).trans h.b3⟩
def Four.cells{z:Nat}{a b c d e f:Value}(h:Four W z a b c d e f):
  W.cell? ⟨z,0,V⟩=U a/\W.cell? ⟨z,1,V⟩=U b/\W.cell? ⟨z+1,0,V⟩=U c/\W.cell? ⟨z+1,1,V⟩=U d /\
   W.cell? ⟨z+1+1,0,V⟩=U e/\W.frozen? ⟨z+1+1,0,V⟩=Y/\W.cell? ⟨z+1+1+1,0,V⟩=U f/\W.frozen? ⟨z+1+1+1,0,V⟩=false:=
 ⟨cn h.b0 0,cn h.b0 1,cn h.b1 0,cn h.b1 1,h.b2.cell,h.b2.frozen,h.b3.cell,h.b3.frozen⟩
def zpa (f:bG.q) (A l:Option Addr) (r n s o:Nat) (d g:Int) (w:World)
  (t:∀ W,Below w.heap.size w W->Calls prog 206 #[.agg #[.slice A r n,.slice l s o]] W λe w'=>e=.returned (.bool (my f))/\Below W.heap.size W w')
  (z:∀ W,Calls prog 207 #[.agg #[.int .i64 d,.int .i64 g]] W λe w'=>e=.returned (.bool (fp (d,g,())))/\Below W.heap.size W w')
  (p:¬ (my f=Z/\fp (d,g,())=Z)) :
  CallsIn Fence.wide 8 prog 140 #[.agg #[.slice A r n,.slice l s o],.agg #[.int .i64 d,.int .i64 g]] w λe w'=>e=.returned (.tuple #[.int .i64 0,.int .i64 1])/\Below w.heap.size w w':=by
 refine callsIn_of_wp func140 rfl trivial ?_ rfl;simp only[ntmps140,ucq,uc9,udm,Nat.reduceAdd,Nat.reduceSub,ubn,ubo,ucy,ubx,udn,uc4];generalize C:my f=x at *;generalize c:fp (d,g,())=y at *;obtain⟨a,k,h⟩:=wB [.cells #[.slice A r n,.slice l s o] 201,.cells #[.int .i64 d,.int .i64 g] 60,.cells #[.int .i64 0] 3,.cells #[.int .i64 0] 38] w;simp only[mG]at a k h;have B:Four _ w.heap.size _ _ _ _ _ _:=⟨h 0 _ rfl,h 1 _ rfl,h 2 _ rfl,h 3 _ rfl⟩;have k:=Nat.lt_of_lt_of_eq (Nat.lt_succ_self (w.heap.size+3)) k.symm;have m:=Lib.hid B;have i:=Lib.hid k;clear h;cases x
 ·gi_wp2_with (refine⟨uT,?_⟩;gi_at_call 206;refine(callsIn_wide.2 (t _ a)).mono ?_;rintro e N ⟨rfl,b⟩;obtain⟨D,E,F,G,u,H,v,K⟩:=(m.out.below b i.out).cells)
  refine⟨uT,?_⟩
  gi_wp2
  refine ue3 (by simp[results,results140,go_sem,u,v]) rfl ⟨rfl,?_⟩;exact(((a.trans (b.mono (by simp;omega))).setCell (by simp;omega) _).setCell (by simp;omega) _)
 ·cases y
  ·gi_wp2_with (first|(refine⟨uT,?_⟩;gi_at_call 206;refine(callsIn_wide.2 (t _ a)).mono ?_;rintro e N ⟨rfl,b⟩;obtain⟨D,E,F,G,u,H,v,K⟩:=(m.out.below b i.out).cells)|(refine⟨uT,?_⟩;gi_at_call 207;refine(callsIn_wide.2 (z _)).mono ?_;rintro e w2 ⟨rfl,c⟩;obtain⟨O,P,Q,R,L,S,M,T⟩:=((m.out.below b i.out).below c (ucb i.out b.size)).cells))
   refine ue3 (by simp[results,results140,go_sem,L,M]) rfl ⟨rfl,?_⟩;exact((((a.trans (b.mono (by simp;omega))).trans (c.mono (uep (a.trans (b.mono (by simp;omega))).size (ufb _)))).setCell (by simp;omega) _).setCell (by simp;omega) _)
  exact absurd ⟨rfl,rfl⟩ p
def zjm(m:Nat)(Q:1<=m)(f:bG.q)(A s:Option Addr)(t D u:Nat)(h v:Int)(all:List lK)(n:all.map Subtype.val=gq f v f.1 h)(r:f.1.length<=9223372036854775807)(B : -9223372036854775808<=h/\h<=9223372036854775807)(w:World)(e g:Nat)(d:World)(G:Below w.heap.size w d)(o:d.heap[e]?= U (.cells #[.slice A f.1.length t,.slice s D u] 201 (0,0)))(p:d.heap[g]?= U (.cells #[.int .i64 h,.int .i64 v] 60 (0,0)))(a:∀ W,Below w.heap.size w W->0<f.1.length->∃ b off,A=U ⟨b,off,V⟩/\b<w.heap.size/\∀ (i:Nat) (x:Int),f.1[i]?= U x->W.cell? ⟨b,off+i,V⟩=U (.int .i64 x) /\ -9223372036854775808<=x/\x<=9223372036854775807)(c:∀ W,Below w.heap.size w W->Ea f (.agg #[.slice A f.1.length t,.slice s D u]) W):
  SeqStopsK Fence.wide m prog 236 #[.pointer (U ⟨g,0,V⟩),.pointer (U ⟨e,0,V⟩)] (λx:lK=>Zv x.1) (cU w.heap.size e g) (λxs=>xs=all) (λE=>E <+: all) all.length d:=λl R K W z N O P y=>by
 have L:e<d.heap.size:=(uaf.1 o).1;have M:g<d.heap.size:=(uaf.1 p).1;have H:Below w.heap.size w W:=G.trans (z.mono G.size);refine zjk Subtype.val all m Q l e g w.heap.size A t f.1 (.slice s D u) ⟨_,_,_,rfl⟩ h v f r B n R K W N H.size P (λF C=>?_) y;have k:=H.trans C.1;exact⟨C.2.1.trans ((z.block _ L).trans o),C.2.2.trans ((z.block _ M).trans p),a F k,c F k⟩
def qj2(o:Option (Int×Int))(e:Ending):Prop:=match o with
 |some q=>e=.returned (.tuple #[.int .i64 q.1,.int .i64 0])
 |none=>e=.returned (.tuple #[.int .i64 0,.int .i64 5])
structure SumI (w:World) (z0 b4 b5 b6 b7:Nat) (pre:List lK) (W:World) (q:Int×Int):Prop where
 sum:fN (pre.map Subtype.val) (0,0)=some q
 inv:Ap q
 x6:Boxed W b6 3 (.int .i64 q.1)
 x7:Boxed W b7 3 (.int .i64 q.2)
 x4:Boxed W b4 3 (.int .i64 0)
 x5:Boxed W b5 38 (.int .i64 0)
 bel:Below w.heap.size w W
 sz:z0<=W.heap.size
structure SumX (w:World) (b4 b5:Nat) (c:Code) (pre:List lK) (W:World):Prop where
 ret:c=.ret
 sum:fN (pre.map Subtype.val) (0,0)=none
 x4:Boxed W b4 3 (.int .i64 0)
 x5:Boxed W b5 38 (.int .i64 5)
 bel:Below w.heap.size w W
def ku{X f:World}{a:Option Nat}(h:Boxed X b t v)(c:X.grownBy f a)(d:∀ r,a=U r->B<=r/\∃ o:Obj,X.heap[r]?= U o/\o.isCells=Y):Boxed f b t v:=
 boxed_own b t (λ(_:Unit)=>v) () X f a h c (λr e=>(d r e).2)
def zo3{o d f g i:Nat}(l:w.heap.size<=B):OwnFrom B (λc W=>∃ q,SumI w o d f g i c W q):=λc X p n m a b=>by obtain⟨q,h⟩:=m;exact⟨q,h.sum,h.inv,ku h.x6 a b,ku h.x7 a b,ku h.x4 a b,ku h.x5 a b,h.bel.grown a h.bel.size (λk e=>uep l (b k e).1),uep h.sz a.size⟩
def zo8{f g:Nat}(i:w.heap.size<=B)(c:Code):OwnFrom B (λa W=>SumX w f g c a W):=λa X m l h b d=>⟨h.ret,h.sum,ku h.x4 b d,ku h.x5 b d,h.bel.grown b h.bel.size (λk e=>uep i (d k e).1)⟩
def RO(d:Nat)(a:Int×Int×Int->Nat->Act)(x:lK)(c:Act)(W:World):Prop:=∃ b,d<=b/\W.heap[b]?= U (.cells #[.int .i64 x.1.1,.int .i64 x.1.2.1] 60 (0,0))/\c=a x.1 b
def zo2{p:Nat}{a:Int×Int×Int->Nat->Act}(x:lK)(f:Act):OwnFrom B (λ(_:Unit) W=>RO p a x f W):=λ_ X r n m k l=>by obtain⟨b,g,c,h⟩:=m;refine⟨b,g,(k.block b (uaf.1 c).1 (λe=>?_)).trans c,h⟩;obtain⟨_,o,d,i⟩:=l b e.symm;rw[c]at d;cases d;cases i
def XY(v:Int):max v (-v)=if v < -v then -v else v:=by split<;>omega
def qb6{a:List lK}{q:Int×Int}(h:fN (a.map Subtype.val) (0,0)=U q)(x:lK):fN ((a++[x]).map Subtype.val) (0,0)=lC q x.1:=by rw[udx,qb1,h];show(lC q x.1).bind (fN [])=_;cases lC q x.1<;>rfl
def HE(W:World){k:Nat}(v:Value)(h:k≠b):(W.setCell ⟨b,0,V⟩ v).heap[k]?= W.heap[k]? := by by_cases a:k<W.heap.size;exact(grownBy_setCell' W b v).block k a (λe=>h (by cases e;rfl));rw[ua1 (by rw[ucg];omega),ua1 (by omega)]
def qb0{p b c i k:Nat}{e:List lK}{s g h v:Int}(f:SumI w p b c i k e W (s,a))(o:sZ (g,h,v))(n:(4000000000000000000-a)/(h-g)<if v < -v then -v else v)(d:b≠c)(l:w.heap.size<=b)(m:w.heap.size<=c):
  SumX w b c .ret (e++[⟨(g,h,v),o⟩]) ((W.setCell ⟨b,0,V⟩ (.int .i64 0)).setCell ⟨c,0,V⟩ (.int .i64 5)):=by
 refine⟨rfl,?_,(f.x4.set _).other d _,(f.x5.other (Ne.symm d) _).set _,(f.bel.setCell l _).setCell m _⟩;rw[qb6 f.sum];unfold lC;rw[ufw];rw[XY];exact n
def qbz{y k l e f:Nat}{i:List lK}{s b c v m:Int}(d:SumI w y k l e f i W (s,a))(x:sZ (b,c,v))(O:(if v < -v then -v else v)<=(4000000000000000000-a)/(c-b))(D:m=if v < -v then -v else v)(n:k≠e)(o:k≠f)(p:l≠e)(r:l≠f)(g:e≠f)(B:w.heap.size<=e)(C:w.heap.size<=f):
  SumI w y k l e f (i++[⟨(b,c,v),x⟩]) ((W.setCell ⟨e,0,V⟩ (.int .i64 (wrap64 (s+wrap64 ((c-b)*v))))).setCell ⟨f,0,V⟩ (.int .i64 (wrap64 (a+wrap64 ((c-b)*m))))) (s+(c-b)*v,a+(c-b)*max v (-v)):=by
 have u:lC (s,a) (b,c,v)=U (s+(c-b)*v,a+(c-b)*max v (-v)):=by unfold lC;rw[ufx];show ¬ max v (-v)>(4000000000000000000-a)/(c-b);omega
 have t:m=max v (-v):=by rw[XY];exact D
 obtain⟨h,K,L,M,N⟩:=qb4 x u d.inv;obtain⟨E,F,G,H⟩:=d.inv;simp only at K L M N E F G H;subst t;have z:wrap64 (s+wrap64 ((c-b)*v))=s+(c-b)*v:=by rw[IntWalk.wrap64_in ((c-b)*v) (by omega),IntWalk.wrap64_in _ (by omega)]
 have A:wrap64 (a+wrap64 ((c-b)*max v (-v)))=a+(c-b)*max v (-v):=by rw[IntWalk.wrap64_in ((c-b)*max v (-v)) (by omega),IntWalk.wrap64_in _ (by omega)]
 rw[z,A];exact⟨by rw[qb6 d.sum];exact u,h,(d.x6.set _).other g _,(d.x7.other (Ne.symm g) _).set _,(d.x4.other n _).other o _,(d.x5.other p _).other r _,
  (d.bel.setCell B _).setCell C _,by rw[ucg,ucg];exact d.sz⟩
def Xt{a d e:Nat}(W:World)(u v:Value)(k:a<=b)(l:a<=c)(f:d≠b)(g:d≠c)(h:e≠b)(i:e≠c):cU a d e W ((W.setCell ⟨b,0,V⟩ u).setCell ⟨c,0,V⟩ v):=
 ⟨((ufk a W).setCell k _).setCell l _,(HE _ _ g).trans (HE _ _ f),(HE _ _ i).trans (HE _ _ h)⟩
def zpc(f:bG.q)(A z:Option Addr)(F Q G:Nat)(u H:Int)(w:World)(hR:∀ W,Below w.heap.size w W->Calls prog 206 #[.agg #[.slice A f.1.length F,.slice z Q G]] W λe w'=>e=.returned (.bool Z)/\Below W.heap.size W w')(hF:∀ W,Calls prog 207 #[.agg #[.int .i64 u,.int .i64 H]] W λe w'=>e=.returned (.bool Z)/\Below W.heap.size W w')(all:List lK)(hall:all.map Subtype.val=gq f H f.1 u)(hlen:f.1.length<=9223372036854775807)(he0 : -9223372036854775808<=u/\u<=9223372036854775807)(P:∀ W,Below w.heap.size w W->0<f.1.length->∃ b off,A=U ⟨b,off,V⟩/\b<w.heap.size/\∀ (i:Nat) (x:Int),f.1[i]?= U x->W.cell? ⟨b,off+i,V⟩=U (.int .i64 x) /\ -9223372036854775808<=x/\x<=9223372036854775807)(hvals:∀ W,Below w.heap.size w W->Ea f (.agg #[.slice A f.1.length F,.slice z Q G]) W):
  CallsIn Fence.wide 8 prog 140 #[.agg #[.slice A f.1.length F,.slice z Q G],.agg #[.int .i64 u,.int .i64 H]] w λe w'=>qj2 (fN (all.map Subtype.val) (0,0)) e/\Below w.heap.size w w':=by
 refine callsIn_of_wp_marks func140 rfl trivial ?_ rfl;simp only[ntmps140,ucq,uc9,udm,Nat.reduceAdd,Nat.reduceSub,ubn,ubo,ucy,ubx,udn,uc4];obtain⟨M,hz,t⟩:=wB [.cells #[.slice A f.1.length F,.slice z Q G] 201,.cells #[.int .i64 u,.int .i64 H] 60,.cells #[.int .i64 0] 3,.cells #[.int .i64 0] 38] w;simp only[mG]at M hz t;have hS:Four _ w.heap.size _ _ _ _ _ _:=⟨t 0 _ rfl,t 1 _ rfl,t 2 _ rfl,t 3 _ rfl⟩;have hz:=Nat.lt_of_lt_of_eq (Nat.lt_succ_self (w.heap.size+3)) hz.symm;have HS:=Lib.hid hS;have HZ:=Lib.hid hz;clear hS hz t
 gi_wp2_with (first|(refine⟨uT,?_⟩;gi_at_call 206;refine(callsIn_wide.2 (hR _ M)).mono ?_;rintro e w1 ⟨rfl,hb⟩;obtain⟨k0,k1,k2,k3,k4,k5,k6,k7⟩:=(HS.out.below hb HZ.out).cells)|(refine⟨uT,?_⟩;gi_at_call 207;refine(callsIn_wide.2 (hF _)).mono ?_;rintro e g ⟨rfl,O⟩;have B:=Lib.hid ((HS.out.below hb HZ.out).below O (ucb HZ.out hb.size));have C:=Lib.hid (ucb (ucb HZ.out hb.size) O.size);have HW3:=Lib.hid (B.out.below (((ufk g.heap.size g).alloc (ufb _) (.cells #[.int .i64 0] 3)).alloc (by simp) (.cells #[.int .i64 0] 3)) C.out);obtain⟨m0,m1,m2,m3,m4,m5,m6,m7⟩:=B.out.cells;obtain⟨n0,n1,n2,n3,n4,n5,n6,n7⟩:=HW3.out.cells)|(refine⟨uT,?_⟩;gi_at_call 208;refine(zjl _ _ _ _ _ _ _ _ _ _).mono ?_;rintro e w3 ⟨rfl,rfl⟩))
 obtain⟨z2,hz2⟩:∃ z2,g.heap.size=z2:=⟨_,rfl⟩;have m:Below w.heap.size w g:=(M.trans (hb.mono (by simp;omega))).trans (O.mono (uep (by simp;omega) hb.size))
 let L:List Obj:=[.cells #[.int .i64 0] 3,.cells #[.int .i64 0] 3,.cells #[.slice A f.1.length F,.slice z Q G] 201,.cells #[.int .i64 u,.int .i64 H] 60]
 obtain⟨hbW,hsz,t⟩:=wB L g;have hW4:=B.out.below hbW C.out;have hzz:=C.out;show Code.wpIn _ _ _ _ _ _ (mG g L);generalize mG g L=W0 at *;replace hsz:W0.heap.size=g.heap.size+4:=hsz;have r0:=t 0 _ rfl;have r1:=t 1 _ rfl;have r2:=t 2 _ rfl;have q3:=t 3 _ rfl;clear t;clear HW3 B C HS HZ M m0 m1 m2 m3 m4 m5 m6 m7 n0 n1 n2 n3 n4 n5 n6 n7 k0 k1 k2 k3 k4 k5 k6 k7;have y:Below w.heap.size w W0:=m.trans (hbW.mono m.size);clear hbW hb O hz2 m hR hF;have hzw:w.heap.size+3<W0.heap.size:=by omega
 have hsz':g.heap.size+4<=W0.heap.size:=by omega
 clear hsz;refine wpIn_rangeFunc_ownH rfl (by omega) (gf:=236) (lb:=#[.pointer (U ⟨g.heap.size+1+1+1,0,V⟩),.pointer (U ⟨g.heap.size+1+1,0,V⟩)]) rfl trivial (enters_of func236 (by kernel_rfl) rfl)
  (zjm 7 (by omega) f A z F Q G u H all hall hlen he0 w (g.heap.size+1+1) (g.heap.size+1+1+1) W0 y r2 q3 P hvals)
  (λh k=>h.trans k) (λW l o o' hl ho hoc how=>⟨belowK_b (w:=w) (ufb _) W l o o' (by omega) ho hoc how,World.putObj_heap_other (by omega),World.putObj_heap_other (by omega)⟩) (ufk _ _) (λ_=>rfl)
  (λn W=>∃ q,SumI w W0.heap.size (w.heap.size+1+1) (w.heap.size+1+1+1) g.heap.size (g.heap.size+1) n W q)
  (λc n W=>SumX w (w.heap.size+1+1) (w.heap.size+1+1+1) c n W)
  (zo3 (by omega)) (zo8 (by omega)) ⟨(0,0),rfl,⟨by decide,by decide,by decide,by decide⟩,r0,r1,hW4.b2,hW4.b3,y,ufb _⟩
  (RO W0.heap.size (λx Bx=>{ tmps:=#[.agg #[.slice A f.1.length F,.slice z Q G],.agg #[.int .i64 u,.int .i64 H],.pointer (U ⟨w.heap.size,0,V⟩),.pointer (U ⟨w.heap.size+1,0,V⟩),.pointer (U ⟨w.heap.size+1+1,0,V⟩),.pointer (U ⟨w.heap.size+1+1+1,0,V⟩),.pointer (U ⟨g.heap.size,0,V⟩),.pointer (U ⟨g.heap.size+1,0,V⟩),.pointer (U ⟨Bx,0,V⟩),.int .i64 x.2.2,undef,undef,
   .agg #[.slice A f.1.length F,.slice z Q G],.bool Z,.bool Y,.bool Y,.agg #[.int .i64 u,.int .i64 H],.bool Z,.bool Y,.bool Y,.agg #[.slice A f.1.length F,.slice z Q G],.agg #[.int .i64 u,.int .i64 H],.func (.func 236) #[] #[.pointer (U ⟨g.heap.size+1+1+1,0,V⟩),.pointer (U ⟨g.heap.size+1+1,0,V⟩)],
   .agg #[.int .i64 x.1,.int .i64 x.2.1],.int .i64 x.2.2,undef,undef,undef,undef,undef,undef,undef,undef,undef,undef,undef,undef,undef,undef,undef,undef,undef,undef,undef,undef,undef,undef,undef,undef,undef,undef],defers:=[] }))
  zo2 ?assign ?body ?done ?stop
 case assign=>
  rintro l n x W K ⟨q,d⟩ T;obtain⟨⟨R,S,v⟩,hx⟩:=x
  gi_wp2
  have hsz1:=d.sz;exact T _ _ ((KeepsOthers.alloc _ _).from _) (cU.below ((ufk _ W).alloc (ufb _) _) d.bel.size (by omega) (by omega))
   ⟨q,d.sum,d.inv,d.x6.alloc _,d.x7.alloc _,d.x4.alloc _,d.x5.alloc _,d.bel.alloc d.bel.size _,by simp;omega⟩ ⟨W.heap.size,hsz1,World.alloc_heap_new W _,rfl⟩
 case body=>
  rintro l n x a' W hl ⟨r,hr⟩ ⟨q,d⟩ ⟨Bx,hBx,bX,rfl⟩ hlt;obtain⟨⟨R,S,v⟩,hx⟩:=x;obtain⟨s,a⟩:=q;have hx':1<=R/\R<S/\S<=292195 /\ -4000000000000000000<=v/\v<=4000000000000000000:=hx;obtain⟨y1,y2,y3,y4,y5⟩:=hx';have hinv:0<=a/\a<=4000000000000000000 /\ -a<=s/\s<=a:=d.inv;obtain⟨i1,i2,i3,i4⟩:=hinv;have E:W.heap[Bx]?= U (.cells #[.int .i64 R,.int .i64 S] 60 (0,0)):=bX;have cX0:W.cell? ⟨Bx,0,V⟩=U (.int .i64 R):=cn E 0;have cX1:W.cell? ⟨Bx,1,V⟩=U (.int .i64 S):=cn E 1;have c6:W.cell? ⟨g.heap.size,0,V⟩=U (.int .i64 s):=d.x6.cell;have c7:W.cell? ⟨g.heap.size+1,0,V⟩=U (.int .i64 a):=d.x7.cell;have f6:=d.x6.frozen;have f7:=d.x7.frozen;have c4:=d.x4.cell;have f4:=d.x4.frozen;have c5:=d.x5.cell;have f5:=d.x5.frozen;have HB:=Lib.hid E;clear bX E hr
  gi_wp2
  have hc:(4000000000000000000-a)/(S-R)<if v < -v then -v else v:=by assumption
  exact⟨((KeepsOthers.setCell _ _ _).trans (KeepsOthers.setCell _ _ _)).from _,qb0 d hx hc (by omega) (by omega) (by omega)⟩;have hc:(4000000000000000000-a)/(S-R)<if v < -v then -v else v:=by assumption
  exact⟨((KeepsOthers.setCell _ _ _).trans (KeepsOthers.setCell _ _ _)).from _,qb0 d hx hc (by omega) (by omega) (by omega)⟩;have hc:(if v < -v then -v else v)<=(4000000000000000000-a)/(S-R):=by assumption
  have hv:v < -v:=by assumption
  exact⟨((KeepsOthers.setCell _ _ _).trans (KeepsOthers.setCell _ _ _)).from _,Xt W _ _ (by omega) (by omega) (by omega) (by omega) (by omega) (by omega),_,_,
   qbz d hx hc (by rw[ufw hv]) (by omega) (by omega) (by omega) (by omega) (by omega) (by omega) (by omega)⟩
  have hc:(if v < -v then -v else v)<=(4000000000000000000-a)/(S-R):=by assumption
  have hv:¬ v < -v:=by omega
  exact⟨((KeepsOthers.setCell _ _ _).trans (KeepsOthers.setCell _ _ _)).from _,Xt W _ _ (by omega) (by omega) (by omega) (by omega) (by omega) (by omega),_,_,
   qbz d hx hc (by rw[ufx hv]) (by omega) (by omega) (by omega) (by omega) (by omega) (by omega) (by omega)⟩
 case done=>
  rintro D zs W hD rfl ⟨q,d⟩ T;have c6:=d.x6.cell;have c4:=d.x4.cell;have f4:=d.x4.frozen;have c5:=d.x5.cell;have f5:=d.x5.frozen
  gi_wp2
  have N:=((KeepsOthers.setCell W ⟨w.heap.size+1+1,0,V⟩ (.int .i64 q.1)).trans (KeepsOthers.setCell _ ⟨w.heap.size+1+1+1,0,V⟩ (.int .i64 0))).same D _ T rfl;have x4':=(d.x4.set (.int .i64 q.1)).other (B':=w.heap.size+1+1+1) (by omega) (.int .i64 0);have x5':=(d.x5.other (B':=w.heap.size+1+1) (by omega) (.int .i64 q.1)).set (.int .i64 0);have d4:=cell_kept x4'.cell (grownBy_putObj' _ D (.deferred V)) (λr e=>by cases e;exact⟨_,N,rfl⟩);have d5:=cell_kept x5'.cell (grownBy_putObj' _ D (.deferred V)) (λr e=>by cases e;exact⟨_,N,rfl⟩);have hbb:=(d.bel.setCell (p:=⟨w.heap.size+1+1,0,V⟩) (by show w.heap.size<=w.heap.size+1+1;omega) (.int .i64 q.1)).setCell (p:=⟨w.heap.size+1+1+1,0,V⟩) (by show w.heap.size<=w.heap.size+1+1+1;omega) (.int .i64 0);refine⟨by simp,.inl ⟨_,_,rfl,run_takeDeferred N,?_⟩⟩;refine⟨.tuple #[.int .i64 q.1,.int .i64 0],?_,?_,hbb.trans (belowK_b (w:=w) (ufb _) _ D _ _ (by omega) N rfl rfl)⟩
  ·simp[results,results140,go_sem,d4,d5]
  rw[d.sum];rfl
 case stop=>
  rintro D c n W hD ⟨r,rfl⟩ h T;obtain rfl:=h.ret;have c4:=h.x4.cell;have f4:=h.x4.frozen;have c5:=h.x5.cell;have f5:=h.x5.frozen
  gi_wp2
  have d4:=cell_kept h.x4.cell (grownBy_putObj' _ D (.deferred V)) (λr e=>by cases e;exact⟨_,T,rfl⟩);have d5:=cell_kept h.x5.cell (grownBy_putObj' _ D (.deferred V)) (λr e=>by cases e;exact⟨_,T,rfl⟩);refine⟨by simp,.inl ⟨_,_,rfl,run_takeDeferred T,?_⟩⟩;refine⟨.tuple #[.int .i64 0,.int .i64 5],?_,?_,h.bel.trans (belowK_b (w:=w) (ufb _) _ D _ _ (by omega) T rfl rfl)⟩
  ·simp[results,results140,go_sem,d4,d5]
  rw[udx,qb1,h.sum];rfl
end
def Sf{a b:Value}(f:cs.size=2)(c:cs[0]?= U a)(d:cs[1]?= U b):cs = #[a,b]:=by
 apply ufp;simp[f];intro i g h;have e:i<2:=by omega
 match i,e with
 |0,_=>have:=uaf.1 c;simpa using this.2
 |1,_=>have:=uaf.1 d;simpa using this.2
def zov{f:bG.q}(h:bJ w F bG f v):∃ a b,v=.agg #[a,b]/\aG w F aP f.1 (λ_ u=>u=a)/\aG w F aP f.2.1 (λ_ u=>u=b):=by
 obtain⟨d,rfl⟩:=h.2.1.1 rfl;have i:d.size=2:=h.1;refine⟨d[0]'(by omega),d[1]'(by omega),?_,?_,?_⟩;congr 1;exact Sf i (uam (by omega)) (uam (by omega));refine aG.mono (λ_ h=>h) (λ_ _=>rfl) ?_ h.2.2.1;intro j u e g;have:j=0:=by have:j<1:=e;omega
 subst this;have c:d[0]?= U u:=g;rw[uam (by omega)]at c;simpa using c.symm;refine aG.mono (λ_ h=>h) (λ_ _=>rfl) ?_ h.2.2.2.1;intro j u e g;have:j=0:=by have:j<1:=e;omega
 subst this;have c:d[1]?= U u:=g;rw[uam (by omega)]at c;simpa using c.symm
def zod{s:cK.q}(h:bJ w F cK s v):v=.agg #[.int .i64 s.1,.int .i64 s.2.1]/\(-9223372036854775808<=s.1/\s.1<=9223372036854775807) /\ -9223372036854775808<=s.2.1/\s.2.1<=9223372036854775807:=by obtain⟨a,rfl⟩:=h.2.1.1 rfl;have d:a.size=2:=h.1;have b:a[0]?= U (.int .i64 s.1):=h.2.2.1.1;have c:a[1]?= U (.int .i64 s.2.1):=h.2.2.2.1.1;exact⟨by rw[Sf d b c],h.2.2.1.2,h.2.2.2.1.2⟩
def PC:{l:List (Int×Int×Int)}->(∀ x∈l,sZ x) -> {q a:Int×Int}->Ap q->fN l q=U a->Ap a
 |[],_,q,a,b,h=>by simp only[fN,ucl]at h;subst h;exact b
 |x::l,d,q,a,b,h=>by
  simp only[fN]at h;cases c:lC q x with
  |none=>rw[c]at h;cases h
  |some f=>rw[c]at h;exact PC (λy e=>d y (by simp[e])) (qb4 (d x (by simp)) c b).1 h
def oe{b:Int}{u:Unit}:fp (a,b,u)=Z↔1<=a/\a<b/\b<=292195:=by simp[fp]
def PO{b:Int}(d : -9223372036854775808<=a/\a<=9223372036854775807)(e : -9223372036854775808<=b/\b<=9223372036854775807):jF w F [i64,i64] (a,b,()) (.tuple #[.int .i64 a,.int .i64 b]):=
 ⟨_,rfl,_,_,rfl,⟨rfl,⟨λh=>(by cases h),λ⟨c,h⟩=>(by cases h)⟩,rfl,d⟩,_,_,rfl,⟨rfl,⟨λh=>(by cases h),λ⟨c,h⟩=>(by cases h)⟩,rfl,e⟩,rfl⟩
def Sh:{l:List (Int×Int×Int)}->(∀ x∈l,sZ x)->∃ all:List lK,all.map Subtype.val=l
 |[],_=>⟨[],rfl⟩
 |x::l,h=>by obtain⟨all,a⟩:=Sh (l:=l) (λy b=>h y (by simp[b]));exact⟨⟨x,h x (by simp)⟩::all,by simp[a]⟩
def zpb:ag prog 140 EB:=by
 refine⟨enters (fn:=f140) (by kernel_rfl) rfl rfl,λw F xs vs m hr _=>?_⟩;obtain⟨f,⟨c,k,u⟩,_⟩:=xs;obtain⟨va,vs',rfl,hva,vb,vs'',rfl,hvb,hn⟩:=hr;cases hn;have y:bJ w F bG f va:=hva;have O:bJ w F cK (c,k,u) vb:=hvb;obtain⟨rfl,K,he1⟩:=zod O;obtain⟨sa,sb,rfl,ha,l⟩:=zov y;obtain⟨A,R,rfl,hl1,hl2,t⟩:=Ps ha;obtain⟨Q,S,rfl,hl3,hl4,_⟩:=Ps l;have n:∀ W,Below w.heap.size w W->bJ W F bG f (.agg #[.slice A f.1.length R,.slice Q f.2.1.length S]):=λW s=>y.mono (λ_ h=>h) (λb l=>s.block b (m b l));have D:∀ (W:World) (F:Nat->Prop),bJ W F cK (c,k,u) (.agg #[.int .i64 c,.int .i64 k]):=λW F=>⟨rfl,⟨λ_=>⟨_,rfl⟩,λ_=>rfl⟩,⟨rfl,K⟩,⟨rfl,he1⟩,uT⟩;have hR:∀ W,Below w.heap.size w W->Calls prog 206 #[.agg #[.slice A f.1.length R,.slice Q f.2.1.length S]] W λe z=>e=.returned (.bool (my f))/\Below W.heap.size W z:=λW s=>JE (ps:=[.d bG]) (g:=λx=>my x.1) zlm (F:=F) (xs:=(f,())) (vs:=[_]) (λb l=>ucb (m b l) s.size) ⟨_,[],rfl,n W s,rfl⟩ trivial
 have T:∀ W,Calls prog 207 #[.agg #[.int .i64 c,.int .i64 k]] W λe z=>e=.returned (.bool (fp (c,k,())))/\Below W.heap.size W z:=λW=>JE (ps:=[.d cK]) (g:=λx=>fp x.1) qx7 (F:=λ_=>False) (xs:=((c,k,()),())) (vs:=[_]) (λb l=>l.elim) ⟨_,[],rfl,D W _,rfl⟩ trivial
 by_cases r:my f=Z/\fp (c,k,())=Z;obtain⟨C,o⟩:=r;obtain⟨L,hup,_,N⟩:=OR C;have M:=GX (f:=f) N (e:=k) (oe.1 o).2.2 f.1 c (oe.1 o).1 (oe.1 o).2.1;obtain⟨all,v⟩:=Sh M;rw[C]at hR;rw[o]at T;have hl0:f.1.length<=9223372036854775807:=by have:=uep hl1 hl2;unfold maxLen at this;omega
 have E:=zpc f A Q R f.2.1.length S c k w hR T all v hl0 K (λW s hp=>by
  obtain⟨b,P,h1,h2,h3⟩:=t hp;exact⟨b,P,h1,m b h2,λi x hx=>⟨(s.cell (p:=⟨b,P+i,V⟩) (m b h2)).trans (h3 i x hx).1,(h3 i x hx).2⟩⟩)
  (λW s=>zrn (λb l=>ucb (m b l) s.size) (n W s) hup L)
 refine(callsIn_wide.1 E).mono ?_;rintro e z ⟨H,a⟩;rw[v]at H;have G:fP f (c,k,u)=match fN (gq f k f.1 c) (0,0)with
   |some q=>(q.1,0)
   |none=>(0,5):=by
  unfold fP;rw[ufw ⟨C,o⟩]
  try rfl
 cases hq:fN (gq f k f.1 c) (0,0)with
 |none=>rw[hq]at H G;have B:e=.returned (.tuple #[.int .i64 0,.int .i64 5]):=H;refine⟨_,F,B,a,λ_ h=>h,λb l=>⟨.inl l,ucb (m b l) a.size⟩,?_⟩;show jF z F [i64,i64] ((fP f (c,k,u)).1,(fP f (c,k,u)).2,()) _;rw[G];exact PO (by decide) (by decide)
 |some q=>rw[hq]at H G;have B:e=.returned (.tuple #[.int .i64 q.1,.int .i64 0]):=H;refine⟨_,F,B,a,λ_ h=>h,λb l=>⟨.inl l,ucb (m b l) a.size⟩,?_⟩;show jF z F [i64,i64] ((fP f (c,k,u)).1,(fP f (c,k,u)).2,()) _;rw[G];obtain⟨j1,j2,j3,j4⟩:=PC M (q:=(0,0)) ⟨by decide,by decide,by decide,by decide⟩ hq;exact PO ⟨by show _<=q.1;omega,by show q.1<=_;omega⟩ (b:=0) (by decide)
 have E:=zpa f A Q f.1.length R f.2.1.length S c k w hR T r;refine(callsIn_wide.1 E).mono ?_;rintro e z ⟨rfl,a⟩;refine⟨_,F,rfl,a,λ_ h=>h,λb l=>⟨.inl l,ucb (m b l) a.size⟩,?_⟩;show jF z F [i64,i64] ((fP f (c,k,u)).1,(fP f (c,k,u)).2,()) _;have G:fP f (c,k,u)=(0,1):=ufx r;rw[G];exact PO (by decide) (by decide)
def iC(p:List Int×List Int)(a v:Int):List Int×List Int:=
 let q:=if p.1.getLast?= U a then (p.1.dropLast,p.2.dropLast)else p
 if v≠q.2.getLast?.getD 0/\a<=292194 then (q.1++[a],q.2++[v])else q
section
variable {α:Type}
def Eg(at_ val:List Int)(a v:Int)(K:List Int->List Int->Fr α):Fr α:=
 Jb (J ((val.length:Int)>0))
  (Jd (0<=I6.wrap (val.length-1)/\I6.wrap (val.length-1)<val.length)
   (Jd ((I6.wrap (val.length-1)).toNat<val.length)
    (Jb (bif v != val.getD (I6.wrap (val.length-1)).toNat i64.j then J (a<=292194)else Y)
     (Jd (at_.length + [a].length<=maxLen/\(at_.length + [a].length)*8<=140737488355328)
      (Jd (val.length + [v].length<=maxLen/\(val.length + [v].length)*8<=140737488355328)
       (K (at_++[a]) (val++[v]))))
     (K at_ val))))
  (Jb (bif v != 0 then J (a<=292194)else Y)
   (Jd (at_.length + [a].length<=maxLen/\(at_.length + [a].length)*8<=140737488355328)
    (Jd (val.length + [v].length<=maxLen/\(val.length + [v].length)*8<=140737488355328)
     (K (at_++[a]) (val++[v]))))
   (K at_ val))
def RX(at_ val:List Int)(a v:Int)(K:List Int->List Int->Fr α):Fr α:=
 Jd (J ((at_.length:Int)>0)=Z->0<=I6.wrap (at_.length-1)/\I6.wrap (at_.length-1)<at_.length)
  (Jd (J ((at_.length:Int)>0)=Z->(I6.wrap (at_.length-1)).toNat<at_.length)
   (Jb (bif J ((at_.length:Int)>0)then at_.getD (I6.wrap (at_.length-1)).toNat i64.j==a else Y)
    (Jd (0<=I6.wrap (at_.length-1)/\I6.wrap (at_.length-1)<=at_.length)
     (Jd (0<=I6.wrap (at_.length-1)/\I6.wrap (at_.length-1)<=val.length)
      (Eg (at_.take (I6.wrap (at_.length-1)).toNat) (val.take (I6.wrap (at_.length-1)).toNat) a v K)))
    (Eg at_ val a v K)))
def GB(h:0<l.length)(a:l.length<1000000):l.getD (I6.wrap ((l.length:Int)-1)).toNat i64.j=l.getLast?.getD 0:=by
 rw[cV (by omega),uao,uah];have:((l.length:Int)-1).toNat=l.length-1:=by omega
 rw[this];rfl
def qkl{at_ val:List Int}{v:Int}{K:List Int->List Int->Fr α}{Q:α->Prop}(k:at_.length<1000000)(f:val.length<1000000)(h:(if v≠val.getLast?.getD 0/\day<=292194 then K (at_++[day]) (val++[v])else K at_ val).s7 Q):(Eg at_ val day v K).s7 Q:=by
 have a:∀ (l:List Int) (x:Int),l.length<1000000->l.length + [x].length<=maxLen/\(l.length + [x].length)*8<=140737488355328:=λl x n=>by simp only[maxLen,ua7];omega
 by_cases i:0<val.length;refine⟨λ_=>⟨?_,?_,?_,?_⟩,λg=>?_⟩;rw[cV (by omega)];omega;rw[cV (by omega)];omega;intro c;rw[GB i f,qO]at c;have b:v≠val.getLast?.getD 0/\day<=292194:=by simpa using c
 rw[ufw b]at h;exact⟨a _ _ k,a _ _ f,h⟩;intro c;rw[GB i f,qO]at c;have b:¬ (v≠val.getLast?.getD 0/\day<=292194):=by intro d;simp[d.1,d.2]at c
 rw[ufx b]at h;exact h;exact absurd (uch g) (by omega);have e:val=[]:=by
  cases val with
  |nil=>rfl
  |cons _ _=>simp at i
 subst e;refine⟨λg=>by simp at g,λ_=>⟨λc=>?_,λc=>?_⟩⟩;rw[qO]at c;have b:v≠([]:List Int).getLast?.getD 0/\day<=292194:=by simpa using c
 rw[ufw b]at h;exact⟨a _ _ k,a _ _ f,h⟩;rw[qO]at c;have b:¬ (v≠([]:List Int).getLast?.getD 0/\day<=292194):=by intro d;have m:v≠0:=d.1;simp[m,d.2]at c
 rw[ufx b]at h;exact h
def qkm{at_ val:List Int}{v:Int}{K:List Int->List Int->Fr α}{Q:α->Prop}(i:at_.length<1000000)(m:at_.length=val.length)(h:(K (iC (at_,val) day v).1 (iC (at_,val) day v).2).s7 Q):(RX at_ val day v K).s7 Q:=by
 have g:∀ a b:List Int,a.length<1000000->b.length<1000000->iC (at_,val) day v=(if v≠b.getLast?.getD 0/\day<=292194 then (a++[day],b++[v])else (a,b))->(Eg a b day v K).s7 Q:=λa b n c o=>by refine qkl n c ?_;rw[o]at h;by_cases k:v≠b.getLast?.getD 0/\day<=292194;rw[ufw k]at h |-;exact h;rw[ufx k]at h |-;exact h
 refine⟨λe=>?_,λe=>?_,λc=>⟨?_,?_,?_⟩,λc=>?_⟩;have:(at_.length:Int)>0:=by simpa using e
 rw[cV (by omega)];omega;have:(at_.length:Int)>0:=by simpa using e
 rw[cV (by omega)];omega;have:(at_.length:Int)>0:=by simp at c;simpa using c.1
 rw[cV (by omega)];omega;have:(at_.length:Int)>0:=by simp at c;simpa using c.1
 rw[cV (by omega)];omega;rw[qO]at c;obtain⟨e,c⟩:=Bool.and_eq_true_iff.1 c;have d:0<at_.length:=by simpa using e
 rw[GB d i]at c;have f:at_.getLast?= U day:=by
  have:at_.getLast?.getD 0=day:=by simpa using c
  rw[uao]at this |-;rw[uaq (by omega)]at this |-;simpa using this
 have l:(I6.wrap ((at_.length:Int)-1)).toNat=at_.length-1:=by rw[cV (by omega)];omega
 rw[l];refine g _ _ (by simp;omega) (by simp;omega) ?_;unfold iC;simp only[f,if_true,List.dropLast_eq_take,<- m];rw[qO]at c;refine g _ _ i (by omega) ?_;have f:at_.getLast? ≠ U day:=by
  intro f;have d:0<at_.length:=by
   cases at_ with
   |nil=>simp at f
   |cons _ _=>simp
  have e:J ((at_.length:Int)>0)=true:=by simpa using d
  rw[e,GB d i,f]at c;simp at c
 unfold iC;simp only[f,uft]
end
def RW{p:List Int×List Int}(a v:Int)(h:p.1.length=p.2.length):(iC p a v).1.length=(iC p a v).2.length/\(iC p a v).1.length<=p.1.length+1:=by
 unfold iC;by_cases b:p.1.getLast?= U a;simp only[b,if_true];split<;>simp<;>omega
 simp only[b,uft];split<;>simp<;>omega
abbrev Xn:List (Tmp×PT):=[(10015,.d i64),(10014,.d i64),(10013,.d eK),(10005,.d i64)]
abbrev Xm:List MI:=[.y 3 201 [(U 3,i64),(U 3,i64)],.r 10003 3 0,.g 10004 143 [3],.x 7 170 aF,.r 10007 7 0,.x 2 201 bG,.r 10002 2 0]
abbrev C5:Pt:=⟨65,0,⟨Xn,Xm⟩,⟨[],[]⟩,⟨[],[]⟩⟩
abbrev LA:LS:=⟨(0,.d i64)::(1,.d i64)::Xn,.r 2 3 0::Xm⟩
def JD:Code:=f143.body.getD .skip
def frA(x:LA.X):Fr C5.Out:=
 RX x.2.1.1 x.2.1.2.1 x.1.1 x.1.2.1 λa b=>Jv (Rd.next (x.1.2.2,(a,b,()),x.2.2))
def TI:CxOK prog (cx [] []):=aQ aH trivial trivial
def zmg:af prog JD LA C5 frA:=
 af.of_run TI (bs:=80000) (Λ:=bK) rfl rfl rfl (λE=>bm _ 0) (λx=>by kernel_rfl)
def FA(x:LA.X):Fr C5.Out:=
 Jd (x.2.1.1.length<1000000/\x.2.1.1.length=x.2.1.2.1.length)
  (Jv (Rd.next (x.1.2.2,((iC (x.2.1.1,x.2.1.2.1) x.1.1 x.1.2.1).1,(iC (x.2.1.1,x.2.1.2.1) x.1.1 x.1.2.1).2,()),x.2.2)))
def qq7:af prog JD LA C5 FA:=
 zmg.conv λx Q h=>qkm h.1.1 h.1.2 h.2
def kA:Nat->FuncId->List AV->St->Option Tr:=Ng prog (cx [] []).Γ 143 f143 LA C5 FA
def zau:jC prog kA:=qzg TI (c:=JD) (by kernel_rfl) (by kernel_rfl) rfl rfl qq7
def CC:Cx:=dI [(144,t3)] [(141,gg)] kA
def IE:CxOK prog CC:=dP aH ⟨qx8,uT⟩ ⟨NU,uT⟩ zau
abbrev kT:Pt:=⟨41,0,⟨[(15,.d i64),(14,.d i64),(13,.d eK),(5,.d i64)],[.y 3 201 [(U 3,i64),(U 3,i64)],.r 3 3 0,.g 4 143 [3],.x 2 201 bG,.r 2 2 0]⟩,⟨[],[.y 3 201 [(U 3,i64),(U 3,i64)],.r 3 3 0,.x 2 201 bG,.r 2 2 0]⟩,⟨[],[]⟩⟩
def addS(p:List Int×List Int)(s:aF.q):List Int×List Int:=iC (iC p s.1.1 s.2.2.2.2.1) s.1.2.1 0
def qw1(x:kT.M.X)(s:aF.q):Fr kT.Out:=
 let b:=addS (x.2.1.1,x.2.1.2.1) s;let a:=iC (x.2.1.1,x.2.1.2.1) s.1.1 s.2.2.2.2.1;Jd (x.2.1.1.length<1000000/\x.2.1.1.length=x.2.1.2.1.length)
  (Jd (a.1.length<1000000/\a.1.length=a.2.length)
   (Jv (Rd.next ((I6.wrap (x.1.1+1),x.1.2.1,x.1.2.2.1,s.1.2.1,()),(b.1,b.2,()),x.2.2.1,()))))
def Vo(x:kT.M.X):Fr kT.Out:=
 let a:=qw1 x (x.1.2.2.1.getD x.1.1.toNat aF.j);Jb (J (x.1.1<x.1.2.1))
  (Jd (0<=x.1.1/\x.1.1<x.1.2.2.1.length)
   (Jb (!(t3.f (x.1.2.2.1.getD x.1.1.toNat aF.j,x.1.2.2.2.1,())).1)
    (Jb (gg.bad (1,())) (Jv (Rd.pan (gg.pv (1,()))))
     a)
    a))
  (Jv (Rd.out ((),(x.2.1.1,x.2.1.2.1,()),x.2.2.1,())))
def zmk:af prog (au f80 0) kT.M kT Vo:=
 ep IE
def jL:List aF.q->Int->List Int×List Int->Option (List Int×List Int)
 |[],_,p=>U p
 |s::l,e,p=>if pT s e=Z then jL l s.1.2.1 (addS p s)else V
def YR(r:bG.q)(o:Option (List Int×List Int)):Fr kT.Out:=
 Jb o.isSome (Jv (Rd.out ((),((o.getD ([],[])).1,(o.getD ([],[])).2,()),r,()))) (Jv (Rd.pan ⟨38,.i64,1⟩))
structure InvC (i n:Int) (l:List aF.q) (p:List Int×List Int):Prop where
 len:n=l.length
 lo:0<=i
 hi:i<=n
 most:l.length<=2000
 both:p.1.length=p.2.length
 few:p.1.length<=2*i
def FC(x:kT.M.X):Fr kT.Out:=
 Jd (InvC x.1.1 x.1.2.1 x.1.2.2.1 (x.2.1.1,x.2.1.2.1)) (YR x.2.2.1 (jL (x.1.2.2.1.drop x.1.1.toNat) x.1.2.2.2.1 (x.2.1.1,x.2.1.2.1)))
def zbu(i n:Int)(l:List aF.q)(e:Int)(at_ val:List Int)(r:bG.q)(g:InvC i n l (at_,val))(Q:kT.Out->Prop)(a:(YR r (jL (l.drop i.toNat) e (at_,val))).s7 Q):
  (Vo ((i,n,l,e,()),(at_,val,()),r,())).s7 λ
   |.next b=>InvC b.1.1 b.1.2.1 b.1.2.2.1 (b.2.1.1,b.2.1.2.1)/\(b.1.2.1-b.1.1).toNat<(n-i).toNat/\(FC b).s7 Q
   |.out y=>Q (.out y)
   |.back z=>Q (.back z)
   |.pan p=>Q (.pan p):=by
 obtain⟨rfl,B,K,C,w,D⟩:=g;refine⟨λo=>?_,λo=>?_⟩;have d:i<l.length:=by simpa using o
 have h:i.toNat<l.length:=by omega
 have A:=ual h;have k:l.getD i.toNat aF.j=l[i.toNat]:=by rw[uah,uaq h];rfl
 rw[A]at a;generalize L:l[i.toNat]=s at *;refine⟨⟨B,d⟩,λm=>?_,λm=>?_⟩;have c:pT s e=false:=by have:(!(t3.f (l.getD i.toNat aF.j,e,())).1)=true:=m;rw[k]at this;simpa[t3]using this
 have t:Q (Rd.pan ⟨38,.i64,1⟩):=by unfold jL at a;rw[c]at a;exact a.2 rfl
 exact⟨λ_=>t,λF=>by cases F⟩;have c:pT s e=true:=by have:(!(t3.f (l.getD i.toNat aF.j,e,())).1)=false:=m;rw[k]at this;simpa[t3]using this
 unfold jL at a;rw[c,ufw rfl]at a;have u:=RW s.1.1 s.2.2.2.2.1 w;have v:=RW s.1.2.1 0 u.1;rw[k];have H:I6.wrap (i+1)=i+1:=cV (by omega);have G:(i+1).toNat=i.toNat+1:=by omega
 have E:(at_.length:Int)<=2*i:=D;have x:InvC (i+1) l.length l (addS (at_,val) s):=⟨rfl,by omega,by omega,C,v.1,by have:(addS (at_,val) s).1.length<=(iC (at_,val) s.1.1 s.2.2.2.2.1).1.length+1:=v.2;omega⟩
 refine⟨⟨by show at_.length<1000000;omega,w⟩,⟨by show(iC (at_,val) s.1.1 s.2.2.2.2.1).1.length<1000000;omega,u.1⟩,?_⟩;show InvC (I6.wrap (i+1)) l.length l (addS (at_,val) s)/\((l.length:Int)-I6.wrap (i+1)).toNat<((l.length:Int)-i).toNat/\(FC ((I6.wrap (i+1),(l.length:Int),l,s.1.2.1,()),((addS (at_,val) s).1,(addS (at_,val) s).2,()),r,())).s7 Q;rw[H];refine⟨x,by omega,x,?_⟩;rw[G];exact a;have d:¬ i<l.length:=by simpa using o
 have h:l.drop i.toNat=[]:=ua2 (by omega);rw[h]at a;exact a.1 rfl
def zc3:af prog (.loop (au f80 0)) kT.M kT FC:=by refine af.loop zmk (μ:=λx=>(x.1.2.1-x.1.1).toNat) ?_ (λx Q h=>h.1);rintro⟨⟨i,n,l,e,_⟩,⟨at_,val,_⟩,r,_⟩ a Q b;exact zbu i n l e at_ val r a Q b.2
def ΛC:Nat->St->Option Tr:=λ_=>kT.han CC.Γ kT.M FC
def iY(l:List aF.q):Option (List Int×List Int):=if l.length<=2000 then jL l 1 ([],[])else V
def Vq(x:ap [.d eK]):Fr (Oc (aa [bG])):=
 let a:=jL (x.1.drop (Int.toNat 0)) 1 ([],[]);let b:=a.getD ([],[]);Jd (InvC 0 x.1.length x.1 ([],[]))
  (Jb a.isSome (Jv (Oc.ok ((b.1,b.2,()),())))
   (Jv (Oc.pan ⟨38,.i64,1⟩)))
def mV(x:ap [.d eK]):Fr (Oc (aa [bG])):=
 Jb (J ((x.1.length:Int)>2000))
  (Jb (gg.bad (1,())) (Jv (Oc.pan (gg.pv (1,())))) (Vq x))
  (Vq x)
def qp1:lM prog 80 ⟨[.d eK],[bG],λxs=>(mV xs).get.val,λxs=>(mV xs).get.bad,λxs=>(mV xs).get.pv,λxs=>[(mV xs).ok]⟩:=
 Vl IE (Λ:=ΛC) (fn:=f80) ([],()) (by kernel_rfl) (λc E a=>fH a (by kernel_rfl) (b:=au f80 0) (by kernel_rfl) (af.han IE rfl zc3)) (λxs=>by kernel_rfl)
def cB(l:List aF.q):bG.q:=(((iY l).getD ([],[])).1,((iY l).getD ([],[])).2,())
def fy:Pc:=⟨[.d eK],[bG],λx=>(cB x.1,()),λx=>(iY x.1).isNone,λ_=>⟨38,.i64,1⟩,λ_=>[]⟩
def TG:lM prog 80 fy:=
 Tw qp1 _ _ _ _ λw F k n m _=>by
  obtain⟨l,_⟩:=k;by_cases f:l.length<=2000;have e:J ((l.length:Int)>2000)=false:=by simp;omega
  have g:InvC 0 l.length l ([],[]):=⟨rfl,ufc _,by omega,f,rfl,by simp⟩;have d:iY l=jL l 1 ([],[]):=ufw f;have b:(mV (l,())).get=if (jL l 1 ([],[])).isSome=Z then Oc.ok (cB l,())else Oc.pan ⟨38,.i64,1⟩:=by show(if J ((l.length:Int)>2000)=Z then _ else (if (jL l 1 ([],[])).isSome=Z then Oc.ok _ else Oc.pan _))=_;rw[e];unfold cB;rw[d];rfl
  refine⟨⟨λc=>?_,λ_=>⟨g,λ_=>uT,λ_=>uT⟩⟩,?_,?_,?_⟩;have a:=c;rw[e]at a;cases a;show(mV (l,())).get.bad=(iY l).isNone;rw[b,d];cases jL l 1 ([],[])<;>rfl
  intro c;have a:=c;show(mV (l,())).get.val=(cB l,());rw[b];rw[d]at a;cases h:jL l 1 ([],[])with
  |none=>rw[h]at a;cases a
  |some p=>rfl
  intro c;have a:=c;show(mV (l,())).get.pv=_;rw[b];rw[d]at a;cases h:jL l 1 ([],[])with
  |none=>rfl
  |some p=>rw[h]at a;cases a
  have e:J ((l.length:Int)>2000)=true:=by simp;omega
  have d:iY l=none:=ufx f;have b:(mV (l,())).get=Oc.pan ⟨38,.i64,1⟩:=by show(if J ((l.length:Int)>2000)=Z then _ else _)=_;rw[e];rfl
  refine⟨⟨λ_=>⟨λ_=>uT,λi=>by cases i⟩,λc=>?_⟩,?_,?_,?_⟩;have a:=c;rw[e]at a;cases a;show(mV (l,())).get.bad=(iY l).isNone;rw[b,d];rfl;intro c;have a:=c;rw[d]at a;cases a;intro _;show(mV (l,())).get.pv=_;rw[b];rfl
def cP(d:Int):Int:=if 292195<(if d<1 then 1 else d)then 292195 else (if d<1 then 1 else d)
def KI(d:Int):1<=cP d/\cP d<=292195:=by unfold cP;split<;>split<;>omega
def CU:Cx:=cx [(140,EB),(142,tz)] [(141,gg)]
def qhd:CxOK prog CU:=aQ aH ⟨zpb,qsd,uT⟩ ⟨NU,uT⟩
def FW(s e:Int):Fr (Oc (aa [i64])):=
 let a:=tz.f (s,1,365,());Jb (gg.bad (e,())) (Jv (Oc.pan (gg.pv (e,()))))
  (Jd (0<=s->(0:Int)<=1->s*1<18446744073709551616)
   (Jb (gg.bad (a.2.1,())) (Jv (Oc.pan (gg.pv (a.2.1,())))) (Jv (Oc.ok (a.1,())))))
def pS(x:ap [.d bG,.d i64]):Fr (Oc (aa [i64])):=
 Jb (cP x.2.1==1) (Jv (Oc.ok (0,()))) (FW (EB.f (x.1,(1,cP x.2.1,()),())).1 (EB.f (x.1,(1,cP x.2.1,()),())).2.1)
def zrl:lM prog 79 ⟨[.d bG,.d i64],[i64],λxs=>(pS xs).get.val,λxs=>(pS xs).get.bad,λxs=>(pS xs).get.pv,λxs=>[(pS xs).ok]⟩:=
 Vl qhd (Λ:=bK) (fn:=f79) (([],[],()),0,()) (by kernel_rfl) (λc E a=>bm c 0) (λxs=>by kernel_rfl)
def j9(s e:Int):Int×Int:=if e≠0 then (0,e)else if (du s 1 365).2≠0 then (0,(du s 1 365).2)else ((du s 1 365).1,0)
def cu(f:bG.q)(d:Int):Int×Int:=if cP d=1 then (0,0)else j9 (fP f (1,cP d,())).1 (fP f (1,cP d,())).2
def iF:Pc:=⟨[.d bG,.d i64],[i64],λx=>((cu x.1 x.2.1).1,()),λx=>!((cu x.1 x.2.1).2==0),λx=>⟨38,.i64,(cu x.1 x.2.1).2⟩,λ_=>[]⟩
def zo7(f:bG.q)(s:cK.q):(fP f s).1<=4000000000000000000:=by
 unfold fP;split;rename_i h;obtain⟨_,_,_,a⟩:=OR h.1;have c:=oe.1 h.2;have b:=GX a c.2.2 f.1 s.1 c.1 c.2.1;cases d:fN (gq f s.2.1 f.1 s.1) (0,0)with
 |none=>show(0:Int)<=_;decide
 |some q=>obtain⟨e,g,i,k⟩:=PC b ⟨by decide,by decide,by decide,by decide⟩ d;show q.1<=_;omega
 show(0:Int)<=_;decide
def qxe{s e:Int}(k:s<=4000000000000000000):(FW s e).ok/\(FW s e).get=if (j9 s e).2=0 then Oc.ok ((j9 s e).1,())else Oc.pan ⟨38,.i64,(j9 s e).2⟩:=by
 by_cases i:e=0;subst i;have a:0<=s->(0:Int)<=1->s*1<18446744073709551616:=λ_ _=>by omega
 by_cases d:(du s 1 365).2=0;have g:j9 s 0=((du s 1 365).1,0):=by unfold j9;rw[ufx (λh=>h rfl),ufx (λh=>h d)]
 have b:gg.bad ((tz.f (s,1,365,())).2.1,())=false:=by show(!((du s 1 365).2==0))=Y;rw[d];rfl
 rw[g];refine⟨⟨λc=>(by cases c),λ_=>⟨a,λ_=>uT,λ_=>uT⟩⟩,?_⟩;show(if gg.bad ((tz.f (s,1,365,())).2.1,())=Z then _ else Oc.ok ((du s 1 365).1,()))=_;rw[b];rfl;have g:j9 s 0=(0,(du s 1 365).2):=by unfold j9;rw[ufx (λh=>h rfl),ufw d]
 have b:gg.bad ((tz.f (s,1,365,())).2.1,())=true:=by show(!((du s 1 365).2==0))=Z;simp[d]
 rw[g];refine⟨⟨λc=>(by cases c),λ_=>⟨a,λ_=>uT,λ_=>uT⟩⟩,?_⟩;show(if gg.bad ((tz.f (s,1,365,())).2.1,())=Z then Oc.pan ⟨38,.i64,(du s 1 365).2⟩else _)=_;rw[b,ufw rfl];exact(ufx d).symm;have g:j9 s e=(0,e):=by unfold j9;rw[ufw i]
 have b:gg.bad (e,())=true:=by show(!(e==0))=Z;simp[i]
 rw[g];refine⟨⟨λ_=>uT,λc=>(by rw[b]at c;cases c)⟩,?_⟩;show(if gg.bad (e,())=Z then Oc.pan ⟨38,.i64,e⟩else _)=_;rw[b,ufw rfl];exact(ufx i).symm
def qdq:lM prog 79 iF:=
 Tw zrl _ _ _ _ λw F l n m _=>by
  obtain⟨f,d,_⟩:=l;have b:(pS (f,d,())).ok/\(pS (f,d,())).get=if (cu f d).2=0 then Oc.ok ((cu f d).1,())else Oc.pan ⟨38,.i64,(cu f d).2⟩:=by
   unfold cu;by_cases i:cP d=1;rw[ufw i];have a:(cP d==1)=true:=by simpa using i
   refine⟨⟨λ_=>uT,λg=>(by rw[a]at g;cases g)⟩,?_⟩;show(if (cP d==1)=Z then Oc.ok (0,())else _)=_;rw[a];rfl;rw[ufx i];have a:(cP d==1)=false:=by simpa using i
   have k:=qxe (e:=(fP f (1,cP d,())).2) (zo7 f (1,cP d,()));refine⟨⟨λg=>(by rw[a]at g;cases g),λ_=>k.1⟩,?_⟩;show(if (cP d==1)=Z then _ else (FW (fP f (1,cP d,())).1 (fP f (1,cP d,())).2).get)=_;rw[a,ufx (by decide),k.2]
  refine⟨b.1,?_,?_,?_⟩;show(pS (f,d,())).get.bad=!((cu f d).2==0);rw[b.2];by_cases h:(cu f d).2=0;rw[ufw h,h];rfl;rw[ufx h];have:((cu f d).2==0)=false:=by simpa using h
  rw[this];rfl;intro a;have c:=a;have h:(cu f d).2=0:=by simpa using c
  show(pS (f,d,())).get.val=((cu f d).1,());rw[b.2,ufw h];rfl;intro a;have c:=a;have h:¬ (cu f d).2=0:=by simpa using c
  show(pS (f,d,())).get.pv=_;rw[b.2,ufx h];rfl
def znv{a:Value}(h:w.heap[b]?= U (.cells #[a] ty (0,0))):w.setCell ⟨b,0,V⟩ v=w.setRow b #[v]:=by unfold World.setCell World.setRow;congr 1;apply uci;intro i;simp only[Array.getElem?_modify];by_cases c:b=i;subst c;rw[h];simp;simp[c]
def qc2:TolOK prog 78 38 .i64:=by
 refine⟨enters (fn:=f78) (by kernel_rfl) rfl rfl,λp w=>?_,λb k e n w c=>?_⟩
 ·refine callsD_of_wpS func78 rfl λa f d=>?_;simp only[ntmps78,ucq,uc9,udm,Nat.reduceAdd,Nat.reduceSub,ubn,ubo,ucy,ubx,udn,uc4];apply wpS_seq;apply wpS_region;simp[wpOpsS,go_sem,recoverD,d,Exit.thenS];refine wpS_of_wp ?_
  go_wp2
  cases a
  simp_all[bodyPostS,results,results78]
 ·have h:w.cell? ⟨b,0,V⟩=U e:=cn c 0;have i:w.frozen? ⟨b,0,V⟩=false:=by simp[World.frozen?,c]
  have g:∀ w,(Instr.typeAssert (.iface 38 (.int .i64 n)) 20 38 Z).run prog w=.ok (.tuple #[.int .i64 n,.bool Z]) w:=λ_=>by kernel_rfl
  refine callsD_of_wpS func78 rfl λa f d=>?_;simp only[ntmps78,ucq,uc9,udm,Nat.reduceAdd,Nat.reduceSub,ubn,ubo,ucy,ubx,udn,uc4];apply wpS_seq;apply wpS_region;simp[wpOpsS,go_sem,recoverD,d,Exit.thenS];refine wpS_of_wp ?_
  go_wp2
  simp[bodyPostS,results,results78,znv c]
def Lu:(0:Int)<=0/\(0:Int)<=6:=by decide
def Lv:(0:Int)<=1/\(1:Int)<=6:=by decide
def I3:(0:Int)<=0/\(0:Int)<=4000000000000000000:=by decide
def Uu:(0:Int)<=5/\(5:Int)<=6:=by decide
def qr9(a b c:Int):0<=(du a b c).2/\(du a b c).2<=6:=by unfold du;split;exact⟨by decide,by decide⟩;split;exact⟨by decide,by decide⟩;split;exact Uu;exact Lu
def U2(a b c:Int)(e:0<c):0<=(du a b c).1/\(du a b c).1<=4000000000000000000:=by
 unfold du;split;exact⟨by decide,by decide⟩;rename_i h;split;exact⟨by decide,by decide⟩;split;exact⟨by decide,by decide⟩;have d:0<=a*b:=uec (by omega) (by omega);have f:0<=a*b/c:=udl d (by omega);have:0<=lY (a*b) c:=by unfold lY;split<;>omega
 exact⟨this,by show lY (a*b) c<=_;omega⟩
def zo6(f:bG.q)(s:cK.q):0<=(fP f s).2/\(fP f s).2<=6:=by unfold fP;split;cases fN (gq f s.2.1 f.1 s.1) (0,0);exact Uu;exact Lu;exact⟨by decide,by decide⟩
def Qa(f:bG.q)(d:Int):0<=(cu f d).2/\(cu f d).2<=6:=by unfold cu;split;exact⟨by decide,by decide⟩;unfold j9;split;exact zo6 _ _;split;exact qr9 _ _ _;exact Lu
def Qb(f:bG.q)(d:Int):0<=(cu f d).1/\(cu f d).1<=4000000000000000000:=by unfold cu;split;exact I3;unfold j9;split;exact I3;split;exact I3;exact U2 _ _ _ (by decide)
def zrk(f:bG.q)(d:Int)(h:(cu f d).2≠0):(cu f d).1=0:=by unfold cu at *;split at h;exact absurd rfl h;rename_i c;rw[ufx c];unfold j9 at *;split at h;rename_i a;rw[ufw a];rename_i a;rw[ufx a];split at h;rename_i b;rw[ufw b];exact absurd rfl h
def xx{n:Int}(h:0<=n/\n<=6):inR .i64 n:=by constructor;show(-9223372036854775808:Int)<=n;omega;show n<=(9223372036854775807:Int);omega
def CP:Cx:=cx [] [(80,fy),(79,iF)]
def qfz:CxOK prog CP:=aQ aH trivial ⟨TG,qdq,uT⟩
def eq(l:List aF.q)(d:Int):Int×Int:=if (iY l).isNone=Z then (0,1)else cu (cB l) d
def pw:Ct:=⟨[.d eK,.d i64],[i64,i64],λx=>((eq x.1 x.2.1).1,(eq x.1 x.2.1).2,()),λ_=>[]⟩
def qxf(x:ap [.d eK,.d i64]):Fr (aa [i64,i64]):=
 let b:=fy.pv (x.1,());let a:=((fy.f (x.1,())).1,x.2.1,());Jb (fy.bad (x.1,())) (Jd (inR .i64 b.n) (Jv (0,b.n,())))
  (Jb (iF.bad a)
   (Jd (inR .i64 (iF.pv a).n) (Jv (0,(iF.pv a).n,())))
   (Jv ((iF.f a).1,0,())))
def RP:ag prog 38 pw:=
 conv (qqf qfz (Λ:=bK) (fn:=f38) (fr:=qxf) (ps:=[.d eK,.d i64]) (rs:=[i64,i64]) ([],0,()) (by kernel_rfl) qc2 (λc E _=>bm c 0) (λx=>by kernel_rfl)) _ _ λw F i m k _=>by obtain⟨l,d,_⟩:=i;by_cases f:(iY l).isNone=Z;have b:fy.bad (l,())=true:=f;refine⟨⟨λ_=>⟨xx Lv,uT⟩,λh=>(by have a:fy.bad (l,())=false:=h;rw[b]at a;cases a)⟩,?_⟩;show(if fy.bad (l,())=Z then ((0:Int),(1:Int),())else _)=((eq l d).1,(eq l d).2,());unfold eq;rw[b,ufw rfl,ufw f];have b:fy.bad (l,())=false:=(by show(iY l).isNone=Y;exact ucz.2 f);have g:eq l d=cu (cB l) d:=ufx f;refine⟨⟨λh=>(by have a:fy.bad (l,())=true:=h;rw[b]at a;cases a),λ_=>⟨λ_=>⟨xx (Qa _ _),uT⟩,λ_=>uT⟩⟩,?_⟩;show(if fy.bad (l,())=Z then _ else if (!((cu (cB l) d).2==0))=Z then ((0:Int),(cu (cB l) d).2,())else ((cu (cB l) d).1,0,()))=((eq l d).1,(eq l d).2,());rw[b,ufx (by decide),g];by_cases e:(cu (cB l) d).2=0;rw[ufx (by simp[e]),e];rw[ufw (by simp[e]),zrk _ _ e]
def EG:Ct:=⟨[.d eK],[i64,i64],λx=>((eq x.1 292195).1,(eq x.1 292195).2,()),λ_=>[]⟩
def qj5:ag prog 73 EG:=
 flat (ps:=[.d eK]) (rs:=[i64,i64]) (aQ (cs:=[(38,pw)]) (ps:=[]) aH ⟨RP,uT⟩ trivial) (fn:=f73) (fr:=λx=>Jv ((pw.f (x.1,292195,())).1,(pw.f (x.1,292195,())).2.1,())) ([],()) (by kernel_rfl) (λx=>by kernel_rfl) _ _
  (λ_ _ x _ _ _=>⟨uT,rfl⟩)
def ed(f:bG.q):Int->Nat->Int
 |_,0=>0
 |a,n+1=>eG f a+ed f (a+1) n
def Lk(f:bG.q):(m n:Nat)->(a:Int)->ed f a (m+n)=ed f a m+ed f (a+m) n
 |0,n,a=>by simp[ed]
 |m+1,n,a=>by
  have h:=Lk f m n (a+1);rw[show m+1+n=(m+n)+1 by omega];simp only[ed];rw[h];have:a+1+(m:Int)=a+((m+1:Nat):Int):=by omega
  rw[this];omega
def Fl{f:bG.q}(h:∀ d,0<=eG f d):(n:Nat)->(a:Int)->0<=ed f a n
 |0,a=>ufc _
 |n+1,a=>by have:=Fl h n (a+1);have:=h a;simp only[ed];omega
def Ll{f:bG.q}{v:Int}:(n:Nat)->(a:Int)->(∀ d,a<=d->d<a+n->eG f d=v)->ed f a n=n*v
 |0,a,_=>by simp[ed]
 |n+1,a,h=>by
  simp only[ed];rw[h a (by omega) (by omega),Ll n (a+1) (λd b c=>h d (by omega) (by omega))]
  grind
def qoy{d:Int}(b:a<=d)(h:∀ x∈l,x<=a\/d<x):xk l d=xk l a:=by unfold xk;apply List.countP_congr;intro x c;have:=h x c;simp only[ucu];omega
def qdt{f:bG.q}{d:Int}(b:a<=d)(h:∀ x∈f.1,x<=a\/d<x):eG f d=eG f a:=by unfold eG;rw[qoy b h]
def zrm{f:bG.q}(h:∀ y∈f.2.1,0<=y)(d:Int):0<=eG f d:=by
 unfold eG;split;exact ufc _;rename_i k _;rw[uah];cases a:f.2.1[k]? with
 |none=>simp
 |some y=>have:=h y (ubg a);simpa using this
def qb5{s t b v:Int}(k:0<=v)(e:a<b)(i:t<=4000000000000000000):
  lC (s,t) (a,b,v)=if t+(b-a)*v<=4000000000000000000 then U (s+(b-a)*v,t+(b-a)*v)else none:=by
 have g:max v (-v)=v:=by omega
 unfold lC;simp only[g];have d:v>(4000000000000000000-t)/(b-a)↔¬ t+(b-a)*v<=4000000000000000000:=by have:=Int.le_ediv_iff_mul_le (a:=v) (b:=4000000000000000000-t) (c:=b-a) (by omega);rw[ue1 v]at this;omega
 by_cases h:t+(b-a)*v<=4000000000000000000;rw[ufx (by rw[d];exact λf=>f h),ufw h];rw[ufw (d.2 h),ufx h]
def PB{f:bG.q}(p:∀ d,0<=eG f d){e:Int}:(l:List Int)->(a s t:Int)->l.Pairwise (· < ·)->(∀ x∈f.1,x<=a\/e<=x\/x∈l)->a<e->t<=4000000000000000000 ->
  fN (gq f e l a) (s,t)=if t+ed f a (e-a).toNat<=4000000000000000000 then U (s+ed f a (e-a).toNat,t+ed f a (e-a).toNat)else V
 |[],a,s,t,_,k,g,u=>by
  have r:ed f a (e-a).toNat=(e-a)*eG f a:=by
   rw[Ll (e-a).toNat a (λd c C=>qdt c (λx i=>by
    rcases k x i with h|h|h
    exact .inl h;exact .inr (by omega);cases h))]
   congr 1;omega
  rw[r];simp only[gq,fN];rw[qb5 (p a) g u];split<;>rfl
 |d::l,a,s,t,E,k,g,u=>by
  obtain⟨z,n⟩:=uca.1 E;unfold gq;split;rename_i o;refine PB p l a s t n (λx i=>?_) g u;rcases k x i with h|h|h
  exact .inl h;exact .inr (.inl h);rcases uej.1 h with rfl|h
  rcases o with h|h
  exact .inl h;exact .inr (.inl h);exact .inr (.inr h);rename_i o;have m:a<d:=by omega
  have w:d<e:=by omega
  have r:ed f a (d-a).toNat=(d-a)*eG f a:=by
   rw[Ll (d-a).toNat a (λF c C=>qdt c (λx i=>by
    rcases k x i with h|h|h
    exact .inl h;exact .inr (by omega);rcases uej.1 h with rfl|h
    exact .inr (by omega);have:=z x h;exact .inr (by omega)))]
   congr 1;omega
  have b:ed f a (e-a).toNat=ed f a (d-a).toNat+ed f d (e-d).toNat:=by rw[show(e-a).toNat=(d-a).toNat+(e-d).toNat by omega,Lk];congr 2;omega
  have D:=Fl p (e-d).toNat d;simp only[fN];rw[qb5 (p a) m u,<- r];by_cases c:t+ed f a (d-a).toNat<=4000000000000000000;rw[ufw c];show fN (gq f e l d) _=_;have v:∀ x∈f.1,x<=d\/e<=x\/x∈l:=λx i=>by
   rcases k x i with h|h|h
   exact .inl (ue5 h (ueu m));exact .inr (.inl h);rcases uej.1 h with rfl|h
   exact .inl (ufc _);exact .inr (.inr h)
  rw[PB p l d _ _ n v w c];rw[b,Int.add_assoc,Int.add_assoc];have y:¬ t+ed f a (e-a).toNat<=4000000000000000000:=by rw[b];clear r b;generalize ed f a (d-a).toNat=A at *;generalize ed f d (e-d).toNat=B at *;omega
  rw[ufx c,ufx y];rfl
structure Pos (f:bG.q):Prop where
 right:my f=true
 pos:∀ y∈f.2.1,0<=y
def Pos.val{f:bG.q}(h:Pos f)(d:Int):0<=eG f d:=zrm h.pos d
def zo5{f:bG.q}(h:Pos f){e:Int}(i:1<=a)(c:a<e)(k:e<=292195):
  fP f (a,e,())=if ed f a (e-a).toNat<=4000000000000000000 then (ed f a (e-a).toNat,0)else (0,5):=by
 obtain⟨m,g,n,o⟩:=OR h.right;have b:=PB h.val (e:=e) f.1 a 0 0 g (λx l=>.inr (.inr l)) c (by decide);simp only[Int.zero_add]at b;unfold fP;rw[ufw ⟨h.right,oe.2 ⟨i,c,k⟩⟩,b];by_cases d:ed f a (e-a).toNat<=4000000000000000000;rw[ufw d,ufw d];rw[ufx d,ufx d]
def Sd(f:bG.q)(d:Int):Int:=ed f 1 (cP d-1).toNat
def qsa{p:Int}(h:0<=p):lY p 365=(p+182)/365:=by unfold lY;split<;>omega
def qr7{p:Int}(h:0<=p)(a:p<=4000000000000000000):du p 1 365=((p+182)/365,0):=by unfold du;rw[Int.mul_one,qsa h,ufx (by omega),ufx (by decide),ufx (by omega)]
def PZ{f:bG.q}(h:Pos f)(d:Int):cu f d=if Sd f d<=4000000000000000000 then ((Sd f d+182)/365,0)else (0,5):=by
 have e:=KI d;have c:=Fl h.val (cP d-1).toNat 1;unfold cu;by_cases b:cP d=1;rw[ufw b];have:Sd f d=0:=by unfold Sd;rw[b];rfl
 rw[this,ufw (by decide)];rfl;rw[ufx b,zo5 h (by decide) (by omega) e.2];show j9 _ _=_;unfold Sd;by_cases a:ed f 1 (cP d-1).toNat<=4000000000000000000;rw[ufw a,ufw a];show j9 (ed f 1 (cP d-1).toNat) 0=_;unfold j9;rw[ufx (λh=>h rfl),qr7 c a,ufx (λh=>h rfl)];rw[ufx a,ufx a];rfl
def qok{b:Int}(h:a<=b):cP a<=cP b:=by unfold cP;split<;>split<;>(try split)<;>(try split)<;>omega
def qj0{f:bG.q}(h:Pos f){b:Int}(c:a<=b):Sd f a<=Sd f b:=by have e:=qok c;have d:=KI a;unfold Sd;rw[show(cP b-1).toNat=(cP a-1).toNat+(cP b-cP a).toNat by omega,Lk];have:=Fl h.val (cP b-cP a).toNat (1+((cP a-1).toNat:Int));omega
def qj1{f:bG.q}(h:Pos f)(a:Int):Sd f a<=Sd f 292195:=by
 have b:=KI a;have:Sd f a=Sd f (cP a):=by
  unfold Sd;have:cP (cP a)=cP a:=by generalize cP a=c at b;unfold cP;rw[ufx (show ¬ c<1 by omega),ufx (by omega)]
  rw[this]
 rw[this];exact qj0 h b.2
def OT{d v:Int}:{l r:List Int}->(c e:Int)->l.length=r.length ->
  iN (l++[d]) (r++[v]) c e=(iN l r c e&&(J (l.getLast?.getD c<d)&&(J (d<=292194)&&(!(v==r.getLast?.getD e)&&kO v))))
 |[],[],c,e,_=>by show(_&&Z)=(Z&&_);rw[uen,uem];rfl
 |[],_::_,_,_,h=>by simp at h
 |_::_,[],_,_,h=>by simp at h
 |a::l,b::r,c,e,h=>by
  have i:=OT (d:=d) (v:=v) a b (by simpa using h);simp only[uc4,iN];rw[i];have f:(a::l).getLast?.getD c=l.getLast?.getD a:=by rw[List.getLast?_cons];rfl
  have g:(b::r).getLast?.getD e=r.getLast?.getD b:=by rw[List.getLast?_cons];rfl
  rw[f,g];simp only[ued]
structure Good (p:List Int×List Int) (m:Int):Prop where
 len:p.1.length=p.2.length
 up:iN p.1 p.2 0 0=true
 le:p.1.getLast?.getD 0<=m
 pos:∀ y∈p.2,0<=y
def VB(h:l.getLast?= U x):l=l.dropLast++[x]:=by
 cases l with
 |nil=>simp at h
 |cons a l=>
  injection h with h
  rw[<- h];exact(List.dropLast_concat_getLast (by simp)).symm
def Good.pop{p:List Int×List Int}{m:Int}(h:Good p m)(g:p.1.getLast?= U day):Good (p.1.dropLast,p.2.dropLast) (day-1)/\day<=m:=by
 obtain⟨at_,val⟩:=p;obtain⟨c,b,f,k⟩:=h;have d:=VB g;cases i:val.getLast? with
 |none=>
  have:val=[]:=by simpa using i
  subst this;rw[d]at c;simp at c
 |some y=>
  have e:=VB i;have a:at_.dropLast.length=val.dropLast.length:=by simp[c]
  rw[d,e,OT 0 0 a]at b;simp at b;refine⟨⟨a,b.1,?_,λz l=>k z ?_⟩,?_⟩;have:=b.2.1;show at_.dropLast.getLast?.getD 0<=day-1;omega;rw[e];exact ubk _ l;rw[g]at f;exact f
def Good.push{p:List Int×List Int}{m v:Int}(h:Good p m)(o:m<day)(b:day<=292194)(l:0<=v/\v<=4000000000000000000)(d:v≠p.2.getLast?.getD 0):Good (p.1++[day],p.2++[v]) day:=by
 obtain⟨e,f,n,g⟩:=h;refine⟨by simp[e],?_,by simp,λz a=>?_⟩;show iN (p.1++[day]) (p.2++[v]) 0 0=Z;rw[OT 0 0 e,f];have k:kO v=true:=Yg.2 (by omega);have i:(v==p.2.getLast?.getD 0)=false:=by simpa using d
 have c:p.1.getLast?.getD 0<day:=by omega
 simp[k,i,c,b];rcases udt.1 a with a|a
 exact g z a;simp at a;subst a;exact l.1
def Good.mono{p:List Int×List Int}{m a:Int}(h:Good p m)(b:m<=a):Good p a:=⟨h.len,h.up,ue5 h.le b,h.pos⟩
def Good.add{p:List Int×List Int}{m v:Int}(h:Good p m)(r:m<=day)(o:1<=day)(i:0<=v/\v<=4000000000000000000):Good (iC p day v) day:=by
 unfold iC;by_cases b:p.1.getLast?= U day;have g:=(h.pop b).1;simp only[b,if_true];split;rename_i a;exact g.push (by omega) a.2 i a.1;exact g.mono (by omega);simp only[b,uft];have d:p.1.getLast?.getD 0<=day-1:=by
  have c:=h.le;cases n:p.1.getLast? with
  |none=>show(0:Int)<=_;omega
  |some x=>rw[n]at c b;have l:x≠day:=λk=>b (by rw[k]);have f:x<=m:=c;show x<=_;omega
 have e:Good p (day-1):=⟨h.len,h.up,d,h.pos⟩;split;rename_i a;exact e.push (by omega) a.2 i a.1;exact e.mono (by omega)
def V9{s:aF.q}{e:Int}:pT s e=Z↔e<=s.1.1/\s.1.1<s.1.2.1/\s.1.2.1<=292195/\0<=s.2.2.2.2.1/\s.2.2.2.2.1<=4000000000000000000:=by simp[pT]
def Good.addS{p:List Int×List Int}{s:aF.q}{e:Int}(h:Good p e)(g:1<=e)(i:pT s e=Z):Good (addS p s) s.1.2.1:=by obtain⟨a,b,l,d,f⟩:=V9.1 i;have c:1<=s.1.1:=ue5 g a;have k:1<=s.1.2.1:=ue5 c (ueu b);exact(h.add a c ⟨d,f⟩).add (ueu b) k (by decide)
def tJ:List aF.q->Int->List Int×List Int->Option (Int×(List Int×List Int))
 |[],e,p=>U (e,p)
 |s::l,e,p=>if pT s e=Z then tJ l s.1.2.1 (addS p s)else V
def TF:(l:List aF.q)->(e:Int)->(p:List Int×List Int)->jL l e p=(tJ l e p).map (·.2)
 |[],_,_=>rfl
 |s::l,e,p=>by simp only[jL,tJ];split;exact TF l _ _;rfl
def TE:{l:List aF.q} -> {e:Int} -> {p:List Int×List Int} -> {q:Int×(List Int×List Int)}->Good p e->1<=e->tJ l e p=U q->Good q.2 q.1/\1<=q.1
 |[],e,p,q,h,b,a=>by simp only[tJ,ucl]at a;subst a;exact⟨h,b⟩
 |s::l,e,p,q,h,b,a=>by simp only[tJ]at a;split at a;rename_i c;obtain⟨d,f,_⟩:=V9.1 c;have g:=ue5 (ue5 b d) (ueu f);exact TE (h.addS b c) g a;cases a
def qyv:Good ([],[]) 1:=⟨rfl,rfl,by show(0:Int)<=1;decide,by simp⟩
def TH{l:List aF.q}(h:(iY l).isNone=Y):Pos (cB l):=by
 unfold cB;unfold iY at *;split at h;rename_i c;rw[ufw c];rw[TF]at h |-;cases b:tJ l 1 ([],[])with
 |none=>rw[b]at h;cases h
 |some q=>have a:=(TE qyv (by decide) b).1;show Pos (q.2.1,q.2.2,());refine⟨?_,a.pos⟩;simp only[my,a.up,uen,ucu];exact a.len
 cases h
def CH0:Cx:=cx [(187,lg)] []
def II:CxOK prog CH0:=aQ aH ⟨OQ,uT⟩ trivial
def MJ(x:ap [.d eV]):Fr (aa [.bool]):=
 let a:=x.1.2;Jv (bif bif bif bif bif bif J (x.1.1>=0)then J (x.1.1<4)else Y then bif J (a.1>=1)then J (a.1<=1000000000000000)else Y else Y then J (a.2.1>=0)else Y then J (a.2.1<=200)else Y then J (a.2.2.1>=0)else Y then J (a.2.2.1<100)else Y,())
def qxx:ag prog 194 (bg [.d eV] [.bool] MJ):=
 aT II f194
def MG(x:ap [.d i64]):Fr (aa [.bool]):=
 Jv (bif J (x.1>=1)then J (x.1<=292194)else Y,())
def qxk:ag prog 189 (bg [.d i64] [.bool] MG):=
 aT II f189
def V0(x:ap [.d cK]):Fr (aa [cK]):=
 Jb (bif !(lg.f ((x.1.1,x.1.2.1,()),())).1 then Z else x.1.1==x.1.2.1) (Jv ((0,0,()),())) (Jv ((x.1.1,x.1.2.1,()),()))
def qxq:ag prog 148 (bg [.d cK] [cK] V0):=
 aT II f148
def qp(k v a z:Int):Bool:=J (0<=k/\k<4/\1<=v/\v<=1000000000000000/\0<=a/\a<=200/\0<=z/\z<100)
def qX:Ct:=⟨[.d eV],[.bool],λx=>(qp x.1.1 x.1.2.1 x.1.2.2.1 x.1.2.2.2.1,()),λ_=>[]⟩
def OV:ag prog 194 qX:=
 conv qxx _ _ (λ_ _ x _ _ _=>by obtain⟨⟨k,v,a,z,_⟩,_⟩:=x;refine⟨by simp[az,Fr.ok,MJ],?_⟩;dsimp only[MJ,Fr.get,qp,Ty.q,PT.q];simp only[uby,ubb];congr 1;rw[udy];simp only[udc,udu,ucu];omega)
def lU(p l g d s:Int):Bool:=J (0<=p/\p<8/\1<=s/\s<=10000/\0<=d/\d<l/\l<=g/\g<=1000000000000000)
def kZ:Ct:=⟨[.d ar],[.bool],λx=>(lU x.1.1 x.1.2.1 x.1.2.2.1 x.1.2.2.2.1 x.1.2.2.2.2.1,()),λ_=>[]⟩
def jo(d:Int):Bool:=J (1<=d/\d<=292194)
def wL:Ct:=⟨[.d i64],[.bool],λx=>(jo x.1,()),λ_=>[]⟩
def TL:ag prog 189 wL:=
 conv qxk _ _ (λ_ _ x _ _ _=>by obtain⟨d,_⟩:=x;refine⟨by simp[az,Fr.ok,MG],?_⟩;dsimp only[MG,Fr.get,jo,Ty.q,PT.q];simp only[ubb];congr 1;rw[udy];simp only[udc,ucu,ge_iff_le])
def eH(a b d:Int):Bool:=J (1<=a/\b<=292195/\a<=d/\d<b)
def iD:Ct:=⟨[.d cK,.d i64],[.bool],λx=>(eH x.1.1 x.1.2.1 x.2.1,()),λ_=>[]⟩
def uA(s:cK.q):cK.q:=if fp s=Z then s else (0,0,())
def wM:Ct:=⟨[.d cK],[cK],λx=>(uA x.1,()),λ_=>[]⟩
def za7(a b:Int):((¬a>=1\/¬a<=b\/¬b<=292195)\/a=b)↔(¬a>=1\/¬a<b\/¬b<=292195):=by omega
def za4(a b:Int):(bif !(mw (a,b,()))then Z else a==b)=!(fp (a,b,())):=by dsimp only[mw,fp,Ty.q,PT.q];simp only[uby];rw[udy];simp only[udc,udu,ucv,Bool.and_eq_false_iff,ucu,uav,ufj];exact za7 a b
def za6:ag prog 148 wM:=
 conv qxq _ _ (λ_ _ x _ _ _=>by obtain⟨⟨a,b,_⟩,_⟩:=x;refine⟨by simp[az,Fr.ok,V0],?_⟩;show(if (bif !(mw (a,b,()))then Z else a==b)=Z then (((0,0,()),()):cK.q×Unit)else ((a,b,()),()))=(if fp (a,b,())=Z then (a,b,())else (0,0,()),());rw[za4];cases fp (a,b,())<;>rfl)
def CH1:Cx:=cx [(148,wM)] []
def Qq:CxOK prog CH1:=aQ aH ⟨za6,uT⟩ trivial
abbrev aZ(T:Ty):PT:=.pf [T,T] [i64]
def aR{T:Ty}(g:(aZ T).q)(x y:T.q):Bool:=J ((g.1 (x,y,())).1<0)
def lI{T:Ty}(g:(aZ T).q)(l:List T.q):Prop:=∀ x∈l,∀ y∈l,g.2 (x,y,())
def lI.sub{T:Ty}{g:(aZ T).q}{l s:List T.q}(h:lI g l)(a:∀ x∈s,x∈l):lI g s:=λx b y c=>h x (a x b) y (a y c)
def qzf{j:Nat}(h:i+j<=9223372036854775807):I6.wrap ((U6.wrap (I6.wrap ((i:Int)+j))).fdiv (2 ^ min (Int.toNat 1) U6.bits))=((i+j)/2:Nat):=by
 have a:I6.wrap ((i:Int)+j)=(i:Int)+j:=IntWalk.i64_in _ (by omega);have b:U6.wrap ((i:Int)+j)=(i:Int)+j:=IntWalk.u64_in _ (by omega);have c:(2:Int) ^ min (Int.toNat 1) U6.bits=2:=by decide
 rw[a,b,c,uag _ (by decide),IntWalk.i64_in _ (by omega)];omega
def Jq{j:Nat}(h:i+j<=9223372036854775807):I6.wrap ((i:Int)+j)=(i+j:Nat):=by rw[IntWalk.i64_in _ (by omega)];omega
def D0(h:i+1<=9223372036854775807):I6.wrap ((i:Int)+1)=(i+1:Nat):=by rw[IntWalk.i64_in _ (by omega)];omega
def Dz{j:Nat}(h:j<=i)(a:i<=9223372036854775807):I6.wrap ((i:Int)-j)=(i-j:Nat):=by rw[IntWalk.i64_in _ (by omega)];omega
def Z4(h:1<=i)(a:i<=9223372036854775807):I6.wrap ((i:Int)-1)=(i-1:Nat):=by rw[IntWalk.i64_in _ (by omega)];omega
def mA{T:Ty}{l:List T.q}{j:Nat}:(ie l T.j i j).length=l.length:=by simp[ie]
def qb8{T:Ty}{l:List T.q}{j:Nat}(c:i<l.length)(d:j<l.length){x:T.q}(h:x∈ie l T.j i j):x∈l:=by
 unfold ie at h;have a:l.getD i T.j∈l:=eT c;have b:l.getD j T.j∈l:=eT d;rcases uap h with h|rfl
 rcases uap h with h|rfl
 exact h;exact b;exact a
abbrev gw(e:TypeId)(T:Ty):Pt:=⟨53,2,⟨[(1,.d i64),(2,.d i64),(3,(aZ T)),(8,.d i64),(9,.d i64)],[.al 10000 0,.o 0 e T]⟩,⟨[(1,.d i64),(2,.d i64),(3,(aZ T)),(8,.d i64)],[.al 10000 0,.o 0 e T]⟩,⟨[],[]⟩⟩
def eN:Cx:=cx [] []
def aL:CxOK prog eN:=aQ aH trivial trivial
def B0(e:TypeId)(T:Ty)(x:(gw e T).M.X):Fr (gw e T).Out:=
 let a:=x.1.1;let j:=x.1.2.2.2.2.1;let g:=x.1.2.2.1;let l:=x.2.1
 Jd (J (j>a)=Z->0<=j/\j<l.length)
  (Jd (J (j>a)=Z->j.toNat<l.length)
   (Jd (J (j>a)=Z->0<=I6.wrap (j-1)/\I6.wrap (j-1)<l.length)
    (Jd (J (j>a)=Z->(I6.wrap (j-1)).toNat<l.length)
     (Jd (J (j>a)=Z->g.2 (l.getD j.toNat T.j,l.getD (I6.wrap (j-1)).toNat T.j,()))
      (Jb (bif J (j>a)then J ((g.1 (l.getD j.toNat T.j,l.getD (I6.wrap (j-1)).toNat T.j,())).1<0)else Y)
       (Jd (0<=I6.wrap (j-1)/\I6.wrap (j-1)<l.length)
        (Jd ((I6.wrap (j-1)).toNat<l.length)
         (Jd (0<=j/\j<l.length)
          (Jd (j.toNat<l.length)
           (Jd (0<=j/\j<l.length)
            (Jd (j.toNat<l.length)
             (Jd (0<=I6.wrap (j-1)/\I6.wrap (j-1)<(l.set j.toNat (l.getD (I6.wrap (j-1)).toNat T.j)).length)
              (Jd ((I6.wrap (j-1)).toNat<(l.set j.toNat (l.getD (I6.wrap (j-1)).toNat T.j)).length)
               (Jv (Rd.next ((a,x.1.2.1,(g.1,g.2),x.1.2.2.2.1,I6.wrap (j-1),()),
                ((l.set j.toNat (l.getD (I6.wrap (j-1)).toNat T.j)).set (I6.wrap (j-1)).toNat (l.getD j.toNat T.j),()))))))))))))
       (Jv (Rd.out ((a,x.1.2.1,(g.1,g.2),x.1.2.2.2.1,()),(l,())))))))))
structure InvInsI {T:Ty} (a j:Int) (g:(aZ T).q) (l:List T.q):Prop where
 a0:0<=a
 aj:a<=j
 jl:j<l.length
 big:(l.length:Int)<=9223372036854775807
 dom:lI g l
def wj(e:TypeId)(T:Ty)(x:(gw e T).M.X):Fr (gw e T).Out:=
 Jd (InvInsI x.1.1 x.1.2.2.2.2.1 x.1.2.2.1 x.2.1) (Jv (Rd.out ((x.1.1,x.1.2.1,x.1.2.2.1,x.1.2.2.2.1,()),(gZ (aR x.1.2.2.1) T.j x.1.1.toNat x.1.2.2.2.2.1.toNat x.2.1,()))))
def zbz {T:Ty} (a b i j:Int) (g:(aZ T).q) (l:List T.q) (s:InvInsI a j g l) (Q:(gw e T).Out->Prop)
  (c:Q (Rd.out ((a,b,g,i,()),(gZ (aR g) T.j a.toNat j.toNat l,())))):((B0 e T) ((a,b,g,i,j,()),(l,()))).s7 λ
   |.next m=>InvInsI m.1.1 m.1.2.2.2.2.1 m.1.2.2.1 m.2.1/\m.1.2.2.2.2.1.toNat<j.toNat/\((wj e T) m).s7 Q
   |.out y=>Q (.out y)
   |.back z=>Q (.back z)
   |.pan p=>Q (.pan p):=by
 obtain⟨E,F,G,H,w⟩:=s;obtain⟨o,rfl⟩:∃ n:Nat,a=n:=⟨a.toNat,by omega⟩;obtain⟨f,rfl⟩:∃ n:Nat,j=n:=⟨j.toNat,by omega⟩;dsimp only[B0,Fr.s7,Ty.q,PT.q];by_cases K:o<f;obtain⟨k,rfl⟩:∃ k,f=k+1:=⟨f-1,by omega⟩;have t:k+1<l.length:=by omega
 have B:I6.wrap (((k+1:Nat):Int)-1)=(k:Nat):=by rw[Z4 (by omega) (by omega)];rfl
 have u:J (((k+1:Nat):Int)>(o:Int))=true:=ueb (by omega);have C:((k+1:Nat):Int).toNat=k+1:=rfl;have D:((k:Nat):Int).toNat=k:=rfl;rw[B,u,C,D];simp only[udp];refine⟨λ_=>⟨by omega,by omega⟩,λ_=>by omega,λ_=>⟨by omega,by omega⟩,λ_=>by omega,λ_=>w _ (eT t) _ (eT (by omega)),λr=>?_,λr=>?_⟩;refine⟨⟨by omega,by omega⟩,by omega,⟨by omega,by omega⟩,by omega,⟨by omega,by omega⟩,by omega,⟨by omega,by omega⟩,by omega,?_⟩;have A:InvInsI o k g (ie l T.j (k+1) k):=⟨by omega,by omega,by rw[mA];omega,by rw[mA];omega,w.sub λx v=>qb8 t (by omega) v⟩;refine⟨A,by omega,A,?_⟩;simp only[uc0,gZ]at c |-;rw[ufw (by omega)]at c;have d:aR g (l.getD (k+1) T.j) (l.getD k T.j)=true:=r;rw[d]at c;exact c;simp only[uc0,gZ]at c;rw[ufw (by omega)]at c;have d:aR g (l.getD (k+1) T.j) (l.getD k T.j)=false:=r;rw[d]at c;exact c;have u:J ((f:Int)>(o:Int))=false:=udw (by omega);rw[u];refine⟨λh=>(by cases h),λh=>(by cases h),λh=>(by cases h),λh=>(by cases h),λh=>(by cases h),λr=>(by cases r),λ_=>?_⟩;have v:gZ (aR g) T.j o f l=l:=by
  cases f with
  |zero=>rfl
  |succ k=>simp only[gZ];rw[ufx (by omega)]
 simp only[uc0,v]at c;exact c
def XI{T:Ty}{c:Code}(f:af P c (gw e T).M (gw e T) (B0 e T)):af P (.loop c) (gw e T).M (gw e T) (wj e T):=by refine af.loop (n:=53) (id:=2) f (inv:=λx=>InvInsI x.1.1 x.1.2.2.2.2.1 x.1.2.2.1 x.2.1) (μ:=λx=>x.1.2.2.2.2.1.toNat) ?_ (λx Q h=>h.1);rintro⟨⟨a,b,g,i,j,_⟩,⟨l,_⟩⟩ d Q k;exact zbz a b i j g l d Q k.2
abbrev gy(e:TypeId)(T:Ty):Pt:=⟨53,0,⟨[(1,.d i64),(2,.d i64),(3,(aZ T)),(8,.d i64)],[.al 10000 0,.o 0 e T]⟩,⟨[],[.al 10000 0,.o 0 e T]⟩,⟨[],[]⟩⟩
def B3(e:TypeId)(T:Ty)(x:(gy e T).M.X):Fr (gy e T).Out:=
 let a:=x.1.1;let b:=x.1.2.1;let g:=x.1.2.2.1;let i:=x.1.2.2.2.1;let l:=x.2.1
 Jb (J (i<b))
  (Jd (InvInsI a i (g.1,g.2) l) (Jv (Rd.next ((a,b,(g.1,g.2),I6.wrap (i+1),()),(gZ (aR (g.1,g.2)) T.j a.toNat i.toNat l,())))))
  (Jv (Rd.out ((),(l,()))))
def WS{T:Ty}{lt:T.q->T.q->Bool}{a:Nat}:(j:Nat) -> {l:List T.q}->j<l.length->∀ x∈gZ lt T.j a j l,x∈l
 |0,_,_,_,h=>h
 |j+1,l,c,x,h=>by
  simp only[gZ]at h;split at h;cases b:lt (l.getD (j+1) T.j) (l.getD j T.j)with
  |true=>rw[b]at h;exact qb8 c (by omega) (WS j (by rw[mA];omega) x h)
  |false=>rw[b]at h;exact h
  exact h
def Nu{T:Ty}{lt:T.q->T.q->Bool}{a:Nat}:(j:Nat) -> {l:List T.q}->(gZ lt T.j a j l).length=l.length
 |0,_=>rfl
 |j+1,l=>by
  simp only[gZ];split;cases lt (l.getD (j+1) T.j) (l.getD j T.j)with
  |true=>rw[cond_true,Nu j,mA]
  |false=>rfl
  rfl
structure InvInsO {T:Ty} (a b i:Int) (g:(aZ T).q) (l:List T.q):Prop where
 a0:0<=a
 ai:a<i
 bl:b<=l.length
 il:i<=9223372036854775807
 big:(l.length:Int)<=9223372036854775807
 dom:lI g l
def wk(e:TypeId)(T:Ty)(x:(gy e T).M.X):Fr (gy e T).Out:=
 Jd (InvInsO x.1.1 x.1.2.1 x.1.2.2.2.1 x.1.2.2.1 x.2.1) (Jv (Rd.out ((),(om (aR x.1.2.2.1) T.j x.1.1.toNat (x.1.2.1-x.1.2.2.2.1).toNat x.1.2.2.2.1.toNat x.2.1,()))))
def zb0 {T:Ty} (a b i:Int) (g:(aZ T).q) (l:List T.q) (d:InvInsO a b i g l) (Q:(gy e T).Out->Prop)
  (f:Q (Rd.out ((),(om (aR g) T.j a.toNat (b-i).toNat i.toNat l,())))):((B3 e T) ((a,b,g,i,()),(l,()))).s7 λ
   |.next c=>InvInsO c.1.1 c.1.2.1 c.1.2.2.2.1 c.1.2.2.1 c.2.1/\(c.1.2.1-c.1.2.2.2.1).toNat<(b-i).toNat/\((wk e T) c).s7 Q
   |.out y=>Q (.out y)
   |.back z=>Q (.back z)
   |.pan p=>Q (.pan p):=by
 obtain⟨m,B,t,C,n,o⟩:=d;dsimp only[B3,Fr.s7,Ty.q,PT.q];refine⟨λk=>?_,λk=>?_⟩;have v:=ucx k;have w:I6.wrap (i+1)=i+1:=IntWalk.i64_in _ (by omega);have r:InvInsO a b (i+1) g (gZ (aR g) T.j a.toNat i.toNat l):=⟨m,by omega,by rw[Nu];exact t,by omega,by rw[Nu];exact n,o.sub λx A=>WS _ (by omega) x A⟩;refine⟨⟨m,by omega,by omega,n,o⟩,?_⟩;rw[w];refine⟨r,by omega,r,?_⟩;have h:(b-i).toNat=(b-(i+1)).toNat+1:=by omega
 have s:(i+1).toNat=i.toNat+1:=by omega
 rw[h]at f;rw[s];exact f;have u:=uch k;have h:(b-i).toNat=0:=by omega
 rw[h]at f;exact f
def XJ{T:Ty}{c:Code}(f:af P c (gy e T).M (gy e T) (B3 e T)):af P (.loop c) (gy e T).M (gy e T) (wk e T):=by refine af.loop f (μ:=λx=>(x.1.2.1-x.1.2.2.2.1).toNat) ?_ (λx Q h=>h.1);rintro⟨⟨a,b,g,i,_⟩,⟨l,_⟩⟩ d Q k;exact zb0 a b i g l d Q k.2
def jD{T:Ty}(g:(aZ T).q)(l:List T.q):Prop:=lI g l/\∃ a:T.q->Int,dY (aR g) a l
def jD.sub{T:Ty}{g:(aZ T).q}{l s:List T.q}(h:jD g l)(b:∀ x∈s,x∈l):jD g s:=by obtain⟨c,a,d⟩:=h;exact⟨c.sub b,a,d.sub b⟩
def ng(e:TypeId)(T:Ty):Mt:=⟨e,T,[.d i64,.d i64,(aZ T)],[],λl x=>(bP (aR x.2.2.1) x.1.toNat x.2.1.toNat l,()),λl x=>[0<=x.1,x.1<=x.2.1,x.2.1<=l.length,(l.length:Int)<=4611686018427387903,jD x.2.2.1 l]⟩
def B4(e:TypeId)(T:Ty)(l:List T.q)(x:ap [.d i64,.d i64,(aZ T)]):Fr (List T.q×aa []):=
 let b:=(x.2.2.1.1,x.2.2.1.2);let a:=I6.wrap (x.1+1);Jd (InvInsO x.1 x.2.1 a b l)
  (Jv (om (aR b) T.j x.1.toNat (x.2.1-I6.wrap (x.1+1)).toNat a.toNat l,()))
def WV{T:Ty}(l:List T.q)(c:ap (ng e T).ps)(h:l.length<=maxLen)(m:az ((ng e T).ok l c)):az [((B4 e T) l c).ok]/\((B4 e T) l c).get=(ng e T).f l c:=by obtain⟨a,b,g,rfl⟩:∃ (a b:Int) (g:(aZ T).q),c=(a,b,g,()):=⟨c.1,c.2.1,c.2.2.1,rfl⟩;have i:(0:Int)<=a/\(a:Int)<=b/\(b:Int)<=(List.length (α:=T.q) l:Int)/\(List.length (α:=T.q) l:Int)<=4611686018427387903/\jD g l:=m;obtain⟨n,t,o,h,p,k,r⟩:=i;have s:I6.wrap (a+1)=a+1:=IntWalk.i64_in _ (by omega);dsimp only[B4,Fr.ok,Fr.get,Ty.q,PT.q];rw[s];refine⟨⟨⟨n,by omega,o,by omega,by omega,p⟩,uT⟩,?_⟩;have:=qz7 (key:=k) (lt:=aR g) (d:=T.j) (a:=a.toNat) (b:=b.toNat) (l:=l) (by omega) (by omega) r;show(om (aR g) T.j a.toNat (b-(a+1)).toNat (a+1).toNat l,())=(bP (aR g) a.toNat b.toNat l,());rw[<- this,show(b-(a+1)).toNat=b.toNat-(a.toNat+1) by omega,show(a+1).toNat=a.toNat+1 by omega]
abbrev gF(e:TypeId)(T:Ty):Pt:=⟨38,0,⟨[(1,.d i64),(2,.d i64),(3,.d i64),(10,.d i64)],[.al 10000 0,.o 0 e T]⟩,⟨[],[.al 10000 0,.o 0 e T]⟩,⟨[],[]⟩⟩
def BE(e:TypeId)(T:Ty)(x:(gF e T).M.X):Fr (gF e T).Out:=
 let a:=x.1.1;let b:=x.1.2.1;let n:=x.1.2.2.1;let i:=x.1.2.2.2.1;let l:=x.2.1
 Jb (J (i<n))
  (Jd (0<=I6.wrap (b+i)/\I6.wrap (b+i)<l.length)
   (Jd ((I6.wrap (b+i)).toNat<l.length)
    (Jd (0<=I6.wrap (a+i)/\I6.wrap (a+i)<l.length)
     (Jd ((I6.wrap (a+i)).toNat<l.length)
      (Jd (0<=I6.wrap (a+i)/\I6.wrap (a+i)<l.length)
       (Jd ((I6.wrap (a+i)).toNat<l.length)
        (Jd (0<=I6.wrap (b+i)/\I6.wrap (b+i)<(l.set (I6.wrap (a+i)).toNat (l.getD (I6.wrap (b+i)).toNat T.j)).length)
         (Jd ((I6.wrap (b+i)).toNat<(l.set (I6.wrap (a+i)).toNat (l.getD (I6.wrap (b+i)).toNat T.j)).length)
          (Jv (Rd.next ((a,b,n,I6.wrap (i+1),()),
           ((l.set (I6.wrap (a+i)).toNat (l.getD (I6.wrap (b+i)).toNat T.j)).set (I6.wrap (b+i)).toNat (l.getD (I6.wrap (a+i)).toNat T.j),()))))))))))))
  (Jv (Rd.out ((),(l,()))))
structure InvSwp {T:Ty} (a b n i:Int) (l:List T.q):Prop where
 a0:0<=a
 b0:0<=b
 i0:0<=i
 al:a+n<=l.length
 bl:b+n<=l.length
 big:(l.length:Int)<=9223372036854775807
def wu(e:TypeId)(T:Ty)(x:(gF e T).M.X):Fr (gF e T).Out:=
 Jd (InvSwp x.1.1 x.1.2.1 x.1.2.2.1 x.1.2.2.2.1 x.2.1) (Jv (Rd.out ((),(fZ T.j (x.1.2.2.1-x.1.2.2.2.1).toNat (x.1.1+x.1.2.2.2.1).toNat (x.1.2.1+x.1.2.2.2.1).toNat x.2.1,()))))
def zcf {T:Ty} (a b n i:Int) (l:List T.q) (d:InvSwp a b n i l) (Q:(gF e T).Out->Prop)
  (f:Q (Rd.out ((),(fZ T.j (n-i).toNat (a+i).toNat (b+i).toNat l,())))):((BE e T) ((a,b,n,i,()),(l,()))).s7 λ
   |.next c=>InvSwp c.1.1 c.1.2.1 c.1.2.2.1 c.1.2.2.2.1 c.2.1/\(c.1.2.2.1-c.1.2.2.2.1).toNat<(n-i).toNat/\((wu e T) c).s7 Q
   |.out y=>Q (.out y)
   |.back z=>Q (.back z)
   |.pan p=>Q (.pan p):=by
 obtain⟨k,m,v,w,x,A⟩:=d;dsimp only[BE,Fr.s7,Ty.q,PT.q];refine⟨λg=>?_,λg=>?_⟩;have r:=ucx g;have s:I6.wrap (b+i)=b+i:=IntWalk.i64_in _ (by omega);have t:I6.wrap (a+i)=a+i:=IntWalk.i64_in _ (by omega);have u:I6.wrap (i+1)=i+1:=IntWalk.i64_in _ (by omega);rw[s,t,u];simp;refine⟨⟨by omega,by omega⟩,by omega,⟨by omega,by omega⟩,by omega,⟨by omega,by omega⟩,by omega,⟨by omega,by omega⟩,by omega,?_⟩;have h:InvSwp a b n (i+1) (ie l T.j (a+i).toNat (b+i).toNat):=⟨k,m,by omega,by rw[mA];omega,by rw[mA];omega,by rw[mA];omega⟩;refine⟨h,by omega,h,?_⟩;rw[show(n-i).toNat=(n-(i+1)).toNat+1 by omega]at f;rw[show(a+(i+1)).toNat=(a+i).toNat+1 by omega,show(b+(i+1)).toNat=(b+i).toNat+1 by omega];exact f;have o:=uch g;rw[show(n-i).toNat=0 by omega]at f;exact f
def XR{T:Ty}{c:Code}(f:af P c (gF e T).M (gF e T) (BE e T)):af P (.loop c) (gF e T).M (gF e T) (wu e T):=by refine af.loop f (μ:=λx=>(x.1.2.2.1-x.1.2.2.2.1).toNat) ?_ (λx Q h=>h.1);rintro⟨⟨a,b,n,i,_⟩,⟨l,_⟩⟩ d Q g;exact zcf a b n i l d Q g.2
def mh(e:TypeId)(T:Ty):Mt:=⟨e,T,[.d i64,.d i64,.d i64,(aZ T)],[],λl x=>(fZ T.j x.2.2.1.toNat x.1.toNat x.2.1.toNat l,()),λl x=>[0<=x.1,0<=x.2.1,x.1+x.2.2.1<=l.length,x.2.1+x.2.2.1<=l.length]⟩
def Ga(e:TypeId)(T:Ty)(l:List T.q)(x:ap [.d i64,.d i64,.d i64,(aZ T)]):Fr (List T.q×aa []):=
 Jd (InvSwp x.1 x.2.1 x.2.2.1 0 l) (Jv (fZ T.j (x.2.2.1-0).toNat (x.1+0).toNat (x.2.1+0).toNat l,()))
def qcb{T:Ty}(l:List T.q)(c:ap (mh e T).ps)(d:l.length<=maxLen)(i:az ((mh e T).ok l c)):az [((Ga e T) l c).ok]/\((Ga e T) l c).get=(mh e T).f l c:=by obtain⟨a,b,n,g,rfl⟩:∃ (a b n:Int) (g:(aZ T).q),c=(a,b,n,g,()):=⟨c.1,c.2.1,c.2.2.1,c.2.2.2.1,rfl⟩;have h:(0:Int)<=a/\(0:Int)<=b/\(a:Int)+n<=(List.length (α:=T.q) l:Int)/\(b:Int)+n<=(List.length (α:=T.q) l:Int):=i;obtain⟨k,m,o,p⟩:=h;simp only[maxLen]at d;refine⟨⟨⟨k,m,ufc _,o,p,by omega⟩,uT⟩,?_⟩;show(fZ T.j (n-0).toNat (a+0).toNat (b+0).toNat l,())=(fZ T.j n.toNat a.toNat b.toNat l,());rw[ues,ue6,ue6]
def Et{Q:Nat->Bool}:(f a i j:Nat)->j-i<=f->j-i<=a->cM Q f i j=cM Q a i j
 |0,0,_,_,_,_=>rfl
 |0,a+1,i,j,h,_=>by simp only[cM];rw[ufx (by omega)]
 |f+1,0,i,j,_,h=>by simp only[cM];rw[ufx (by omega)]
 |f+1,a+1,i,j,h,b=>by
  simp only[cM];split;cases Q ((i+j)/2)with
  |true=>exact Et f a _ _ (by omega) (by omega)
  |false=>exact Et f a _ _ (by omega) (by omega)
  rfl
def JG{Q:Nat->Bool}{j:Nat}(h:i<j):cM Q (j-i) i j=bif Q ((i+j)/2)then cM Q (j-((i+j)/2+1)) ((i+j)/2+1) j else cM Q ((i+j)/2-i) i ((i+j)/2):=by
 obtain⟨f,a⟩:∃ f,j-i=f+1:=⟨j-i-1,by omega⟩;rw[a];simp only[cM];rw[ufw h];cases Q ((i+j)/2)with
 |true=>exact Et _ _ _ _ (by omega) (by omega)
 |false=>exact Et _ _ _ _ (by omega) (by omega)
def H5{d:α}:(f a i j:Nat)->(l:List α)->0<i->0<j->i+j<=f->i+j<=a->eW d m f i j l=eW d m a i j l
 |0,_,i,j,_,_,_,_,_=>by omega
 |f+1,0,i,j,_,_,_,_,_=>by omega
 |f+1,a+1,i,j,l,b,c,e,g=>by simp only[eW];split;rfl;split;exact H5 f a _ _ _ (by omega) (by omega) (by omega) (by omega);exact H5 f a _ _ _ (by omega) (by omega) (by omega) (by omega)
abbrev g7(e:TypeId)(T:Ty):Pt:=⟨58,0,⟨[(2,.d i64),(4,(aZ T)),(10,.d i64),(11,.d i64)],[.al 10000 0,.o 0 e T]⟩,⟨[(2,.d i64),(4,(aZ T)),(10,.d i64)],[.al 10000 0,.o 0 e T]⟩,⟨[],[]⟩⟩
def B6(e:TypeId)(T:Ty)(x:(g7 e T).M.X):Fr (g7 e T).Out:=
 let m:=x.1.1;let g:=x.1.2.1;let i:=x.1.2.2.1;let j:=x.1.2.2.2.1;let l:=x.2.1
 Jb (i != j)
  (Jb (J (i>j))
   (Jd (0<=I6.wrap (m-i))
    (Jd (0<=m)
     (Jd (I6.wrap (m-i)+j<=(l.length:Int))
      (Jd (m+j<=(l.length:Int))
       (Jv (Rd.next ((m,(g.1,g.2),I6.wrap (i-j),j,()),(((mh e T).f l (I6.wrap (m-i),m,j,(g.1,g.2),())).1,()))))))))
   (Jd (0<=I6.wrap (m-i))
    (Jd (0<=I6.wrap (I6.wrap (m+j)-i))
     (Jd (I6.wrap (m-i)+i<=(l.length:Int))
      (Jd (I6.wrap (I6.wrap (m+j)-i)+i<=(l.length:Int))
       (Jv (Rd.next ((m,(g.1,g.2),i,I6.wrap (j-i),()),(((mh e T).f l (I6.wrap (m-i),I6.wrap (I6.wrap (m+j)-i),i,(g.1,g.2),())).1,())))))))))
  (Jv (Rd.out ((m,(g.1,g.2),i,()),(l,()))))
def vQ{T:Ty}:(n a b:Nat)->(l:List T.q)->(fZ T.j n a b l).length=l.length
 |0,_,_,_=>rfl
 |n+1,a,b,l=>by simp only[fZ];rw[vQ n,mA]
structure InvRot {T:Ty} (m i j:Int) (l:List T.q):Prop where
 i0:0<i
 j0:0<j
 im:i<=m
 ml:m+j<=l.length
 big:(l.length:Int)<=4611686018427387903
def wm(e:TypeId)(T:Ty)(x:(g7 e T).M.X):Fr (g7 e T).Out:=
 Jd (InvRot x.1.1 x.1.2.2.1 x.1.2.2.2.1 x.2.1) (Jv (Rd.out ((x.1.1,x.1.2.1,((eW T.j x.1.1.toNat (x.1.2.2.1.toNat+x.1.2.2.2.1.toNat) x.1.2.2.1.toNat x.1.2.2.2.1.toNat x.2.1).1:Nat),()),
  ((eW T.j x.1.1.toNat (x.1.2.2.1.toNat+x.1.2.2.2.1.toNat) x.1.2.2.1.toNat x.1.2.2.2.1.toNat x.2.1).2,()))))
def zb8 {T:Ty} (m i j:Int) (g:(aZ T).q) (l:List T.q) (d:InvRot m i j l) (Q:(g7 e T).Out->Prop)
  (a:Q (Rd.out ((m,g,((eW T.j m.toNat (i.toNat+j.toNat) i.toNat j.toNat l).1:Nat),()),((eW T.j m.toNat (i.toNat+j.toNat) i.toNat j.toNat l).2,())))):((B6 e T) ((m,g,i,j,()),(l,()))).s7 λ
   |.next b=>InvRot b.1.1 b.1.2.2.1 b.1.2.2.2.1 b.2.1/\b.1.2.2.1.toNat+b.1.2.2.2.1.toNat<i.toNat+j.toNat/\((wm e T) b).s7 Q
   |.out y=>Q (.out y)
   |.back z=>Q (.back z)
   |.pan p=>Q (.pan p):=by
 obtain⟨n,o,r,E,F⟩:=d;obtain⟨f,t⟩:∃ f,i.toNat+j.toNat=f+1:=⟨i.toNat+j.toNat-1,by omega⟩;have x:I6.wrap (m-i)=m-i:=IntWalk.i64_in _ (by omega);have A:I6.wrap (i-j)=i-j:=IntWalk.i64_in _ (by omega);have B:I6.wrap (m+j)=m+j:=IntWalk.i64_in _ (by omega);have C:I6.wrap (m+j-i)=m+j-i:=IntWalk.i64_in _ (by omega);have D:I6.wrap (j-i)=j-i:=IntWalk.i64_in _ (by omega);dsimp only[B6,Fr.s7,Ty.q,PT.q,mh];rw[x,A,B,C,D];rw[t]at a;simp only[eW]at a;refine⟨λh=>⟨λk=>?_,λk=>?_⟩,λh=>?_⟩;have u:i>j:=ucx k;rw[ufx (by omega),ufw (by omega)]at a;have c:InvRot m (i-j) j (fZ T.j j.toNat (m-i).toNat m.toNat l):=⟨by omega,o,by omega,by rw[vQ];omega,by rw[vQ];omega⟩;refine⟨by omega,by omega,by omega,by omega,c,by omega,c,?_⟩;dsimp only[Ty.q,PT.q];rw[H5 _ f (i-j).toNat j.toNat _ (by omega) (by omega) (ufb _) (by omega),show(i-j).toNat=i.toNat-j.toNat by omega,show(m-i).toNat=m.toNat-i.toNat by omega];exact a;have v:¬ i>j:=uch k;have w:i≠j:=by simpa using h
 rw[ufx (by omega),ufx (by omega)]at a;have c:InvRot m i (j-i) (fZ T.j i.toNat (m-i).toNat (m+j-i).toNat l):=⟨n,by omega,r,by rw[vQ];omega,by rw[vQ];omega⟩;refine⟨by omega,by omega,by omega,by omega,c,by omega,c,?_⟩;dsimp only[Ty.q,PT.q];rw[H5 _ f i.toNat (j-i).toNat _ (by omega) (by omega) (ufb _) (by omega),show(j-i).toNat=j.toNat-i.toNat by omega,show(m-i).toNat=m.toNat-i.toNat by omega,show(m+j-i).toNat=m.toNat+j.toNat-i.toNat by omega];exact a;have s:i=j:=by simpa using h
 rw[ufw (by omega)]at a;have:((i.toNat:Nat):Int)=i:=by omega
 rw[this]at a;exact a
def XL{T:Ty}{c:Code}(b:af P c (g7 e T).M (g7 e T) (B6 e T)):af P (.loop c) (g7 e T).M (g7 e T) (wm e T):=by refine af.loop (n:=58) (id:=0) b (inv:=λx=>InvRot x.1.1 x.1.2.2.1 x.1.2.2.2.1 x.2.1) (μ:=λx=>x.1.2.2.1.toNat+x.1.2.2.2.1.toNat) ?_ (λx Q h=>h.1);rintro⟨⟨m,g,i,j,_⟩,⟨l,_⟩⟩ a Q d;exact zb8 m i j g l a Q d.2
def OX{T:Ty}{m:Nat}:(f i j:Nat)->(l:List T.q)->0<i->0<j->i+j<=f->0<(eW T.j m f i j l).1/\(eW T.j m f i j l).1<=i/\(eW T.j m f i j l).1<=j/\(eW T.j m f i j l).2.length=l.length
 |0,i,j,l,_,_,_=>by omega
 |f+1,i,j,l,a,b,c=>by simp only[eW];split;exact⟨a,ufb _,by omega,rfl⟩;split;have:=OX (m:=m) f (i-j) j (fZ T.j j (m-i) m l) (by omega) b (by omega);rw[vQ]at this;omega;have:=OX (m:=m) f i (j-i) (fZ T.j i (m-i) (m+j-i) l) a (by omega) (by omega);rw[vQ]at this;omega
def rN(e:TypeId)(T:Ty):Mt:=⟨e,T,[.d i64,.d i64,.d i64,(aZ T)],[],λl x=>(sg T.j x.1.toNat x.2.1.toNat x.2.2.1.toNat l,()),λl x=>[0<=x.1,x.1<x.2.1,x.2.1<x.2.2.1,x.2.2.1<=l.length,(l.length:Int)<=4611686018427387903]⟩
def roI{T:Ty}(m i j:Int)(l:List T.q):Int:=((eW T.j m.toNat (i.toNat+j.toNat) i.toNat j.toNat l).1:Nat)
def roL{T:Ty}(m i j:Int)(l:List T.q):List T.q:=(eW T.j m.toNat (i.toNat+j.toNat) i.toNat j.toNat l).2
def B7(e:TypeId)(T:Ty)(l:List T.q)(x:ap [.d i64,.d i64,.d i64,(aZ T)]):Fr (List T.q×aa []):=
 let a:=x.1;let m:=x.2.1;let b:=x.2.2.1;let g:=x.2.2.2.1
 let i:=roI m (I6.wrap (m-a)) (I6.wrap (b-m)) l
 let r:=roL m (I6.wrap (m-a)) (I6.wrap (b-m)) l
 Jd (InvRot m (I6.wrap (m-a)) (I6.wrap (b-m)) l)
 (Jd (0<=I6.wrap (m-i))
  (Jd (0<=m)
   (Jd (I6.wrap (m-i)+i<=(r.length:Int))
    (Jd (m+i<=(r.length:Int))
     (Jv (((mh e T).f r (I6.wrap (m-i),m,i,(g.1,g.2),())).1,()))))))
def qae{T:Ty}(l:List T.q)(c:ap (rN e T).ps)(k:l.length<=maxLen)(h:az ((rN e T).ok l c)):az [((B7 e T) l c).ok]/\((B7 e T) l c).get=(rN e T).f l c:=by
 obtain⟨a,m,b,g,rfl⟩:∃ (a m b:Int) (g:(aZ T).q),c=(a,m,b,g,()):=⟨c.1,c.2.1,c.2.2.1,c.2.2.2.1,rfl⟩;have d:(0:Int)<=a/\(a:Int)<m/\(m:Int)<b/\(b:Int)<=(List.length (α:=T.q) l:Int)/\(List.length (α:=T.q) l:Int)<=4611686018427387903:=h;obtain⟨u,v,w,x,n⟩:=d;have p:I6.wrap (m-a)=m-a:=IntWalk.i64_in _ (by omega);have s:I6.wrap (b-m)=b-m:=IntWalk.i64_in _ (by omega);have o:=OX (m:=m.toNat) ((m-a).toNat+(b-m).toNat) (m-a).toNat (b-m).toNat l (by omega) (by omega) (ufb _);dsimp only[B7,Fr.ok,Fr.get,Ty.q,PT.q,mh,roI,roL];rw[p,s];have i:sg T.j a.toNat m.toNat b.toNat l=fZ T.j (eW T.j m.toNat ((m-a).toNat+(b-m).toNat) (m-a).toNat (b-m).toNat l).1 (m.toNat-(eW T.j m.toNat ((m-a).toNat+(b-m).toNat) (m-a).toNat (b-m).toNat l).1) m.toNat (eW T.j m.toNat ((m-a).toNat+(b-m).toNat) (m-a).toNat (b-m).toNat l).2:=by unfold sg;rw[show b.toNat-a.toNat=(m-a).toNat+(b-m).toNat by omega,show m.toNat-a.toNat=(m-a).toNat by omega,show b.toNat-m.toNat=(b-m).toNat by omega]
 generalize eW T.j m.toNat ((m-a).toNat+(b-m).toNat) (m-a).toNat (b-m).toNat l=r at o i |-;have t:I6.wrap (m-(r.1:Int))=m-r.1:=IntWalk.i64_in _ (by omega);rw[t];refine⟨⟨⟨by omega,by omega,by omega,by omega,n⟩,by omega,by omega,by omega,by omega,uT⟩,?_⟩;show(fZ T.j (r.1:Int).toNat (m-r.1).toNat m.toNat r.2,())=(sg T.j a.toNat m.toNat b.toNat l,());rw[i,show(r.1:Int).toNat=r.1 by omega,show(m-(r.1:Int)).toNat=m.toNat-r.1 by omega]
def de(i j:Int):Int:=I6.wrap ((U6.wrap (I6.wrap (i+j))).fdiv (2 ^ min (Int.toNat 1) U6.bits))
def GL{j:Nat}(h:i+j<=9223372036854775807):de (i:Int) j=((i+j)/2:Nat):=qzf h
abbrev g8(e:TypeId)(T:Ty):Pt:=⟨220,0,⟨[(1,.d i64),(4,(aZ T)),(10,.d i64),(11,.d i64)],[.al 10000 0,.o 0 e T]⟩,⟨[(1,.d i64),(10,.d i64)],[.al 10000 0,.o 0 e T]⟩,⟨[],[]⟩⟩
def B8(e:TypeId)(T:Ty)(x:(g8 e T).M.X):Fr (g8 e T).Out:=
 let c:=x.1.1;let g:=x.1.2.1;let i:=x.1.2.2.1;let j:=x.1.2.2.2.1;let l:=x.2.1
 Jb (J (i<j))
  (Jd (¬(1:Int)<0)
   (Jd (0<=de i j/\de i j<(l.length:Int))
    (Jd ((de i j).toNat<l.length)
     (Jd (0<=c/\c<(l.length:Int))
      (Jd ((c).toNat<l.length)
       (Jd (g.2 (l.getD (de i j).toNat T.j,l.getD c.toNat T.j,()))
        (Jb (J ((g.1 (l.getD (de i j).toNat T.j,l.getD c.toNat T.j,())).1<0))
         (Jv (Rd.next ((c,(g.1,g.2),I6.wrap (de i j+1),j,()),(l,()))))
         (Jv (Rd.next ((c,(g.1,g.2),i,de i j,()),(l,())))))))))))
  (Jv (Rd.out ((c,i,()),(l,()))))
structure InvS0 {T:Ty} (c i j:Int) (g:(aZ T).q) (l:List T.q):Prop where
 c0:0<=c
 cl:c<l.length
 i0:0<=i
 ij:i<=j
 jl:j<=l.length
 big:(l.length:Int)<=4611686018427387903
 dom:lI g l
def wn(e:TypeId)(T:Ty)(x:(g8 e T).M.X):Fr (g8 e T).Out:=
 let c:=x.1.1;let g:=x.1.2.1;let i:=x.1.2.2.1;let j:=x.1.2.2.2.1;let l:=x.2.1
 Jd (InvS0 c i j g l) (Jv (Rd.out ((c,(cM (λh=>aR g (l.getD h T.j) (l.getD c.toNat T.j)) (j.toNat-i.toNat) i.toNat j.toNat:Nat),()),(l,()))))
def zb9 {T:Ty} (c i j:Int) (g:(aZ T).q) (l:List T.q) (r:InvS0 c i j g l) (Q:(g8 e T).Out->Prop)
  (d:Q (Rd.out ((c,(cM (λh=>aR g (l.getD h T.j) (l.getD c.toNat T.j)) (j.toNat-i.toNat) i.toNat j.toNat:Nat),()),(l,())))):((B8 e T) ((c,g,i,j,()),(l,()))).s7 λ
   |.next f=>InvS0 f.1.1 f.1.2.2.1 f.1.2.2.2.1 f.1.2.1 f.2.1/\(f.1.2.2.2.1-f.1.2.2.1).toNat<(j-i).toNat/\((wn e T) f).s7 Q
   |.out y=>Q (.out y)
   |.back z=>Q (.back z)
   |.pan p=>Q (.pan p):=by
 obtain⟨A,B,G,H,K,C,u⟩:=r;obtain⟨a,rfl⟩:∃ n:Nat,i=n:=⟨i.toNat,by omega⟩;obtain⟨b,rfl⟩:∃ n:Nat,j=n:=⟨j.toNat,by omega⟩;obtain⟨m,rfl⟩:∃ n:Nat,c=n:=⟨c.toNat,by omega⟩;have E:de (a:Int) b=((a+b)/2:Nat):=GL (by omega);have F:I6.wrap ((((a+b)/2:Nat):Int)+1)=((a+b)/2+1:Nat):=D0 (by omega);dsimp only[B8,Fr.s7,PT.q];rw[E,F];simp only[uc0]at d |-;refine⟨λv=>?_,λv=>?_⟩;have w:a<b:=by have:(a:Int)<b:=ucx v;omega
 rw[JG w]at d;have x:(a+b)/2<l.length:=by omega
 have t:m<l.length:=by omega
 refine⟨by omega,⟨by omega,by omega⟩,by omega,⟨by omega,by omega⟩,by omega,u _ (eT x) _ (eT t),λs=>?_,λs=>?_⟩;have k:(aR g (l.getD ((a+b)/2) T.j) (l.getD m T.j))=true:=s;rw[k]at d;have o:InvS0 (m:Int) ((a+b)/2+1:Nat) b g l:=⟨A,B,by omega,by omega,by omega,C,u⟩;exact⟨o,by omega,o,d⟩;have k:(aR g (l.getD ((a+b)/2) T.j) (l.getD m T.j))=false:=s;rw[k]at d;have o:InvS0 (m:Int) a ((a+b)/2:Nat) g l:=⟨A,B,by omega,by omega,by omega,C,u⟩;exact⟨o,by omega,o,d⟩;have D:¬ a<b:=by have:¬ (a:Int)<b:=uch v;omega
 rw[show b-a=0 by omega]at d;exact d
def XM{T:Ty}{c:Code}(b:af P c (g8 e T).M (g8 e T) (B8 e T)):af P (.loop c) (g8 e T).M (g8 e T) (wn e T):=by refine af.loop b (μ:=λx=>(x.1.2.2.2.1-x.1.2.2.1).toNat) ?_ (λx Q h=>h.1);rintro⟨⟨c,g,i,j,_⟩,⟨l,_⟩⟩ a Q d;exact zb9 c i j g l a Q d.2
abbrev gC(e:TypeId)(T:Ty):Pt:=⟨220,4,⟨[(2,.d i64),(4,(aZ T)),(14,.d i64),(15,.d i64)],[.al 10000 0,.o 0 e T]⟩,⟨[(2,.d i64),(14,.d i64)],[.al 10000 0,.o 0 e T]⟩,⟨[],[]⟩⟩
def BA(e:TypeId)(T:Ty)(x:(gC e T).M.X):Fr (gC e T).Out:=
 let c:=x.1.1;let g:=x.1.2.1;let i:=x.1.2.2.1;let j:=x.1.2.2.2.1;let l:=x.2.1
 Jb (J (i<j))
  (Jd (¬(1:Int)<0)
   (Jd (0<=c/\c<(l.length:Int))
    (Jd ((c).toNat<l.length)
     (Jd (0<=de i j/\de i j<(l.length:Int))
      (Jd ((de i j).toNat<l.length)
       (Jd (g.2 (l.getD c.toNat T.j,l.getD (de i j).toNat T.j,()))
        (Jb (!J ((g.1 (l.getD c.toNat T.j,l.getD (de i j).toNat T.j,())).1<0))
         (Jv (Rd.next ((c,(g.1,g.2),I6.wrap (de i j+1),j,()),(l,()))))
         (Jv (Rd.next ((c,(g.1,g.2),i,de i j,()),(l,())))))))))))
  (Jv (Rd.out ((c,i,()),(l,()))))
structure InvS2 {T:Ty} (c i j:Int) (g:(aZ T).q) (l:List T.q):Prop where
 c0:0<=c
 cl:c<l.length
 i0:0<=i
 ij:i<=j
 jl:j<=l.length
 big:(l.length:Int)<=4611686018427387903
 dom:lI g l
def wq(e:TypeId)(T:Ty)(x:(gC e T).M.X):Fr (gC e T).Out:=
 let c:=x.1.1;let g:=x.1.2.1;let i:=x.1.2.2.1;let j:=x.1.2.2.2.1;let l:=x.2.1
 Jd (InvS2 c i j g l) (Jv (Rd.out ((c,(cM (λh=>!aR g (l.getD c.toNat T.j) (l.getD h T.j)) (j.toNat-i.toNat) i.toNat j.toNat:Nat),()),(l,()))))
def zcb {T:Ty} (c i j:Int) (g:(aZ T).q) (l:List T.q) (r:InvS2 c i j g l) (Q:(gC e T).Out->Prop)
  (d:Q (Rd.out ((c,(cM (λh=>!aR g (l.getD c.toNat T.j) (l.getD h T.j)) (j.toNat-i.toNat) i.toNat j.toNat:Nat),()),(l,())))):((BA e T) ((c,g,i,j,()),(l,()))).s7 λ
   |.next f=>InvS2 f.1.1 f.1.2.2.1 f.1.2.2.2.1 f.1.2.1 f.2.1/\(f.1.2.2.2.1-f.1.2.2.1).toNat<(j-i).toNat/\((wq e T) f).s7 Q
   |.out y=>Q (.out y)
   |.back z=>Q (.back z)
   |.pan p=>Q (.pan p):=by
 obtain⟨A,B,G,H,K,C,u⟩:=r;obtain⟨a,rfl⟩:∃ n:Nat,i=n:=⟨i.toNat,by omega⟩;obtain⟨b,rfl⟩:∃ n:Nat,j=n:=⟨j.toNat,by omega⟩;obtain⟨m,rfl⟩:∃ n:Nat,c=n:=⟨c.toNat,by omega⟩;have E:de (a:Int) b=((a+b)/2:Nat):=GL (by omega);have F:I6.wrap ((((a+b)/2:Nat):Int)+1)=((a+b)/2+1:Nat):=D0 (by omega);dsimp only[BA,Fr.s7,PT.q];rw[E,F];simp only[uc0]at d |-;refine⟨λv=>?_,λv=>?_⟩;have w:a<b:=by have:(a:Int)<b:=ucx v;omega
 rw[JG w]at d;have x:(a+b)/2<l.length:=by omega
 have t:m<l.length:=by omega
 refine⟨by omega,⟨by omega,by omega⟩,by omega,⟨by omega,by omega⟩,by omega,u _ (eT t) _ (eT x),λs=>?_,λs=>?_⟩;have k:(!aR g (l.getD m T.j) (l.getD ((a+b)/2) T.j))=true:=s;rw[k]at d;have o:InvS2 (m:Int) ((a+b)/2+1:Nat) b g l:=⟨A,B,by omega,by omega,by omega,C,u⟩;exact⟨o,by omega,o,d⟩;have k:(!aR g (l.getD m T.j) (l.getD ((a+b)/2) T.j))=false:=s;rw[k]at d;have o:InvS2 (m:Int) a ((a+b)/2:Nat) g l:=⟨A,B,by omega,by omega,by omega,C,u⟩;exact⟨o,by omega,o,d⟩;have D:¬ a<b:=by have:¬ (a:Int)<b:=uch v;omega
 rw[show b-a=0 by omega]at d;exact d
def XO{T:Ty}{c:Code}(b:af P c (gC e T).M (gC e T) (BA e T)):af P (.loop c) (gC e T).M (gC e T) (wq e T):=by refine af.loop b (μ:=λx=>(x.1.2.2.2.1-x.1.2.2.1).toNat) ?_ (λx Q h=>h.1);rintro⟨⟨c,g,i,j,_⟩,⟨l,_⟩⟩ a Q d;exact zcb c i j g l a Q d.2
abbrev gE(e:TypeId)(T:Ty):Pt:=⟨220,8,⟨[(1,.d i64),(2,.d i64),(3,.d i64),(4,(aZ T)),(18,.d i64),(19,.d i64),(20,.d i64),(21,.d i64),(22,.d i64)],[.al 10000 0,.o 0 e T]⟩,⟨[(1,.d i64),(2,.d i64),(3,.d i64),(4,(aZ T)),(18,.d i64),(19,.d i64),(20,.d i64)],[.al 10000 0,.o 0 e T]⟩,⟨[],[]⟩⟩
def BC(e:TypeId)(T:Ty)(x:(gE e T).M.X):Fr (gE e T).Out:=
 let a:=x.1.1;let m:=x.1.2.1;let b:=x.1.2.2.1;let g:=x.1.2.2.2.1;let bc:=x.1.2.2.2.2.1;let n:=x.1.2.2.2.2.2.1;let i:=x.1.2.2.2.2.2.2.1;let j:=x.1.2.2.2.2.2.2.2.1;let p:=x.1.2.2.2.2.2.2.2.2.1;let l:=x.2.1
 Jb (J (i<j))
  (Jd (¬(1:Int)<0)
   (Jd (0<=I6.wrap (p-de i j)/\I6.wrap (p-de i j)<(l.length:Int))
    (Jd ((I6.wrap (p-de i j)).toNat<l.length)
     (Jd (0<=de i j/\de i j<(l.length:Int))
      (Jd ((de i j).toNat<l.length)
       (Jd (g.2 (l.getD (I6.wrap (p-de i j)).toNat T.j,l.getD (de i j).toNat T.j,()))
        (Jb (!J ((g.1 (l.getD (I6.wrap (p-de i j)).toNat T.j,l.getD (de i j).toNat T.j,())).1<0))
         (Jv (Rd.next ((a,m,b,(g.1,g.2),bc,n,I6.wrap (de i j+1),j,p,()),(l,()))))
         (Jv (Rd.next ((a,m,b,(g.1,g.2),bc,n,i,de i j,p,()),(l,())))))))))))
  (Jv (Rd.out ((a,m,b,(g.1,g.2),bc,n,i,()),(l,()))))
structure InvS4 {T:Ty} (p i j:Int) (g:(aZ T).q) (l:List T.q):Prop where
 p0:0<=p
 pl:p<i+l.length
 pj:j<=p+1
 i0:0<=i
 ij:i<=j
 jl:j<=l.length
 big:(l.length:Int)<=4611686018427387903
 dom:lI g l
def wt(e:TypeId)(T:Ty)(x:(gE e T).M.X):Fr (gE e T).Out:=
 let a:=x.1.1;let m:=x.1.2.1;let b:=x.1.2.2.1;let g:=x.1.2.2.2.1;let bc:=x.1.2.2.2.2.1;let n:=x.1.2.2.2.2.2.1;let i:=x.1.2.2.2.2.2.2.1;let j:=x.1.2.2.2.2.2.2.2.1;let p:=x.1.2.2.2.2.2.2.2.2.1;let l:=x.2.1
 Jd (InvS4 p i j g l) (Jv (Rd.out ((a,m,b,g,bc,n,(cM (λh=>!aR g (l.getD (p.toNat-h) T.j) (l.getD h T.j)) (j.toNat-i.toNat) i.toNat j.toNat:Nat),()),(l,()))))
def zcd {T:Ty} (a m b bc n p i j:Int) (g:(aZ T).q) (l:List T.q) (t:InvS4 p i j g l) (Q:(gE e T).Out->Prop)
  (f:Q (Rd.out ((a,m,b,g,bc,n,(cM (λh=>!aR g (l.getD (p.toNat-h) T.j) (l.getD h T.j)) (j.toNat-i.toNat) i.toNat j.toNat:Nat),()),(l,())))):((BC e T) ((a,m,b,g,bc,n,i,j,p,()),(l,()))).s7 λ
   |.next k=>InvS4 k.1.2.2.2.2.2.2.2.2.1 k.1.2.2.2.2.2.2.1 k.1.2.2.2.2.2.2.2.1 k.1.2.2.2.1 k.2.1/\(k.1.2.2.2.2.2.2.2.1-k.1.2.2.2.2.2.2.1).toNat<(j-i).toNat/\((wt e T) k).s7 Q
   |.out y=>Q (.out y)
   |.back z=>Q (.back z)
   |.pan p=>Q (.pan p):=by
 obtain⟨iy,H,K,L,M,N,C,x⟩:=t;obtain⟨c,rfl⟩:∃ n:Nat,i=n:=⟨i.toNat,by omega⟩;obtain⟨d,rfl⟩:∃ n:Nat,j=n:=⟨j.toNat,by omega⟩;obtain⟨r,rfl⟩:∃ n:Nat,p=n:=⟨p.toNat,by omega⟩;have E:de (c:Int) d=((c+d)/2:Nat):=GL (by omega);have G:I6.wrap ((((c+d)/2:Nat):Int)+1)=((c+d)/2+1:Nat):=D0 (by omega);dsimp only[BC,Fr.s7,PT.q];rw[E,G];have F:(c<d)->I6.wrap ((r:Int)-(((c+d)/2:Nat):Int))=(r-(c+d)/2:Nat):=λh=>Dz (by omega) (by omega);simp only[uc0]at f |-;refine⟨λA=>?_,λA=>?_⟩;have u:c<d:=by have:(c:Int)<d:=ucx A;omega
 rw[JG u]at f;rw[F u];have B:r-(c+d)/2<l.length:=by omega
 have w:(c+d)/2<l.length:=by omega
 refine⟨by omega,⟨by omega,by omega⟩,by omega,⟨by omega,by omega⟩,by omega,x _ (eT B) _ (eT w),λv=>?_,λv=>?_⟩;have o:(!aR g (l.getD (r-(c+d)/2) T.j) (l.getD ((c+d)/2) T.j))=true:=v;rw[o]at f;have s:InvS4 (r:Int) ((c+d)/2+1:Nat) d g l:=⟨iy,by omega,by omega,by omega,by omega,by omega,C,x⟩;exact⟨s,by omega,s,f⟩;have o:(!aR g (l.getD (r-(c+d)/2) T.j) (l.getD ((c+d)/2) T.j))=false:=v;rw[o]at f;have s:InvS4 (r:Int) c ((c+d)/2:Nat) g l:=⟨iy,by omega,by omega,by omega,by omega,by omega,C,x⟩;exact⟨s,by omega,s,f⟩;have D:¬ c<d:=by have:¬ (c:Int)<d:=uch A;omega
 rw[show d-c=0 by omega]at f;exact f
def XQ{T:Ty}{c:Code}(f:af P c (gE e T).M (gE e T) (BC e T)):af P (.loop c) (gE e T).M (gE e T) (wt e T):=by refine af.loop f (μ:=λx=>(x.1.2.2.2.2.2.2.2.1-x.1.2.2.2.2.2.2.1).toNat) ?_ (λx Q h=>h.1);rintro⟨⟨a,m,b,g,bc,n,i,j,p,_⟩,⟨l,_⟩⟩ d Q k;exact zcd a m b bc n p i j g l d Q k.2
abbrev g9(e:TypeId)(T:Ty):Pt:=⟨220,2,⟨[(10,.d i64),(13,.d i64)],[.al 10000 0,.o 0 e T]⟩,⟨[],[.al 10000 0,.o 0 e T]⟩,⟨[],[]⟩⟩
def B9(e:TypeId)(T:Ty)(x:(g9 e T).M.X):Fr (g9 e T).Out:=
 let i:=x.1.1;let k:=x.1.2.1;let l:=x.2.1
 Jb (J (k<I6.wrap (i-1)))
  (Jd (0<=I6.wrap (k+1)/\I6.wrap (k+1)<(l.length:Int))
   (Jd ((I6.wrap (k+1)).toNat<l.length)
    (Jd (0<=k/\k<(l.length:Int))
     (Jd (k.toNat<l.length)
      (Jd (0<=k/\k<(l.length:Int))
       (Jd (k.toNat<l.length)
        (Jd (0<=I6.wrap (k+1)/\I6.wrap (k+1)<((l.set k.toNat (l.getD (I6.wrap (k+1)).toNat T.j)).length:Int))
         (Jd ((I6.wrap (k+1)).toNat<(l.set k.toNat (l.getD (I6.wrap (k+1)).toNat T.j)).length)
          (Jv (Rd.next ((i,I6.wrap (k+1),()),((l.set k.toNat (l.getD (I6.wrap (k+1)).toNat T.j)).set (I6.wrap (k+1)).toNat (l.getD k.toNat T.j),()))))))))))))
  (Jv (Rd.out ((),(l,()))))
structure InvS1 {T:Ty} (i k:Int) (l:List T.q):Prop where
 k0:0<=k
 i0:0<=i
 il:i<=l.length
 big:(l.length:Int)<=4611686018427387903
def wo(e:TypeId)(T:Ty)(x:(g9 e T).M.X):Fr (g9 e T).Out:=
 let i:=x.1.1;let k:=x.1.2.1;let l:=x.2.1
 Jd (InvS1 i k l) (Jv (Rd.out ((),(qx T.j (i-1-k).toNat k.toNat l,()))))
def zca {T:Ty} (i k:Int) (l:List T.q) (c:InvS1 i k l) (Q:(g9 e T).Out->Prop) (a:Q (Rd.out ((),(qx T.j (i-1-k).toNat k.toNat l,())))):((B9 e T) ((i,k,()),(l,()))).s7 λ
   |.next b=>InvS1 b.1.1 b.1.2.1 b.2.1/\(b.1.1-1-b.1.2.1).toNat<(i-1-k).toNat/\((wo e T) b).s7 Q
   |.out y=>Q (.out y)
   |.back z=>Q (.back z)
   |.pan p=>Q (.pan p):=by
 obtain⟨o,r,s,t⟩:=c;have m:I6.wrap (i-1)=i-1:=IntWalk.i64_in _ (by omega);dsimp only[B9,Fr.s7,Ty.q,PT.q];rw[m];simp only[udp];refine⟨λd=>?_,λd=>?_⟩;have h:=ucx d;have n:I6.wrap (k+1)=k+1:=IntWalk.i64_in _ (by omega);rw[n];have f:InvS1 i (k+1) (ie l T.j k.toNat (k+1).toNat):=⟨by omega,by omega,by rw[mA];omega,by rw[mA];omega⟩;refine⟨⟨by omega,by omega⟩,by omega,⟨by omega,by omega⟩,by omega,⟨by omega,by omega⟩,by omega,⟨by omega,by omega⟩,by omega,f,by omega,f,?_⟩;rw[show(i-1-k).toNat=(i-1-(k+1)).toNat+1 by omega]at a;simp only[qx]at a;rw[show k.toNat+1=(k+1).toNat by omega]at a;exact a;have g:=uch d;rw[show(i-1-k).toNat=0 by omega]at a;exact a
def XN{T:Ty}{c:Code}(b:af P c (g9 e T).M (g9 e T) (B9 e T)):af P (.loop c) (g9 e T).M (g9 e T) (wo e T):=by refine af.loop b (μ:=λx=>(x.1.1-1-x.1.2.1).toNat) ?_ (λx Q h=>h.1);rintro⟨⟨i,k,_⟩,⟨l,_⟩⟩ a Q d;exact zca i k l a Q d.2
abbrev gD(e:TypeId)(T:Ty):Pt:=⟨220,6,⟨[(14,.d i64),(17,.d i64)],[.al 10000 0,.o 0 e T]⟩,⟨[],[.al 10000 0,.o 0 e T]⟩,⟨[],[]⟩⟩
def BB(e:TypeId)(T:Ty)(x:(gD e T).M.X):Fr (gD e T).Out:=
 let i:=x.1.1;let k:=x.1.2.1;let l:=x.2.1
 Jb (J (k>i))
  (Jd (0<=I6.wrap (k-1)/\I6.wrap (k-1)<(l.length:Int))
   (Jd ((I6.wrap (k-1)).toNat<l.length)
    (Jd (0<=k/\k<(l.length:Int))
     (Jd (k.toNat<l.length)
      (Jd (0<=k/\k<(l.length:Int))
       (Jd (k.toNat<l.length)
        (Jd (0<=I6.wrap (k-1)/\I6.wrap (k-1)<((l.set k.toNat (l.getD (I6.wrap (k-1)).toNat T.j)).length:Int))
         (Jd ((I6.wrap (k-1)).toNat<(l.set k.toNat (l.getD (I6.wrap (k-1)).toNat T.j)).length)
          (Jv (Rd.next ((i,I6.wrap (k-1),()),((l.set k.toNat (l.getD (I6.wrap (k-1)).toNat T.j)).set (I6.wrap (k-1)).toNat (l.getD k.toNat T.j),()))))))))))))
  (Jv (Rd.out ((),(l,()))))
structure InvS3 {T:Ty} (i k:Int) (l:List T.q):Prop where
 i0:0<=i
 ik:i<=k
 kl:k<l.length
 big:(l.length:Int)<=4611686018427387903
def ws(e:TypeId)(T:Ty)(x:(gD e T).M.X):Fr (gD e T).Out:=
 let i:=x.1.1;let k:=x.1.2.1;let l:=x.2.1
 Jd (InvS3 i k l) (Jv (Rd.out ((),(pJ T.j (k-i).toNat k.toNat l,()))))
def zcc {T:Ty} (i k:Int) (l:List T.q) (c:InvS3 i k l) (Q:(gD e T).Out->Prop) (a:Q (Rd.out ((),(pJ T.j (k-i).toNat k.toNat l,())))):((BB e T) ((i,k,()),(l,()))).s7 λ
   |.next b=>InvS3 b.1.1 b.1.2.1 b.2.1/\(b.1.2.1-b.1.1).toNat<(k-i).toNat/\((ws e T) b).s7 Q
   |.out y=>Q (.out y)
   |.back z=>Q (.back z)
   |.pan p=>Q (.pan p):=by
 obtain⟨n,o,r,s⟩:=c;have m:I6.wrap (k-1)=k-1:=IntWalk.i64_in _ (by omega);dsimp only[BB,Fr.s7,Ty.q,PT.q];rw[m];simp only[udp];refine⟨λd=>?_,λd=>?_⟩;have h:=ucx d;have f:InvS3 i (k-1) (ie l T.j k.toNat (k-1).toNat):=⟨by omega,by omega,by rw[mA];omega,by rw[mA];omega⟩;refine⟨⟨by omega,by omega⟩,by omega,⟨by omega,by omega⟩,by omega,⟨by omega,by omega⟩,by omega,⟨by omega,by omega⟩,by omega,f,by omega,f,?_⟩;rw[show(k-i).toNat=(k-1-i).toNat+1 by omega]at a;simp only[pJ]at a;rw[show k.toNat-1=(k-1).toNat by omega]at a;exact a;have g:=uch d;rw[show(k-i).toNat=0 by omega]at a;exact a
def XP{T:Ty}{c:Code}(b:af P c (gD e T).M (gD e T) (BB e T)):af P (.loop c) (gD e T).M (gD e T) (ws e T):=by refine af.loop b (μ:=λx=>(x.1.2.1-x.1.1).toNat) ?_ (λx Q h=>h.1);rintro⟨⟨i,k,_⟩,⟨l,_⟩⟩ a Q d;exact zcc i k l a Q d.2
end Go.Proofs.YtdadnmgajcfkfaaGreat
