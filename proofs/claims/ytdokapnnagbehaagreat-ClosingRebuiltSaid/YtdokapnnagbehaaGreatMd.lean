/-
  Parts of the proof, one behind the other.
-/
import Derived.Test.YtdokapnnagbehaaGreatMc
import Derived.Defers
import Derived.MapKept
import Derived.Carry
import Derived.WalkKit
import Derived.Deep.RegionLaw
import Derived.Lib.Overlaps
import Derived.Lib.AppendZerosOnto
import Derived.Laws.NewBlocks
import Derived.Lib.AppendZeros
set_option linter.all false
set_option maxRecDepth 100000
set_option maxHeartbeats 4000000
noncomputable section
open Option renaming some->U,none->V
open Bool renaming true->Z,false->Y
open Decidable renaming decide->J
open List renaming replicate->Lrp
open BitVec renaming ofInt->Bvo
open Go Go.RowKit
variable {T α σ ρ β:Type} {P:Program} {ad:Addr} {arr cs cur:Array Value} {f:FuncId} {p x a y r day:Int} {k:IntKind} {l:List Int} {xs vs news:List Value} {off i n b c d B m len:Nat} {F F' K:Nat->Prop} {R g R':Nat->Value->Prop} {o:Oper} {e ety t ty el:TypeId} {v u vx:Value} {w w' W' W:World}
namespace Go.Proofs.YtdokapnnagbehaaGreat
open Go Go.Ab Go.RowKit Go.Proofs Tryz
open Go.Ab.Fr renaming val->Jv,need->Jd,br->Jb
structure SymOk {T:Ty} (n:Nat) (a m b:Int) (g:(aZ T).q) (l:List T.q):Prop where
 a0:0<=a
 am:a<m
 mb:m<b
 bl:b<=l.length
 big:(l.length:Int)<=4611686018427387903
 size:b-a<=n
 dom:lI g l
 key:∃ key:T.q->Int,dY (aR g) key l/\cA key (bz a.toNat m.toNat l)/\cA key (bz m.toNat b.toNat l)
def kN(e:TypeId)(T:Ty)(n:Nat):Mt:=⟨e,T,[.d i64,.d i64,.d i64,(aZ T)],[],λl x=>(bP (aR x.2.2.2.1) x.1.toNat x.2.2.1.toNat l,()),λl x=>[SymOk n x.1 x.2.1 x.2.2.1 x.2.2.2.1 l]⟩
def wG{T:Ty}(c i j:Int)(g:(aZ T).q)(l:List T.q):Int:=(cM (λh=>aR g (l.getD h T.j) (l.getD c.toNat T.j)) (j.toNat-i.toNat) i.toNat j.toNat:Nat)
def JF{T:Ty}(c i j:Int)(g:(aZ T).q)(l:List T.q):Int:=(cM (λh=>!aR g (l.getD c.toNat T.j) (l.getD h T.j)) (j.toNat-i.toNat) i.toNat j.toNat:Nat)
def Ep{T:Ty}(p i j:Int)(g:(aZ T).q)(l:List T.q):Int:=(cM (λh=>!aR g (l.getD (p.toNat-h) T.j) (l.getD h T.j)) (j.toNat-i.toNat) i.toNat j.toNat:Nat)
def D4(e:TypeId)(T:Ty)(n:Nat)(bc a b:Int)(g:(aZ T).q)(l:List T.q):Fr (List T.q×aa []):=
 Jb (bif J (bc<a)then J (a<b)else Y) (Jd (SymOk n bc a b (g.1,g.2) l) (Jv ((((kN e T) n).f l (bc,a,b,(g.1,g.2),())).1,()))) (Jv (l,()))
def D3(e:TypeId)(T:Ty)(n:Nat)(a c bc d b:Int)(g:(aZ T).q)(l:List T.q):Fr (List T.q×aa []):=
 Jb (bif J (a<c)then J (c<bc)else Y) (Jd (SymOk n a c bc (g.1,g.2) l) ((D4 e T) n bc d b g (((kN e T) n).f l (a,c,bc,(g.1,g.2),())).1)) ((D4 e T) n bc d b g l)
def Io(e:TypeId)(T:Ty)(n:Nat)(a m b d bc c:Int)(g:(aZ T).q)(l:List T.q):Fr (List T.q×aa []):=
 Jb (bif J (d<m)then J (m<c)else Y)
  (Jd (0<=d) (Jd (d<m) (Jd (m<c) (Jd (c<=(l.length:Int)) (Jd ((l.length:Int)<=4611686018427387903) ((D3 e T) n a d bc c b g ((rN e T).f l (d,m,c,(g.1,g.2),())).1))))))
  ((D3 e T) n a d bc c b g l)
def D2(e:TypeId)(T:Ty)(n:Nat)(a m b bc i j:Int)(g:(aZ T).q)(l:List T.q):Fr (List T.q×aa []):=
 let p:=I6.wrap (I6.wrap (bc+m)-1)
 Jd (InvS4 p i j (g.1,g.2) l) ((Io e T) n a m b (Ep p i j (g.1,g.2) l) bc (I6.wrap (I6.wrap (bc+m)-Ep p i j (g.1,g.2) l)) g l)
def ue(e:TypeId)(T:Ty)(n:Nat)(l:List T.q)(x:ap [.d i64,.d i64,.d i64,(aZ T)]):Fr (List T.q×aa []):=
 let a:=x.1;let m:=x.2.1;let b:=x.2.2.1;let g:=x.2.2.2.1
 Jb (I6.wrap (m-a)==1)
  (Jd (InvS0 a m b (g.1,g.2) l) (Jd (InvS1 (wG a m b (g.1,g.2) l) a l) (Jv (qx T.j (wG a m b (g.1,g.2) l-1-a).toNat a.toNat l,()))))
  (Jb (I6.wrap (b-m)==1)
   (Jd (InvS2 m a m (g.1,g.2) l) (Jd (InvS3 (JF m a m (g.1,g.2) l) m l) (Jv (pJ T.j (m-JF m a m (g.1,g.2) l).toNat m.toNat l,()))))
   (Jd (¬(1:Int)<0)
    (Jb (J (m>de a b))
     ((D2 e T) n a m b (de a b) (I6.wrap (I6.wrap (de a b+m)-b)) (de a b) g l)
     ((D2 e T) n a m b (de a b) a m g l))))
def Es{Q:Nat->Bool}:(f i j:Nat)->i<=j->i<=cM Q f i j/\cM Q f i j<=j
 |0,i,j,h=>⟨ufd _,h⟩
 |f+1,i,j,h=>by
  simp only[cM];split;cases Q ((i+j)/2)with
  |true=>have:=Es (Q:=Q) f ((i+j)/2+1) j (by omega);simp;omega
  |false=>have:=Es (Q:=Q) f i ((i+j)/2) (by omega);simp;omega
  exact⟨ufd _,h⟩
structure Sym3 {T:Ty} (lt:T.q->T.q->Bool) (key:T.q->Int) (a m b st:Nat) (l:List T.q):Prop where
 s1:a<=st
 s2:st<=m
 s3:st<=(a+b)/2
 s4:(a+b)/2<=b
 e1:m+st<=(a+b)/2+m
 e2:(a+b)/2+m<=b+st
 len1:(dE T.j m st ((a+b)/2+m-st) l).length=l.length
 same1:bA key l (dE T.j m st ((a+b)/2+m-st) l)
 sA1:cA key (bz a st (dE T.j m st ((a+b)/2+m-st) l))
 sB1:cA key (bz st ((a+b)/2) (dE T.j m st ((a+b)/2+m-st) l))
 len2:(if a<st/\st<(a+b)/2 then bP lt a ((a+b)/2) (dE T.j m st ((a+b)/2+m-st) l)else dE T.j m st ((a+b)/2+m-st) l).length=l.length
 same2:bA key l (if a<st/\st<(a+b)/2 then bP lt a ((a+b)/2) (dE T.j m st ((a+b)/2+m-st) l)else dE T.j m st ((a+b)/2+m-st) l)
 sA2:cA key (bz ((a+b)/2) ((a+b)/2+m-st) (if a<st/\st<(a+b)/2 then bP lt a ((a+b)/2) (dE T.j m st ((a+b)/2+m-st) l)else dE T.j m st ((a+b)/2+m-st) l))
 sB2:cA key (bz ((a+b)/2+m-st) b (if a<st/\st<(a+b)/2 then bP lt a ((a+b)/2) (dE T.j m st ((a+b)/2+m-st) l)else dE T.j m st ((a+b)/2+m-st) l))
def zpq{T:Ty}{lt:T.q->T.q->Bool}{k:T.q->Int}{a:Nat}{l:List T.q}(W:a<m)(h2:m<b)(h3:b<=l.length)(hl:dY lt k l)(N:cA k (bz a m l))(O:cA k (bz m b l)):
  Sym3 lt k a m b (eL lt T.j a m b l) l:=by
 obtain⟨p,q,A,H,C,E,hq⟩:=qa8 (ue9 W) (ue9 h2) h3;have D:=hl.sub λz K=>by
  rw[A];rcases udt.1 K with h|h
  exact ua6 _ (ubk _ h);exact ua6 _ (ua6 _ (ubk _ h))
 obtain⟨g,c,e,f,R,S,P,Q,f1,f2⟩:=qch (d:=T.j) H C E W h2 D N O;rw[<- A]at P Q;rw[R]at N C;rw[S]at O E;rw[R,S]at A;generalize eL lt T.j a m b l=n at P Q |-;subst A;simp at C E h3;have L:=ubp.1 N;have M:=ubp.1 O;have F:(a+b)/2+m-n=m+e.length:=by omega
 have t:dE T.j m n ((a+b)/2+m-n) (p++(g++c++(e++f++q)))=p++(g++(e++(c++(f++q)))):=by rw[F];unfold dE;split;rename_i v;have:=qad (d:=T.j) (a:=n) (m:=m) (x:=c) (y:=e) (p:=p++g) (q:=f++q) (by omega) (by omega) (by simp;omega) (by omega) rfl;simpa using this;rename_i v;by_cases w:e=[];subst w;simp;have:=ubz.2 w;have:c=[]:=uaz.1 (by omega);subst this;simp
 have i:bA k (p++(g++c++(e++f++q))) (p++(g++(e++(c++(f++q))))):=by have h:=(bA.refl p).app (((bA.refl g).app (bA.swap λx hx y hy=>by have:=f2 y hy x hx;omega:bA k (c++e) (e++c))).app (bA.refl (f++q)));simpa using h
 have G:=hl.sub λz K=>i.mem.1 K;have g1:bz a n (p++(g++(e++(c++(f++q)))))=g:=vE H (by omega);have g2:bz n ((a+b)/2) (p++(g++(e++(c++(f++q)))))=e:=by have:=vE (p:=p++g) (s:=e) (q:=c++(f++q)) (a:=n) (b:=(a+b)/2) (by simp;omega) (by omega);simpa using this
 have B:∀ u:List T.q,u.length=g.length+e.length->bz ((a+b)/2) ((a+b)/2+m-n) (p++(u++(c++(f++q))))=c/\bz ((a+b)/2+m-n) b (p++(u++(c++(f++q))))=f:=λu hT=>by have k1:=vE (p:=p++u) (s:=c) (q:=f++q) (a:=(a+b)/2) (b:=(a+b)/2+m-n) (by simp;omega) (by omega);have k2:=vE (p:=p++u++c) (s:=f) (q:=q) (a:=(a+b)/2+m-n) (b:=b) (by simp;omega) (by omega);exact⟨by simpa using k1,by simpa using k2⟩
 have o:(p++(g++(e++(c++(f++q))))).length=(p++(g++c++(e++f++q))).length:=by simp;omega
 have r:a<n/\n<(a+b)/2->bP lt a ((a+b)/2) (p++(g++(e++(c++(f++q)))))=p++(dp lt (g++e)++(c++(f++q))):=λv=>by have:=uS (lt:=lt) (b:=(a+b)/2) (s:=g++e) (q:=c++(f++q)) H (by simp;omega);simpa using this
 refine⟨by omega,by omega,by omega,by omega,by omega,by omega,by rw[t];exact o,by rw[t];exact i,by rw[t,g1];exact L.1,by rw[t,g2];exact M.1,?_,?_,?_,?_⟩;rw[t];split;rw[uU (by omega) (by simp;omega)];exact o;exact o;rw[t];split;exact i.trans (O0 (by omega) (by simp;omega) G);exact i;rw[t];split;rename_i v;rw[r v,(B _ (by rw[oS];simp)).1];exact L.2.1;have:=(B (g++e) (by simp)).1;rw[show p++(g++(e++(c++(f++q))))=p++((g++e)++(c++(f++q))) by simp,this];exact L.2.1;rw[t];split;rename_i v;rw[r v,(B _ (by rw[oS];simp)).2];exact M.2.1;have:=(B (g++e) (by simp)).2;rw[show p++(g++(e++(c++(f++q))))=p++((g++e)++(c++(f++q))) by simp,this];exact M.2.1
def zpt{T:Ty}{lt:T.q->T.q->Bool}{c:T.q->Int}{a:Nat}{l:List T.q}(f:a<m)(g:m<b)(t:b<=l.length)(u:dY lt c l)(o:cA c (bz a m l))(r:cA c (bz m b l)):
  sx lt T.j a m b l=bP lt a b l:=by
 obtain⟨p,q,e,n,i,k,w⟩:=qa8 (ue9 f) (ue9 g) t;generalize bz a m l=A at e i o;generalize bz m b l=B at e k r;subst e;have d:=u.sub λz v=>by
  rcases udt.1 v with h|h
  exact ua6 _ (ubk _ h);exact ua6 _ (ua6 _ (ubk _ h))
 rw[zps n i k f g d o r];have:=uS (lt:=lt) (b:=b) (s:=A++B) (q:=q) n (by simp;omega);rw[<- this];simp
def J3(p q:Prop)[Decidable p][Decidable q]:(bif decide p then decide q else Y)=J (p/\q):=by by_cases p<;>by_cases q<;>simp_all
def qcf{T:Ty}{bc a:Nat}{g:(aZ T).q}{l:List T.q}(h:bc<a/\a<b->SymOk n bc a b g l):
  ((D4 e T) n bc a b g l).ok/\((D4 e T) n bc a b g l).get=((if bc<a/\a<b then bP (aR g) bc b l else l),()):=by
 unfold D4;have f:(bif J ((bc:Int)<a)then J ((a:Int)<b)else Y)=J (bc<a/\a<b):=by rw[J3,udi];omega
 rw[f];by_cases c:bc<a/\a<b;rw[ueb c,uf0 c];exact⟨⟨λ_=>⟨h c,uT⟩,λd=>by cases d⟩,rfl⟩;rw[udw c,uf1 c];exact⟨⟨λd=>(by cases d),λ_=>uT⟩,rfl⟩
def qce{T:Ty}{a c bc d:Nat}{g:(aZ T).q}{l:List T.q}(h:a<c/\c<bc->SymOk n a c bc g l)(k:bc<d/\d<b->SymOk n bc d b g (if a<c/\c<bc then bP (aR g) a bc l else l)):
  ((D3 e T) n a c bc d b g l).ok/\((D3 e T) n a c bc d b g l).get=((if bc<d/\d<b then bP (aR g) bc b (if a<c/\c<bc then bP (aR g) a bc l else l)else (if a<c/\c<bc then bP (aR g) a bc l else l)),()):=by
 unfold D3;have p:(bif J ((a:Int)<c)then J ((c:Int)<bc)else Y)=J (a<c/\c<bc):=by rw[J3,udi];omega
 rw[p];by_cases f:a<c/\c<bc;rw[uf0 f]at k |-;rw[ueb f];obtain⟨i,m⟩:=qcf k;exact⟨⟨λ_=>⟨h f,i⟩,λo=>by cases o⟩,m⟩;rw[uf1 f]at k |-;rw[udw f];obtain⟨i,m⟩:=qcf k;exact⟨⟨λo=>(by cases o),λ_=>i⟩,m⟩
def zpr{T:Ty}{a c bc d:Nat}{g:(aZ T).q}{l:List T.q}(t:d<=l.length)(f:(l.length:Int)<=4611686018427387903)(h:a<c/\c<bc->SymOk n a c bc g (dE T.j m c d l))(k:bc<d/\d<b->SymOk n bc d b g (if a<c/\c<bc then bP (aR g) a bc (dE T.j m c d l)else dE T.j m c d l)):
  ((Io e T) n a m b c bc d g l).ok/\((Io e T) n a m b c bc d g l).get=((if bc<d/\d<b then bP (aR g) bc b (if a<c/\c<bc then bP (aR g) a bc (dE T.j m c d l)else dE T.j m c d l)else (if a<c/\c<bc then bP (aR g) a bc (dE T.j m c d l)else dE T.j m c d l)),()):=by
 unfold Io;have s:(bif J ((c:Int)<m)then J ((m:Int)<d)else Y)=J (c<m/\m<d):=by rw[J3,udi];omega
 rw[s];by_cases i:c<m/\m<d;have e:dE T.j m c d l=sg T.j c m d l:=by unfold dE;rw[uf0 i]
 rw[e]at h k |-;rw[ueb i];obtain⟨o,p⟩:=qce h k;exact⟨⟨λ_=>⟨by omega,by omega,by omega,by omega,f,o⟩,λr=>by cases r⟩,p⟩;have e:dE T.j m c d l=l:=by unfold dE;rw[uf1 i]
 rw[e]at h k |-;rw[udw i];obtain⟨o,p⟩:=qce h k;exact⟨⟨λr=>(by cases r),λ_=>o⟩,p⟩
def qci{T:Ty}(n a m b:Nat)(g:(aZ T).q)(l:List T.q)(h:SymOk (n+1) a m b g l):((ue e T) n l ((a:Int),(m:Int),(b:Int),g,())).ok/\((ue e T) n l ((a:Int),(m:Int),(b:Int),g,())).get=(bP (aR g) a b l,()):=by
 obtain⟨_,h1,h2,h3,c,G,f,A,C,sA,sB⟩:=h;have v:a<m:=by omega
 have w:m<b:=by omega
 have x:b<=l.length:=by omega
 have hX:=zpt v w x C sA sB;rw[<- hX];have w1:I6.wrap ((m:Int)-a)=(m-a:Nat):=Dz (by omega) (by omega);have w2:I6.wrap ((b:Int)-m)=(b-m:Nat):=Dz (by omega) (by omega);have y:de (a:Int) b=((a+b)/2:Nat):=GL (by omega);dsimp only[ue];rw[w1,w2,y];by_cases B:m-a=1;have p:(((m-a:Nat):Int)==1)=true:=by rw[B];rfl
 rw[p];unfold sx;rw[uf0 B];obtain⟨L,M⟩:=Es (b-m) m b (by omega);have t:wG (a:Int) m b g l=(cM (λh=>aR g (l.getD h T.j) (l.getD a T.j)) (b-m) m b:Nat):=rfl;have e:(g.1,g.2)=g:=rfl;rw[t];generalize cM (λh=>aR g (l.getD h T.j) (l.getD a T.j)) (b-m) m b=r at L M |-;refine⟨⟨λ_=>⟨⟨by omega,by omega,by omega,by omega,by omega,c,f⟩,⟨by omega,by omega,by omega,c⟩,uT⟩,λd=>by cases d⟩,?_⟩;rw[show((r:Int)-1-a).toNat=r-1-a by omega];rfl
 ·have p:(((m-a:Nat):Int)==1)=false:=by rw[ubw];omega
  rw[p];by_cases D:b-m=1;have p:(((b-m:Nat):Int)==1)=true:=by rw[D];rfl
  rw[p];unfold sx;rw[uf1 B,uf0 D];obtain⟨L,M⟩:=Es (m-a) a m (by omega);have t:JF (m:Int) a m g l=(cM (λh=>!aR g (l.getD m T.j) (l.getD h T.j)) (m-a) a m:Nat):=rfl;have e:(g.1,g.2)=g:=rfl;rw[t];generalize cM (λh=>!aR g (l.getD m T.j) (l.getD h T.j)) (m-a) a m=r at L M |-;refine⟨⟨λd=>(by cases d),λ_=>⟨λ_=>⟨⟨by omega,by omega,by omega,by omega,by omega,c,f⟩,⟨by omega,by omega,by omega,c⟩,uT⟩,λd=>by cases d⟩⟩,?_⟩;rw[show((m:Int)-r).toNat=m-r by omega];rfl
  ·have p:(((b-m:Nat):Int)==1)=false:=by rw[ubw];omega
   rw[p];have N:=zpq v w x C sA sB;have s:∀ i j:Nat,(i=if (a+b)/2<m then (a+b)/2+m-b else a)->(j=if (a+b)/2<m then (a+b)/2 else m) ->
     ((D2 e T) n a m b ((a+b)/2:Nat) i j g l).ok/\((D2 e T) n a m b ((a+b)/2:Nat) i j g l).get=(sx (aR g) T.j a m b l,()):=λi j S W=>by
    have wp:I6.wrap (I6.wrap ((((a+b)/2:Nat):Int)+m)-1)=((a+b)/2+m-1:Nat):=by rw[Jq (by omega),Z4 (by omega) (by omega)]
    have hS:Ep (((a+b)/2+m-1:Nat):Int) i j g l=(eL (aR g) T.j a m b l:Nat):=by unfold Ep eL;simp;rw[<- S,<- W]
    dsimp only[D2];have e:(g.1,g.2)=g:=rfl;rw[wp,e,hS];have we:I6.wrap (I6.wrap ((((a+b)/2:Nat):Int)+m)-(eL (aR g) T.j a m b l:Nat))=((a+b)/2+m-eL (aR g) T.j a m b l:Nat):=by have:=N.s3;rw[Jq (by omega),Dz (by omega) (by omega)]
    rw[we];have E:sx (aR g) T.j a m b l=(if (a+b)/2<(a+b)/2+m-eL (aR g) T.j a m b l/\(a+b)/2+m-eL (aR g) T.j a m b l<b then bP (aR g) ((a+b)/2) b (if a<eL (aR g) T.j a m b l/\eL (aR g) T.j a m b l<(a+b)/2 then bP (aR g) a ((a+b)/2) (dE T.j m (eL (aR g) T.j a m b l) ((a+b)/2+m-eL (aR g) T.j a m b l) l)else dE T.j m (eL (aR g) T.j a m b l) ((a+b)/2+m-eL (aR g) T.j a m b l) l)else (if a<eL (aR g) T.j a m b l/\eL (aR g) T.j a m b l<(a+b)/2 then bP (aR g) a ((a+b)/2) (dE T.j m (eL (aR g) T.j a m b l) ((a+b)/2+m-eL (aR g) T.j a m b l) l)else dE T.j m (eL (aR g) T.j a m b l) ((a+b)/2+m-eL (aR g) T.j a m b l) l)):=by
     conv=>lhs;unfold sx
     rw[uf1 B,uf1 D]
    rw[E];generalize eL (aR g) T.j a m b l=st at N |-;obtain⟨q1,q2,q3,q4,q5,q6,len1,k,O,Q,len2,o,P,R⟩:=N;obtain⟨o1,o2⟩:=zpr (n:=n) (by omega) c
     (λp=>⟨by omega,by omega,by omega,by omega,by omega,by omega,f.sub λz u=>k.mem.1 u,A,C.sub λz u=>k.mem.1 u,O,Q⟩)
     (λp=>⟨by omega,by omega,by omega,by omega,by omega,by omega,f.sub λz u=>o.mem.1 u,A,C.sub λz u=>o.mem.1 u,P,R⟩)
    refine⟨⟨?_,o1⟩,o2⟩;refine⟨by omega,?_,?_,by omega,?_,?_,c,f⟩<;>(subst S W;split<;>omega)
   by_cases cm:m>(a+b)/2;have F:J ((m:Int)>((a+b)/2:Nat))=true:=ueb (by omega);rw[F];have wi:I6.wrap (I6.wrap ((((a+b)/2:Nat):Int)+m)-b)=((a+b)/2+m-b:Nat):=by rw[Jq (by omega),Dz (by omega) (by omega)]
   rw[wi];obtain⟨H,K⟩:=s ((a+b)/2+m-b) ((a+b)/2) (by rw[uf0 (by omega)]) (by rw[uf0 (by omega)]);exact⟨⟨λd=>(by cases d),λ_=>⟨λd=>(by cases d),λ_=>⟨by omega,λ_=>H,λd=>by cases d⟩⟩⟩,K⟩;have F:J ((m:Int)>((a+b)/2:Nat))=false:=udw (by omega);rw[F];obtain⟨H,K⟩:=s a m (by rw[uf1 (by omega)]) (by rw[uf1 (by omega)]);exact⟨⟨λd=>(by cases d),λ_=>⟨λd=>(by cases d),λ_=>⟨by omega,λd=>(by cases d),λ_=>H⟩⟩⟩,K⟩
def JB{T:Ty}{lt:T.q->T.q->Bool}{w:Nat}(c:0<w):(f b a:Nat)->(l:List T.q)->n<f+a->n<b+a->fx lt w n f a l=fx lt w n b a l
 |0,0,_,_,_,_=>rfl
 |0,b+1,a,l,h,_=>by simp only[fx];rw[uf1 (by omega)]
 |f+1,0,a,l,_,h=>by simp only[fx];rw[uf1 (by omega)]
 |f+1,b+1,a,l,h,d=>by simp only[fx];split;exact JB c f b _ _ (by omega) (by omega);rfl
def O3{T:Ty}{lt:T.q->T.q->Bool}:(f a w:Nat)->(l:List T.q)->0<w->n<=f+w->n<=a+w->gp lt n f w l=gp lt n a w l
 |0,0,_,_,_,_,_=>rfl
 |0,a+1,w,l,b,h,_=>by simp only[gp];rw[uf1 (by omega)]
 |f+1,0,w,l,b,_,h=>by simp only[gp];rw[uf1 (by omega)]
 |f+1,a+1,w,l,b,h,c=>by simp only[gp];split;exact O3 f a _ _ (by omega) (by omega) (by omega);rfl
abbrev big:Nat:=4611686018427387903
abbrev gv(e:TypeId)(T:Ty):Pt:=⟨63,0,⟨[(1,.d i64),(2,(aZ T)),(6,.d i64),(7,.d i64),(8,.d i64)],[.al 10000 0,.o 0 e T]⟩,⟨[(1,.d i64),(2,(aZ T)),(6,.d i64),(7,.d i64)],[.al 10000 0,.o 0 e T]⟩,⟨[],[]⟩⟩
def By(e:TypeId)(T:Ty)(x:(gv e T).M.X):Fr (gv e T).Out:=
 let n:=x.1.1;let g:=x.1.2.1;let c:=x.1.2.2.1;let a:=x.1.2.2.2.1;let b:=x.1.2.2.2.2.1;let l:=x.2.1
 Jb (J (b<=n))
  (Jd (0<=a)
   (Jd (a<=b)
    (Jd (b<=(l.length:Int))
     (Jd ((l.length:Int)<=4611686018427387903)
      (Jd (jD (g.1,g.2) l)
       (Jv (Rd.next ((n,(g.1,g.2),c,b,I6.wrap (b+c),()),(((ng e T).f l (a,b,(g.1,g.2),())).1,())))))))))
  (Jv (Rd.out ((n,(g.1,g.2),c,a,()),(l,()))))
structure InvBlk {T:Ty} (n bs a b:Int) (g:(aZ T).q) (l:List T.q):Prop where
 nl:n=l.length
 big:n<=4611686018427387903
 wG:bs=20
 a0:0<=a
 an:a<=n
 ab:b=a+20
 ord:jD g l
def mI{T:Ty}(n a:Int)(g:(aZ T).q)(l:List T.q):Nat×List T.q:=fx (aR g) 20 n.toNat (n.toNat+1) a.toNat l
def wh(e:TypeId)(T:Ty)(x:(gv e T).M.X):Fr (gv e T).Out:=
 let n:=x.1.1;let g:=x.1.2.1;let c:=x.1.2.2.1;let a:=x.1.2.2.2.1;let b:=x.1.2.2.2.2.1;let l:=x.2.1
 Jd (InvBlk n c a b g l) (Jv (Rd.out ((n,g,c,((mI n a g l).1:Nat),()),((mI n a g l).2,()))))
def Oz{T:Ty}{lt:T.q->T.q->Bool}{a:Nat}{l:List T.q}{x:T.q}(h:x∈bP lt a b l):x∈l:=by
 rcases udt.1 h with h|h
 exact ubq h;rcases udt.1 h with h|h
 exact ubq (ubr (zw.1 h));exact ubr h
def zbt {T:Ty} (n i a b:Int) (g:(aZ T).q) (l:List T.q) (d:InvBlk n i a b g l) (Q:(gv e T).Out->Prop)
  (h:Q (Rd.out ((n,g,i,((mI n a g l).1:Nat),()),((mI n a g l).2,())))):((By e T) ((n,g,i,a,b,()),(l,()))).s7 λ
   |.next c=>InvBlk c.1.1 c.1.2.2.1 c.1.2.2.2.1 c.1.2.2.2.2.1 c.1.2.1 c.2.1/\(c.1.1-c.1.2.2.2.1).toNat<(n-a).toNat/\((wh e T) c).s7 Q
   |.out y=>Q (.out y)
   |.back z=>Q (.back z)
   |.pan p=>Q (.pan p):=by
 obtain⟨t,u,v,A,E,B,o⟩:=d;subst v B;dsimp only[By,Fr.s7,Ty.q,PT.q];refine⟨λk=>?_,λk=>?_⟩
 ·have m:=ucx k;have w:I6.wrap (a+20+20)=a+20+20:=IntWalk.i64_in _ (by omega);rw[w];have f:(bP (aR g) a.toNat (a+20).toNat l).length=l.length:=uU (by omega) (by omega);have r:InvBlk n 20 (a+20) (a+20+20) g (bP (aR g) a.toNat (a+20).toNat l):=⟨by rw[f];exact t,u,rfl,by omega,m,rfl,o.sub λx D=>Oz D⟩;refine⟨A,by omega,by omega,by omega,o,r,by omega,r,?_⟩;have e:mI n a g l=mI n (a+20) g (bP (aR g) a.toNat (a+20).toNat l):=by
   unfold mI
   conv=>lhs;unfold fx
   rw[uf0 (by omega),show a.toNat+20=(a+20).toNat by omega];exact JB (by omega) _ _ _ _ (by omega) (by omega)
  rw[e]at h;exact h
 have C:=uch k;have e:mI n a g l=(a.toNat,l):=by unfold mI fx;rw[uf1 (by omega)]
 rw[e]at h;have s:((a.toNat:Nat):Int)=a:=by omega
 simp only[s]at h;exact h
def XH{T:Ty}{c:Code}(f:af P c (gv e T).M (gv e T) (By e T)):af P (.loop c) (gv e T).M (gv e T) (wh e T):=by refine af.loop f (μ:=λx=>(x.1.1-x.1.2.2.2.1).toNat) ?_ (λx Q h=>h.1);rintro⟨⟨n,g,i,a,b,_⟩,⟨l,_⟩⟩ d Q k;exact zbt n i a b g l d Q k.2
abbrev gz(e:TypeId)(T:Ty):Pt:=⟨63,4,⟨[(1,.d i64),(2,(aZ T)),(6,.d i64),(7,.d i64),(8,.d i64)],[.al 10000 0,.o 0 e T]⟩,⟨[(1,.d i64),(2,(aZ T)),(6,.d i64),(7,.d i64)],[.al 10000 0,.o 0 e T]⟩,⟨[],[]⟩⟩
def B5(e:TypeId)(T:Ty)(x:(gz e T).M.X):Fr (gz e T).Out:=
 let n:=x.1.1;let g:=x.1.2.1;let c:=x.1.2.2.1;let a:=x.1.2.2.2.1;let b:=x.1.2.2.2.2.1;let l:=x.2.1
 Jb (J (b<=n))
  (Jd (SymOk big a (I6.wrap (a+c)) b (g.1,g.2) l)
   (Jv (Rd.next ((n,(g.1,g.2),c,b,I6.wrap (b+I6.wrap (2*c)),()),((((kN e T) big).f l (a,I6.wrap (a+c),b,(g.1,g.2),())).1,())))))
  (Jv (Rd.out ((n,(g.1,g.2),c,a,()),(l,()))))
structure InvPas {T:Ty} (n bs a b:Int) (g:(aZ T).q) (l:List T.q):Prop where
 nl:n=l.length
 big:n<=4611686018427387903
 wG:0<bs
 bsn:bs<n
 a0:0<=a
 an:a<=n
 ab:b=a+2*bs
 mul:∃ c:Nat,a.toNat=c*(2*bs.toNat)
 dom:lI g l
 key:∃ key:T.q->Int,dY (aR g) key l/\∀ k:Nat,a.toNat<=k*bs.toNat->cA key (bz (k*bs.toNat) (k*bs.toNat+bs.toNat) l)
def jz{T:Ty}(n b a:Int)(g:(aZ T).q)(l:List T.q):Nat×List T.q:=fx (aR g) (2*b.toNat) n.toNat (n.toNat+1) a.toNat l
def wl(e:TypeId)(T:Ty)(x:(gz e T).M.X):Fr (gz e T).Out:=
 let n:=x.1.1;let g:=x.1.2.1;let c:=x.1.2.2.1;let a:=x.1.2.2.2.1;let b:=x.1.2.2.2.2.1;let l:=x.2.1
 Jd (InvPas n c a b g l) (Jv (Rd.out ((n,g,c,((jz n c a g l).1:Nat),()),((jz n c a g l).2,()))))
def zb5 {T:Ty} (n d a b:Int) (g:(aZ T).q) (l:List T.q) (r:InvPas n d a b g l) (Q:(gz e T).Out->Prop)
  (t:Q (Rd.out ((n,g,d,((jz n d a g l).1:Nat),()),((jz n d a g l).2,())))):((B5 e T) ((n,g,d,a,b,()),(l,()))).s7 λ
   |.next h=>InvPas h.1.1 h.1.2.2.1 h.1.2.2.2.1 h.1.2.2.2.2.1 h.1.2.1 h.2.1/\(h.1.1-h.1.2.2.2.1).toNat<(n-a).toNat/\((wl e T) h).s7 Q
   |.out y=>Q (.out y)
   |.back z=>Q (.back z)
   |.pan p=>Q (.pan p):=by
 obtain⟨G,H,K,L,M,h5,N,⟨c,u⟩,B,f,C,i⟩:=r;subst N;dsimp only[B5,Fr.s7,Ty.q,PT.q,kN];have R:I6.wrap (a+d)=a+d:=IntWalk.i64_in _ (by omega);have S:I6.wrap (2*d)=2*d:=IntWalk.i64_in _ (by omega);rw[R,S];refine⟨λv=>?_,λv=>?_⟩
 ·have w:=ucx v;have m:cA f (bz a.toNat (a+d).toNat l):=by
   have:=i (2*c) (by rw[u,<- ueo,uex c 2];exact ufd _)
   rwa [show 2*c*d.toNat=a.toNat by rw[u,<- ueo,uex c 2],show a.toNat+d.toNat=(a+d).toNat by omega]at this
  have o:cA f (bz (a+d).toNat (a+2*d).toNat l):=by
   have e:(2*c+1)*d.toNat=(a+d).toNat:=by rw[uey,show 2*c*d.toNat=a.toNat by rw[u,<- ueo,uex c 2]];omega
   have:=i (2*c+1) (by omega)
   rwa [e,show(a+d).toNat+d.toNat=(a+2*d).toNat by omega]at this
  have s:(bP (aR g) a.toNat (a+2*d).toNat l).length=l.length:=uU (by omega) (by omega);by_cases E:a+2*d+2*d<=9223372036854775807
  ·have W:I6.wrap (a+2*d+2*d)=a+2*d+2*d:=IntWalk.i64_in _ (by omega);rw[W];have D:InvPas n d (a+2*d) (a+2*d+2*d) g (bP (aR g) a.toNat (a+2*d).toNat l):=⟨by rw[s];exact G,H,K,L,by omega,w,rfl,⟨c+1,by rw[uey,<- u];omega⟩,B.sub λx A=>Oz A,f,C.sub λx A=>Oz A,λk P=>by rw[HD (TY (by omega) (by omega) (ufd _)) P];exact i k (by omega)⟩
   refine⟨⟨M,by omega,by omega,by omega,by omega,by simp;omega,B,f,C,m,o⟩,D,by omega,D,?_⟩;have e:jz n d a g l=jz n d (a+2*d) g (bP (aR g) a.toNat (a+2*d).toNat l):=by
    unfold jz
    conv=>lhs;unfold fx
    rw[uf0 (by omega),show a.toNat+2*d.toNat=(a+2*d).toNat by omega];exact JB (by omega) _ _ _ _ (by omega) (by omega)
   rw[e]at t;exact t
  exfalso;omega
 have O:=uch v;have e:jz n d a g l=(a.toNat,l):=by unfold jz fx;rw[uf1 (by omega)]
 rw[e]at t;have F:((a.toNat:Nat):Int)=a:=by omega
 simp only[F]at t;exact t
def XK{T:Ty}{c:Code}(f:af P c (gz e T).M (gz e T) (B5 e T)):af P (.loop c) (gz e T).M (gz e T) (wl e T):=by refine af.loop f (μ:=λx=>(x.1.1-x.1.2.2.2.1).toNat) ?_ (λx Q h=>h.1);rintro⟨⟨n,g,i,a,b,_⟩,⟨l,_⟩⟩ d Q k;exact zb5 n i a b g l d Q k.2
abbrev gu(e:TypeId)(T:Ty):Pt:=⟨63,2,⟨[(1,.d i64),(2,(aZ T)),(6,.d i64)],[.al 10000 0,.o 0 e T]⟩,⟨[],[.al 10000 0,.o 0 e T]⟩,⟨[],[]⟩⟩
def Bw(e:TypeId)(T:Ty)(x:(gu e T).M.X):Fr (gu e T).Out:=
 let n:=x.1.1;let g:=x.1.2.1;let a:=x.1.2.2.1;let l:=x.2.1
 let r:=jz n a 0 (g.1,g.2) l
 Jb (J (a<n))
  (Jd (InvPas n a 0 (I6.wrap (2*a)) (g.1,g.2) l)
   (Jb (J (I6.wrap ((r.1:Int)+a)<n))
    (Jd (SymOk big r.1 (I6.wrap ((r.1:Int)+a)) n (g.1,g.2) r.2)
     (Jv (Rd.next ((n,(g.1,g.2),I6.wrap (a*2),()),((((kN e T) big).f r.2 ((r.1:Int),I6.wrap ((r.1:Int)+a),n,(g.1,g.2),())).1,())))))
    (Jv (Rd.next ((n,(g.1,g.2),I6.wrap (a*2),()),(r.2,()))))))
  (Jv (Rd.out ((),(l,()))))
structure InvAll {T:Ty} (n bs:Int) (g:(aZ T).q) (l:List T.q):Prop where
 nl:n=l.length
 big:n<=4611686018427387903
 wG:0<bs
 dom:lI g l
 key:∃ key:T.q->Int,dY (aR g) key l/\Aa key bs.toNat l
def wg(e:TypeId)(T:Ty)(x:(gu e T).M.X):Fr (gu e T).Out:=
 let n:=x.1.1;let g:=x.1.2.1;let a:=x.1.2.2.1;let l:=x.2.1
 Jd (InvAll n a g l) (Jv (Rd.out ((),(gp (aR g) n.toNat n.toNat a.toNat l,()))))
def zbr {T:Ty} (n bs:Int) (g:(aZ T).q) (l:List T.q) (hinv:InvAll n bs g l) (Q:(gu e T).Out->Prop)
  (hq:Q (Rd.out ((),(gp (aR g) n.toNat n.toNat bs.toNat l,())))):((Bw e T) ((n,g,bs,()),(l,()))).s7 λ
   |.next x'=>InvAll x'.1.1 x'.1.2.2.1 x'.1.2.1 x'.2.1/\(x'.1.1-x'.1.2.2.1).toNat<(n-bs).toNat/\((wg e T) x').s7 Q
   |.out y=>Q (.out y)
   |.back z=>Q (.back z)
   |.pan p=>Q (.pan p):=by
 obtain⟨h0,h1,h2,h3,key,h4,h5⟩:=hinv;dsimp only[Bw,Ty.q,PT.q,kN];refine⟨λhi=>?_,λhi=>?_⟩
 ·have hlt:=ucx hi;have w1:I6.wrap (2*bs)=2*bs:=IntWalk.i64_in _ (by omega);have w2:I6.wrap (bs*2)=bs*2:=IntWalk.i64_in _ (by omega);have hr:=Av (w:=2*bs.toNat) (n:=n.toNat) (by omega) (n.toNat+1) 0 l (by omega) (by omega) (by omega) ⟨0,by simp⟩ h4 (λk hk=>by omega);obtain⟨p1,p2,p3⟩:=Zr (n:=n.toNat) (by omega) (by omega) h4 h5;have hpas:nk (aR g) bs.toNat n.toNat l=if (jz n bs 0 g l).1+bs.toNat<n.toNat then bP (aR g) (jz n bs 0 g l).1 n.toNat (jz n bs 0 g l).2 else (jz n bs 0 g l).2:=rfl
  have hstep:gp (aR g) n.toNat n.toNat bs.toNat l=gp (aR g) n.toNat n.toNat (bs*2).toNat (nk (aR g) bs.toNat n.toNat l):=by
   obtain⟨f,hf⟩:∃ f,n.toNat=f+1:=⟨n.toNat-1,by omega⟩
   conv=>lhs;rw[show gp (aR g) n.toNat n.toNat bs.toNat l=gp (aR g) n.toNat (f+1) bs.toNat l by rw[<- hf]]
   simp only[gp];rw[uf0 (by omega),show(bs*2).toNat=2*bs.toNat by omega];exact O3 _ _ _ _ (by omega) (by omega) (by omega)
  have hI:InvAll n (bs*2) g (nk (aR g) bs.toNat n.toNat l):=⟨by omega,h1,by omega,h3.sub λx hx=>p2.mem.1 hx,key,h4.sub λx hx=>p2.mem.1 hx,by rw[show(bs*2).toNat=2*bs.toNat by omega];exact p1⟩;have hfin:InvAll n (bs*2) g (nk (aR g) bs.toNat n.toNat l)/\(n-bs*2).toNat<(n-bs).toNat/\InvAll n (bs*2) g (nk (aR g) bs.toNat n.toNat l)/\Q (Rd.out ((),(gp (aR g) n.toNat n.toNat (bs*2).toNat (nk (aR g) bs.toNat n.toNat l),()))):=⟨hI,by omega,hI,by rw[<- hstep];exact hq⟩;rw[w1,w2];have hb:(fx (aR g) (2*bs.toNat) n.toNat (n.toNat+1) 0 l)=jz n bs 0 g l:=rfl;rw[hb]at hr;refine⟨⟨h0,h1,h2,hlt,ufe _,by omega,by omega,⟨0,by simp⟩,h3,key,h4,λk _=>h5 k⟩,?_⟩;have e:(g.1,g.2)=g:=rfl;generalize jz n bs 0 g l=r at hr hpas |-;obtain⟨⟨c,hc⟩,q2,q3,q4,q5,q6,q7⟩:=hr;have w3:I6.wrap ((r.1:Int)+bs)=r.1+bs:=IntWalk.i64_in _ (by omega);rw[w3];refine⟨λhj=>?_,λhj=>?_⟩;have hj':=ucx hj;rw[uf0 (by omega)]at hpas;have hd:=q6;have hm1:2*c*bs.toNat=r.1:=by rw[hc,<- ueo,uex c 2]
  have hm2:(2*c+1)*bs.toNat=r.1+bs.toNat:=by rw[uey,hm1]
  have s1:cA key (bz r.1 (r.1+bs.toNat) r.2):=by
   rw[HD hd (ufd _),<- hm1];exact h5 (2*c)
  have s2:cA key (bz (r.1+bs.toNat) n.toNat r.2):=by
   have:bz (r.1+bs.toNat) n.toNat r.2=bz (r.1+bs.toNat) (r.1+bs.toNat+bs.toNat) r.2:=by
    unfold bz;rw[ua3 (by omega),ua3 (by omega)]
   rw[this,HD hd (by omega),<- hm2];exact h5 (2*c+1)
  refine⟨⟨by omega,by omega,by omega,by omega,by omega,by simp;omega,h3.sub λx hx=>q5.mem.1 hx,key,h4.sub λx hx=>q5.mem.1 hx,?_,?_⟩,?_⟩;rw[show((r.1:Int)+bs).toNat=r.1+bs.toNat by omega];exact s1;rw[show((r.1:Int)+bs).toNat=r.1+bs.toNat by omega];exact s2;rw[hpas]at hfin;exact hfin;have hj':=uch hj;rw[uf1 (by omega)]at hpas;rw[hpas]at hfin;exact hfin
 have hge:=uch hi;have:gp (aR g) n.toNat n.toNat bs.toNat l=l:=by
  rw[O3 _ 0 _ _ (by omega) (by omega) (by omega)];rfl
 rw[this]at hq;exact hq
def XG{T:Ty}{c:Code}(b:af P c (gu e T).M (gu e T) (Bw e T)):af P (.loop c) (gu e T).M (gu e T) (wg e T):=by refine af.loop b (μ:=λx=>(x.1.1-x.1.2.2.1).toNat) ?_ (λx Q h=>h.1);rintro⟨⟨n,g,d,_⟩,⟨l,_⟩⟩ a Q f;exact zbr n d g l a Q f.2
def qc(e:TypeId)(T:Ty):Mt:=⟨e,T,[.d i64,(aZ T)],[],λl x=>(dp (aR x.2.1) l,()),λl x=>[x.1=l.length,(l.length:Int)<=4611686018427387903,jD x.2.1 l]⟩
def BD(e:TypeId)(T:Ty)(l:List T.q)(x:ap [.d i64,(aZ T)]):Fr (List T.q×aa []):=
 let n:=x.1;let g:=x.2.1
 let r:=mI n 0 (g.1,g.2) l
 Jd (InvBlk n 20 0 20 (g.1,g.2) l)
 (Jd ((0:Int)<=r.1)
  (Jd ((r.1:Int)<=n)
   (Jd (n<=(r.2.length:Int))
    (Jd ((r.2.length:Int)<=4611686018427387903)
     (Jd (jD (g.1,g.2) r.2)
      (Jd (InvAll n 20 (g.1,g.2) ((ng e T).f r.2 ((r.1:Int),n,(g.1,g.2),())).1)
       (Jv (gp (aR (g.1,g.2)) n.toNat n.toNat (20:Int).toNat ((ng e T).f r.2 ((r.1:Int),n,(g.1,g.2),())).1,()))))))))
def qbr{T:Ty}(l:List T.q)(c:ap (qc e T).ps)(v:l.length<=maxLen)(s:az ((qc e T).ok l c)):az [((BD e T) l c).ok]/\((BD e T) l c).get=(qc e T).f l c:=by obtain⟨n,g,rfl⟩:∃ (n:Int) (g:(aZ T).q),c=(n,g,()):=⟨c.1,c.2.1,rfl⟩;have i:(n:Int)=(List.length (α:=T.q) l:Int)/\(List.length (α:=T.q) l:Int)<=4611686018427387903/\jD g l:=s;obtain⟨z,u,p,b,d⟩:=i;subst z;have m:=Av (key:=b) (lt:=aR g) (w:=20) (n:=List.length (α:=T.q) l) (by omega) (List.length (α:=T.q) l+1) 0 l (by omega) (by omega) rfl ⟨0,by simp⟩ d (λk E=>by omega);have o:=zoo d;unfold P0 at o;have A:mI (List.length (α:=T.q) l:Int) 0 g l=fx (aR g) 20 (List.length (α:=T.q) l) (List.length (α:=T.q) l+1) 0 l:=rfl;dsimp only[BD,Fr.ok,Fr.get,Ty.q,PT.q,ng,qc];have e:(g.1,g.2)=g:=rfl;simp only[e,A];simp only at o;generalize fx (aR g) 20 (List.length (α:=T.q) l) (List.length (α:=T.q) l+1) 0 l=r at m o |-;obtain⟨B,C,D⟩:=m.last d;have F:=m.le;have G:=m.len;have y:∀ x∈r.2,x∈l:=λx t=>m.same.mem.1 t;have h:∀ x∈bP (aR g) r.1 (List.length (α:=T.q) l) r.2,x∈l:=λx t=>C.mem.1 t;refine⟨⟨⟨rfl,u,rfl,by omega,by omega,rfl,p,b,d⟩,by omega,by omega,by omega,by omega,⟨p.sub y,b,d.sub y⟩,⟨ufy (λn:Nat=>(n:Int)) D.symm,u,by omega,p.sub h,b,d.sub h,B⟩,uT⟩,?_⟩;show(gp (aR g) (List.length (α:=T.q) l) (List.length (α:=T.q) l) 20 (bP (aR g) r.1 (List.length (α:=T.q) l) r.2),())=(dp (aR g) l,());rw[o]
def rO(e:TypeId)(T:Ty):Mt:=⟨e,T,[(aZ T)],[],λl x=>(dp (aR x.1) l,()),λl x=>[(l.length:Int)<=4611686018427387903,jD x.1 l]⟩
def FZ(e:TypeId)(T:Ty)(l:List T.q)(x:ap [(aZ T)]):Fr (List T.q×aa []):=
 let b:=(x.1.1,x.1.2);let a:=(l.length:Int);Jd (a=l.length) (Jd (a<=4611686018427387903) (Jd (jD b l) (Jv (((qc e T).f l (a,b,())).1,()))))
def qbk{T:Ty}(l:List T.q)(a:ap (rO e T).ps)(c:l.length<=maxLen)(b:az ((rO e T).ok l a)):az [((FZ e T) l a).ok]/\((FZ e T) l a).get=(rO e T).f l a:=by obtain⟨g,rfl⟩:∃ g:(aZ T).q,a=(g,()):=⟨a.1,rfl⟩;exact⟨⟨rfl,b.1,b.2,uT⟩,rfl⟩
abbrev qox:PT:=aZ i64
abbrev NH:Mt:=rO 3 i64
def Ns:Code:=((Go.Ab.loopB (au f222 0) 0).getD .skip)
def zm5:af prog Ns (gw 3 i64).M (gw 3 i64) (B0 3 i64):=
 ep aL
def zc8:af prog (.loop Ns) (gw 3 i64).M (gw 3 i64) (wj 3 i64):=XI zm5
def qef:Nat->St->Option Tr:=λ_=>(gw 3 i64).han eN.Γ (gw 3 i64).M (wj 3 i64)
def zbg{E:Env}:co prog E qef (au f222 0) 0:=
 nc (b:=Ns) (by kernel_rfl) (by kernel_rfl) (af.han aL rfl zc8)
def zm7:af prog (au f222 0) (gy 3 i64).M (gy 3 i64) (B3 3 i64):=
 af.of_run aL (bs:=0) (Λ:=qef) rfl rfl rfl (λE=>zbg) (λx=>by kernel_rfl)
def zda:af prog (.loop (au f222 0)) (gy 3 i64).M (gy 3 i64) (wk 3 i64):=XJ zm7
def zsf:Nat->St->Option Tr:=λ_=>(gy 3 i64).han eN.Γ (gy 3 i64).M (wk 3 i64)
def zaj:SoundMt prog 222 (ng 3 i64):=
 jK (jU aL (Λ:=zsf) (fn:=f222) (fr:=(B4 3 i64)) (e:=3) (T:=i64) (ps:=[.d i64,.d i64,(aZ i64)]) (rs:=[]) (0,0,(λ_=>(0,()),λ_=>True),()) (by kernel_rfl) rfl rfl
  (λc E g=>fH g (by kernel_rfl) (b:=au f222 0) (by kernel_rfl) (af.han aL rfl zda)) (λl x=>by kernel_rfl)) _ _ λ_ _ l h _ _ a _ f=>WV l h a f
def znr:af prog (au f244 0) (gF 3 i64).M (gF 3 i64) (BE 3 i64):=
 ep aL
def zdw:af prog (.loop (au f244 0)) (gF 3 i64).M (gF 3 i64) (wu 3 i64):=XR znr
def zsm:Nat->St->Option Tr:=λ_=>(gF 3 i64).han eN.Γ (gF 3 i64).M (wu 3 i64)
def zpm:SoundMt prog 244 (mh 3 i64):=
 jK (jU aL (Λ:=zsm) (fn:=f244) (fr:=(Ga 3 i64)) (e:=3) (T:=i64) (ps:=[.d i64,.d i64,.d i64,(aZ i64)]) (rs:=[]) (0,0,0,(λ_=>(0,()),λ_=>True),()) (by kernel_rfl) rfl rfl
  (λc E g=>fH g (by kernel_rfl) (b:=au f244 0) (by kernel_rfl) (af.han aL rfl zdw)) (λl x=>by kernel_rfl)) _ _ λ_ _ l h _ _ a _ f=>qcb l h a f
def Qv:Cx:=dI [] [] (i6 (cx [] []).Γ 244 (mh 3 i64))
def IK:CxOK prog Qv:=dP aH trivial trivial (jg aL.ct zpm)
def zne:af prog (au f236 0) (g7 3 i64).M (g7 3 i64) (B6 3 i64):=
 ep IK
def zdj:af prog (.loop (au f236 0)) (g7 3 i64).M (g7 3 i64) (wm 3 i64):=XL zne
def zsi:Nat->St->Option Tr:=λ_=>(g7 3 i64).han Qv.Γ (g7 3 i64).M (wm 3 i64)
def zls:SoundMt prog 236 (rN 3 i64):=
 jK (jU IK (Λ:=zsi) (fn:=f236) (fr:=(B7 3 i64)) (e:=3) (T:=i64) (ps:=[.d i64,.d i64,.d i64,(aZ i64)]) (rs:=[]) (0,0,0,(λ_=>(0,()),λ_=>True),()) (by kernel_rfl) rfl rfl
  (λc E g=>fH g (by kernel_rfl) (b:=au f236 0) (by kernel_rfl) (af.han IK rfl zdj)) (λl x=>by kernel_rfl)) _ _ λ_ _ l h _ _ a _ f=>qae l h a f
def zng:af prog (au f223 0) (g8 3 i64).M (g8 3 i64) (B8 3 i64):=
 ep aL
def zdl:af prog (.loop (au f223 0)) (g8 3 i64).M (g8 3 i64) (wn 3 i64):=XM zng
def znk:af prog (au f223 2) (gC 3 i64).M (gC 3 i64) (BA 3 i64):=
 ep aL
def zdp:af prog (.loop (au f223 2)) (gC 3 i64).M (gC 3 i64) (wq 3 i64):=XO znk
def zno:af prog (au f223 4) (gE 3 i64).M (gE 3 i64) (BC 3 i64):=
 ep aL
def zdt:af prog (.loop (au f223 4)) (gE 3 i64).M (gE 3 i64) (wt 3 i64):=XQ zno
def zni:af prog (au f223 1) (g9 3 i64).M (g9 3 i64) (B9 3 i64):=
 ep aL
def zdn:af prog (.loop (au f223 1)) (g9 3 i64).M (g9 3 i64) (wo 3 i64):=XN zni
def znm:af prog (au f223 3) (gD 3 i64).M (gD 3 i64) (BB 3 i64):=
 ep aL
def zdr:af prog (.loop (au f223 3)) (gD 3 i64).M (gD 3 i64) (ws 3 i64):=XP znm
def Qy(n:Nat):Cx:=dI [] [] (kR (i6 (cx [] []).Γ 236 (rN 3 i64)) (i6 (cx [] []).Γ 223 ((kN 3 i64) n)))
def qe9(h:SoundMt prog 223 ((kN 3 i64) n)):CxOK prog (Qy n):=dP aH trivial trivial (mj (jg aL.ct zls) (jg aL.ct h))
def Qk:Nat->St->Option Tr
 |0=>(g8 3 i64).han eN.Γ (g8 3 i64).M (wn 3 i64)
 |1=>(g9 3 i64).han eN.Γ (g9 3 i64).M (wo 3 i64)
 |2=>(gC 3 i64).han eN.Γ (gC 3 i64).M (wq 3 i64)
 |3=>(gD 3 i64).han eN.Γ (gD 3 i64).M (ws 3 i64)
 |_=>(gE 3 i64).han eN.Γ (gE 3 i64).M (wt 3 i64)
def zbk{E:Env}{c:Code}(n:f223.body=U c):co prog E Qk c 0:=by
 have f:(f223.body.map cD)=U 5:=by kernel_rfl
 have g:f223.body.bind (Go.Ab.loopB · 0)=U (au f223 0):=by kernel_rfl
 have h:f223.body.bind (Go.Ab.loopB · 1)=U (au f223 1):=by kernel_rfl
 have k:f223.body.bind (Go.Ab.loopB · 2)=U (au f223 2):=by kernel_rfl
 have l:f223.body.bind (Go.Ab.loopB · 3)=U (au f223 3):=by kernel_rfl
 have m:f223.body.bind (Go.Ab.loopB · 4)=U (au f223 4):=by kernel_rfl
 have d:∀ i,i<5->f223.body.bind (Go.Ab.loopB · i)=U (au f223 i):=λi o=>match i,o with
  |0,_=>g
  |1,_=>h
  |2,_=>k
  |3,_=>l
  |4,_=>m
 rw[n]at f d;simp only[Option.map_some,ucl]at f;simp only[udb]at d;refine mf c 0 λi p a=>?_;have b:=loopB_lt a;rw[f]at b;have e:=d i b;rw[e]at a;cases a
 match i,b with
 |0,_=>exact af.han aL rfl zdl
 |1,_=>exact af.han aL rfl zdn
 |2,_=>exact af.han aL rfl zdp
 |3,_=>exact af.han aL rfl zdr
 |4,_=>exact af.han aL rfl zdt
def zl4(n:Nat)(l:List (i64).q)(x:ap [.d i64,.d i64,.d i64,(aZ i64)]):CT prog (Qy n) Qk f223 3 i64 [.d i64,.d i64,.d i64,(aZ i64)] [] l x=U ((ue 3 i64) n l x):=by kernel_rfl
def qcg:(n:Nat)->SoundMt prog 223 ((kN 3 i64) n)
 |0=>by
  have hf:prog.funcs[223]?= some f223:=by kernel_rfl
  obtain⟨c,hb⟩:∃ c,f223.body=some c:=⟨_,rfl⟩;refine⟨by decide,rfl,rfl,enters hf hb (by kernel_rfl),λw F l xs v vs rows _ _ _ _ _ _ _ hok=>?_⟩;have h:SymOk 0 xs.1 xs.2.1 xs.2.2.1 xs.2.2.2.1 l:=hok;have h1:=h.am;have h2:=h.mb;have h3:=h.size;omega
 |n+1=>by
  refine jK (jU (qe9 (qcg n)) (Λ:=Qk) (fn:=f223) (fr:=(ue 3 i64) n) (e:=3) (T:=i64) (ps:=[.d i64,.d i64,.d i64,(aZ i64)]) (rs:=[]) (0,0,0,(λ_=>(0,()),λ_=>True),()) (by kernel_rfl) rfl rfl
   (λc E hc=>zbk hc) (zl4 n)) _ _ λw F l xs vs _ _ _ hok=>?_
  obtain⟨a,m,b,g,rfl⟩:∃ (a m b:Int) (g:(aZ i64).q),xs=(a,m,b,g,()):=⟨xs.1,xs.2.1,xs.2.2.1,xs.2.2.2.1,rfl⟩;have h:SymOk (n+1) a m b g l:=hok;have h0:=h.a0;have h1:=h.am;have h2:=h.mb;obtain⟨a',rfl⟩:∃ n:Nat,a=n:=⟨a.toNat,by omega⟩;obtain⟨m',rfl⟩:∃ n:Nat,m=n:=⟨m.toNat,by omega⟩;obtain⟨b',rfl⟩:∃ n:Nat,b=n:=⟨b.toNat,by omega⟩;exact qci n a' m' b' g l h
def DJ:Cx:=dI [] [] (kR (i6 (cx [] []).Γ 222 (ng 3 i64)) (i6 (cx [] []).Γ 223 ((kN 3 i64) big)))
def sW:CxOK prog DJ:=dP aH trivial trivial (mj (jg aL.ct zaj) (jg aL.ct (qcg big)))
def zm0:af prog (au f201 0) (gv 3 i64).M (gv 3 i64) (By 3 i64):=
 ep sW
def zc1:af prog (.loop (au f201 0)) (gv 3 i64).M (gv 3 i64) (wh 3 i64):=XH zm0
def O1:Code:=((Go.Ab.loopB (au f201 1) 0).getD .skip)
def znc:af prog O1 (gz 3 i64).M (gz 3 i64) (B5 3 i64):=
 ep sW
def zdf:af prog (.loop O1) (gz 3 i64).M (gz 3 i64) (wl 3 i64):=XK znc
def qeh:Nat->St->Option Tr:=λ_=>(gz 3 i64).han DJ.Γ (gz 3 i64).M (wl 3 i64)
def zbi{E:Env}:co prog E qeh (au f201 1) 0:=
 nc (b:=O1) (by kernel_rfl) (by kernel_rfl) (af.han sW rfl zdf)
def zmy:af prog (au f201 1) (gu 3 i64).M (gu 3 i64) (Bw 3 i64):=
 af.of_run sW (bs:=0) (Λ:=qeh) rfl rfl rfl (λE=>zbi) (λx=>by kernel_rfl)
def zcz:af prog (.loop (au f201 1)) (gu 3 i64).M (gu 3 i64) (wg 3 i64):=XG zmy
def zsk:Nat->St->Option Tr
 |0=>(gv 3 i64).han DJ.Γ (gv 3 i64).M (wh 3 i64)
 |_=>(gu 3 i64).han DJ.Γ (gu 3 i64).M (wg 3 i64)
def zon:SoundMt prog 201 (qc 3 i64):=
 jK (jU sW (Λ:=zsk) (fn:=f201) (fr:=(BD 3 i64)) (e:=3) (T:=i64) (ps:=[.d i64,(aZ i64)]) (rs:=[]) (0,(λ_=>(0,()),λ_=>True),()) (by kernel_rfl) rfl rfl
  (λc E f=>GA f (by kernel_rfl) (b0:=au f201 0) (b1:=au f201 1) (by kernel_rfl) (by kernel_rfl) (af.han sW rfl zc1) (af.han sW rfl zcz)) (λl x=>by kernel_rfl)) _ _ λ_ _ l g _ _ a _ b=>qbr l g a b
def CI4:Cx:=dI [] [] (i6 (cx [] []).Γ 201 (qc 3 i64))
def qfd:CxOK prog CI4:=dP aH trivial trivial (jg aL.ct zon)
def zoa:SoundMt prog 155 (rO 3 i64):=
 jK (jU qfd (Λ:=bK) (fn:=f155) (fr:=(FZ 3 i64)) (e:=3) (T:=i64) (ps:=[(aZ i64)]) (rs:=[]) ((λ_=>(0,()),λ_=>True),()) (by kernel_rfl) rfl rfl
  (λc E _=>bm c 0) (λl x=>by kernel_rfl)) _ _ λ_ _ l d _ _ a _ b=>qbk l d a b
def CH2:Cx:=cx [(213,A6),(202,la)] []
def Qr:CxOK prog CH2:=aQ aH ⟨X8,NW,uT⟩ trivial
def gJ:List Int->Bool
 |a::b::r=>J (a<=b)&&gJ (b::r)
 |_=>Z
def qbo:(l:List Int)->(a b:Int)->gJ (l++[a,b])=(gJ (l++[a])&&J (a<=b))
 |[],a,b=>by simp[gJ]
 |[x],a,b=>by simp[gJ]
 |x::y::l,a,b=>by have:=qbo (y::l) a b;simp only[uc5,gJ]at this |-;rw[this,ued]
abbrev oK:Pt:=⟨21,0,⟨[(0,.d aP),(3,.d i64)],[]⟩,⟨[],[]⟩,⟨[(2,.d .bool)],[]⟩⟩
def MK(x:oK.M.X):Fr oK.Out:=
 let a:=x.1.2.1;Jb (J (a>0))
  (Jd (0<=a/\a<x.1.1.length)
   (Jd (0<=I6.wrap (a-1)/\I6.wrap (a-1)<x.1.1.length)
    (Jb (A6.f (x.1.1.getD a.toNat i64.j,x.1.1.getD (I6.wrap (a-1)).toNat i64.j,())).1
     (Jv (Rd.back ((Y,()),())))
     (Jv (Rd.next ((x.1.1,I6.wrap (a-1),()),()))))))
  (Jv (Rd.out ((),())))
def znq:af prog (au f188 0) oK.M oK MK:=
 ep Qr
def wy(l:List Int)(i:Int):Prop:=-1<=i/\i<l.length/\(l.length:Int)<=9223372036854775807
def Rl(x:oK.M.X):Fr oK.Out:=
 Jd (wy x.1.1 x.1.2.1) (Jb (gJ (x.1.1.take (x.1.2.1+1).toNat)) (Jv (Rd.out ((),()))) (Jv (Rd.back ((Y,()),()))))
def zoj(l:List Int)(k:Nat)(h:k+1<l.length):gJ (l.take (k+2))=(gJ (l.take (k+1))&&J (l[k]<=l[k+1])):=by
 have a:=(uat (show k<l.length by omega)).symm;have b:l.take (k+2)=l.take k++[l[k],l[k+1]]:=by have c:=(uat h).symm;rw[c,a,ucr];rfl
 rw[b,a,qbo]
def zce (l:List Int) (i:Int) (c:wy l i) (Q:oK.Out->Prop)
  (b:(Jb (gJ (l.take (i+1).toNat)) (Jv (Rd.out ((),()))) (Jv (Rd.back ((Y,()),()))):Fr oK.Out).s7 Q) :
  (MK ((l,i,()),())).s7 λ
   |.next d=>wy d.1.1 d.1.2.1/\d.1.2.1.toNat<i.toNat/\(Rl d).s7 Q
   |.out y=>Q (.out y)
   |.back z=>Q (.back z)
   |.pan p=>Q (.pan p):=by
 obtain⟨x,t,u⟩:=c;refine⟨λf=>?_,λf=>?_⟩;have g:i>0:=ucx f;obtain⟨k,v⟩:∃ k:Nat,i=k+1:=⟨(i-1).toNat,by omega⟩;subst v;have w:I6.wrap ((k:Int)+1-1)=k:=by rw[show(k:Int)+1-1=k by omega];exact IntWalk.i64_in _ (by omega)
 have n:k+1<l.length:=by omega
 have r:l.getD ((k:Int)+1).toNat i64.j=l[k+1]:=by rw[show((k:Int)+1).toNat=k+1 by omega,uah,uaq n];rfl
 have s:l.getD (k:Int).toNat i64.j=l[k]:=by rw[show(k:Int).toNat=k by omega,uah,uaq (show k<l.length by omega)];rfl
 have o:((k:Int)+1+1).toNat=k+2:=by omega
 rw[o,zoj l k n]at b;dsimp only[MK,Fr.s7];rw[w,r,s];have m:wy l k:=⟨by omega,by omega,u⟩;refine⟨⟨(show(0:Int)<=(k:Int)+1 by omega),t⟩,⟨(show(0:Int)<=(k:Int) by omega),(show(k:Int)<(l.length:Int) by omega)⟩,λe=>?_,λe=>?_⟩;have a:¬ l[k]<=l[k+1]:=by have:=ucx e;exact ufo.2 this
 rw[udw a,uee]at b;exact b.2 rfl;have a:l[k]<=l[k+1]:=by have:=uch e;exact ufp.1 this
 rw[ueb a,uen]at b;exact⟨m,by omega,m,by rw[show((k:Int)+1).toNat=k+1 by omega];exact b⟩;have g:¬ i>0:=uch f;have:gJ (l.take (i+1).toNat)=true:=by
  rcases uer (i+1).toNat 1 with h|h
  rw[show(i+1).toNat=0 by omega];rfl;rw[show(i+1).toNat=1 by omega];cases l<;>rfl
 rw[this]at b;exact b.1 rfl
def zdv:af prog (.loop (au f188 0)) oK.M oK Rl:=by refine af.loop znq (μ:=λx=>x.1.2.1.toNat) ?_ (λx Q h=>h.1);rintro⟨⟨l,i,_⟩,_⟩ a Q b;exact zce l i a Q b.2
def Kr:Ct:=⟨[.d aP],[.bool],λx=>(gJ x.1,()),λ_=>[]⟩
def qxy(x:ap [.d aP]):Fr (aa [.bool]):=
 Jd (wy x.1 (I6.wrap (x.1.length-1))) (Jb (gJ (x.1.take (I6.wrap (x.1.length-1)+1).toNat)) (Jv (Z,())) (Jv (Y,())))
def zoc:ag prog 188 Kr:=
 conv (cZ Qr zdv (fr:=qxy)) _ _ λw F h i c _=>by obtain⟨l,_⟩:=h;obtain⟨v,g,rfl,e,_⟩:=c;have b:=aG.wf e.2.2;have a:=b.1;have f:I6.wrap ((l.length:Int)-1)=l.length-1:=IntWalk.i64_in _ (by simp only[maxLen]at a;omega);have d:l.take ((l.length:Int)-1+1).toNat=l:=ua3 (by omega);refine⟨⟨?_,λ_=>uT,λ_=>uT⟩,?_⟩;show wy l (I6.wrap ((l.length:Int)-1));simp only[maxLen]at a;exact⟨by omega,by omega,by omega⟩;show(if gJ (l.take (I6.wrap ((l.length:Int)-1)+1).toNat)=Z then (Z,())else (Y,()))=(gJ l,());rw[f,d];cases gJ l<;>rfl
def CH3:Cx:=cx [(188,Kr),(202,la)] []
def Qs:CxOK prog CH3:=aQ aH ⟨zoc,NW,uT⟩ trivial
def Vx(x:ap [.d ar]):Fr (aa [.bool]):=
 let b:=(Y,());let a:=x.1.2;Jb (bif J (x.1.1>=0)then J (x.1.1<8)else Y) (Jb (bif J (a.2.2.2.1>=1)then J (a.2.2.2.1<=10000)else Y) (Jb (Kr.f ([0,a.2.2.1,I6.wrap (a.1-1),I6.wrap (a.2.1-1),999999999999999],())).1 (Jv (J (a.2.2.1<a.1),())) (Jv b)) (Jv b)) (Jv b)
def qxj:ag prog 136 (bg [.d ar] [.bool] Vx):=
 aT Qs f136
def Vw(x:ap [.d i64,.d i64]):Fr (aa [i64]):=
 let a:=la.f (x.2.1,());Jb (la.f (x.1,())).1 (Jb a.1 (Jv (0,())) (Jv (-1,()))) (Jb a.1 (Jv (1,())) (Jb (J (x.1<x.2.1)) (Jv (-1,())) (Jb (J (x.1>x.2.1)) (Jv (1,())) (Jv (0,())))))
def qxi:ag prog 157 (bg [.d i64,.d i64] [i64] Vw):=
 aT Qs f157
def Vz(x:ap [.d cK,.d i64]):Fr (aa [.bool]):=
 Jv (bif J (x.2.1>=(wM.f ((x.1.1,x.1.2.1,()),())).1.1)then J (x.2.1<(wM.f ((x.1.1,x.1.2.1,()),())).1.2.1)else Y,())
def qxp:ag prog 140 (bg [.d cK,.d i64] [.bool] Vz):=
 aT Qq f140
def V1(x:ap [.d cK]):Fr (aa [i64]):=
 Jv (I6.wrap ((wM.f ((x.1.1,x.1.2.1,()),())).1.2.1-(wM.f ((x.1.1,x.1.2.1,()),())).1.1),())
def qxs:ag prog 102 (bg [.d cK] [i64] V1):=
 aT Qq f102
def W6{n:Int}(h:Wf i64 n): -9223372036854775808<=n/\n<=9223372036854775807:=h
def qd4{n:Int}(h : -9223372036854775808<=n/\n<=9223372036854775807):(n=-9223372036854775808/\I6.wrap (n-1)=9223372036854775807)\/(-9223372036854775808<n/\I6.wrap (n-1)=n-1):=by by_cases a:n=-9223372036854775808;left;subst a;exact⟨rfl,by kernel_rfl⟩;right;exact⟨by omega,cV (by omega)⟩
def qpp(p l g d s:Int)(o : -9223372036854775808<=l/\l<=9223372036854775807)(n : -9223372036854775808<=g/\g<=9223372036854775807):
  (gJ [0,d,I6.wrap (l-1),I6.wrap (g-1),999999999999999]&&J (d<l))=J (0<=d/\d<l/\l<=g/\g<=1000000000000000):=by
 rw[udy];simp only[gJ,udd,ucu];rcases qd4 o with ⟨k,c⟩|⟨k,c⟩<;>rcases qd4 n with ⟨m,e⟩|⟨m,e⟩<;>rw[c,e]
 omega;omega;omega;constructor;rintro⟨⟨a,b,f,h,_⟩,i⟩;exact⟨a,i,by omega,by omega⟩;rintro⟨a,b,f,h⟩;exact⟨⟨a,by omega,by omega,by omega,uT⟩,b⟩
def AX:ag prog 136 kZ:=
 conv qxj _ _ (λw F x z t _=>by
  obtain⟨⟨p,l,g,d,s,_⟩,_⟩:=x;obtain⟨v,y,rfl,u,_⟩:=t;have e:=aG.wf u.2.2;refine⟨by simp[az,Fr.ok,Vx],?_⟩;have r:=qpp p l g d s (W6 e.2.1) (W6 e.2.2.1);show(if (bif J (p>=0)then J (p<8)else Y)=Z then (if (bif J (s>=1)then J (s<=10000)else Y)=Z then (if gJ [0,d,I6.wrap (l-1),I6.wrap (g-1),999999999999999]=Z then (J (d<l),())else (Y,()))else (Y,()))else (Y,()))=(lU p l g d s,());have n:(if gJ [0,d,I6.wrap (l-1),I6.wrap (g-1),999999999999999]=Z then ((J (d<l),()):Bool×Unit)else (Y,()))=(J (0<=d/\d<l/\l<=g/\g<=1000000000000000),()):=by rw[<- r];cases gJ [0,d,I6.wrap (l-1),I6.wrap (g-1),999999999999999]<;>rfl
  rw[n];have o:∀ (a b c:Bool),(if a=Z then (if b=Z then ((c,()):Bool×Unit)else (Y,()))else (Y,()))=(a&&(b&&c),()):=λa b c=>by cases a<;>cases b<;>rfl
  rw[o];congr 1;rw[udy];simp only[lU,ubb,udd,ucu];exact⟨λ⟨⟨f,h⟩,⟨i,k⟩,m⟩=>⟨f,h,i,k,m⟩,λ⟨f,h,i,k,m⟩=>⟨⟨f,h⟩,⟨i,k⟩,m⟩⟩)
def nT(a b:Int):Int:=if a<b then -1 else if b<a then 1 else 0
def pq:Ct:=⟨[.d i64,.d i64],[i64],λx=>(nT x.1 x.2.1,()),λ_=>[]⟩
def Fe:ag prog 157 pq:=
 conv qxi _ _ (λ_ _ x _ _ _=>by obtain⟨a,b,_⟩:=x;refine⟨by simp[az,Fr.ok,Vw],?_⟩;show(if J (a<b)=Z then ((-1:Int),())else if J (a>b)=Z then (1,())else (0,()))=(if a<b then -1 else if b<a then 1 else 0,());by_cases c:a<b;rw[uf0 (ueb c),uf0 c];rw[uf1 (by simp[c]),uf1 c];by_cases d:b<a;rw[uf0 (ueb d),uf0 d];rw[uf1 (by simpa using d),uf1 d])
def qzu(a b d:Int):(bif J (d>=(uA (a,b,())).1)then J (d<(uA (a,b,())).2.1)else Y)=eH a b d:=by unfold uA;by_cases h:fp (a,b,())=Z;rw[uf0 h];obtain⟨k,p,l⟩:=oe.1 h;simp only[ubb,eH];rw[udy];simp only[udd,ucu,Ty.q,PT.q];constructor;rintro⟨c,e⟩;exact⟨k,l,c,e⟩;rintro⟨_,_,c,e⟩;exact⟨c,e⟩;rw[uf1 h];have i:¬ (1<=a/\a<b/\b<=292195):=λm=>h (oe.2 m);simp only[ubb,eH];rw[udy];simp only[udd,ucu];constructor;rintro⟨c,e⟩;have f:(0:Int)<=d:=c;have g:d<(0:Int):=e;omega;rintro⟨c,e,n,o⟩;exact absurd ⟨c,by omega,e⟩ i
def rC:ag prog 140 iD:=
 conv qxp _ _ (λ_ _ x _ _ _=>by obtain⟨⟨a,b,_⟩,d,_⟩:=x;refine⟨by simp[az,Fr.ok,Vz],?_⟩;exact ufy (·,()) (qzu a b d))
def uI(a b:Int):Int:=if fp (a,b,())=Z then b-a else 0
def qV:Ct:=⟨[.d cK],[i64],λx=>(uI x.1.1 x.1.2.1,()),λ_=>[]⟩
def XW:ag prog 102 qV:=
 conv qxs _ _ (λ_ _ x _ _ _=>by obtain⟨⟨a,b,_⟩,_⟩:=x;refine⟨by simp[az,Fr.ok,V1],?_⟩;show(I6.wrap ((uA (a,b,())).2.1-(uA (a,b,())).1),())=(uI a b,());unfold uA uI;by_cases h:fp (a,b,())=Z;rw[uf0 h,uf0 h];obtain⟨d,e,f⟩:=oe.1 h;have c:I6.wrap (b-a)=b-a:=cV (by omega);exact ufy (·,()) c;rw[uf1 h,uf1 h];rfl)
abbrev dN:Ty:=.pair i64 (.pair i64 .unit)
def CH4:Cx:=cx [(136,kZ)] []
def wa:CxOK prog CH4:=aQ aH ⟨AX,uT⟩ trivial
abbrev oA:Pt:=⟨26,0,⟨[(14,.d i64),(13,.d i64),(12,.d (.sl ar)),(1,.d (.sl ar))],[]⟩,⟨[],[]⟩,⟨[(4,.d .bool)],[]⟩⟩
abbrev vG:Type:=ap [.d (.sl ar)]×dj []
def Dh(e:(ar.q×ar.q))(s:vG):Fr (vG ⊕ oA.R.X):=
 Jb (!(e.1.1==e.2.1&&(e.1.2.1==e.2.2.1&&(e.1.2.2.1==e.2.2.2.1&&(e.1.2.2.2.1==e.2.2.2.2.1&&(e.1.2.2.2.2.1==e.2.2.2.2.2.1&&Z)))))) (Jv (.inr ((Y,()),()))) (Jv (.inl ((s.1.1,()),())))
def s8(x:oA.M.X):Int×List (ar.q×ar.q)×vG:=(x.1.1,x.1.2.2.1.zip x.1.2.2.2.1,x.1.2.2.2,x.2)
def VV(x:oA.M.X):Prop:=x.1.2.1=(x.1.2.2.1.length:Int)/\x.1.2.2.1.length=x.1.2.2.2.1.length
def zif(s:vG):oA.E.X:=((),())
def qp4:vG:=(aY _,cf _)
def KX:oA.R.X:=(aY _,cf _)
def zd2:af prog (.loop (au f192 0)) oA.M oA (FL Dh s8 VV zif Rd.back qp4 KX):=
 zsb wa (λ_ _=>.n (.z .o)) ar.j ar.j (λx=>x.1.2.2.1) (λx=>x.1.2.2.2.1) (λx=>x.1.2.1) (λx s=>((I6.wrap (x.1.1+1),x.1.2.1,x.1.2.2.1,s.1),s.2)) (λ_ h=>h)
def H1(y:oA.M.X):vG ⊕ oA.R.X:=eC Dh ((s8 y).2.1.drop (s8 y).1.toNat) (s8 y).2.2
def zhp(y:oA.M.X):Prop:=l6 Dh ((s8 y).2.1.drop (s8 y).1.toNat) (s8 y).2.2
abbrev l7:Pt:=⟨32,0,⟨[(8,.d i64),(7,.d i64),(6,.d (.sl ar)),(0,.d (.sl ar)),(3,.d i64)],[]⟩,⟨[(0,.d (.sl ar))],[]⟩,⟨[(2,.d .bool)],[]⟩⟩
abbrev i8:Type:=ap [.d (.sl ar),.d i64]×dj []
def Dy(e:ar.q)(s:i8):Fr (i8 ⊕ l7.R.X):=
 Jb (bif J (e.1<=s.1.2.1)then Z else !(kZ.f ((e.1,e.2.1,e.2.2.1,e.2.2.2.1,e.2.2.2.2.1,()),())).1) (Jv (.inr ((Y,()),()))) (Jv (.inl ((s.1.1,e.1,()),())))
def sL(x:l7.M.X):Int×List ar.q×i8:=(x.1.1,x.1.2.2.1,x.1.2.2.2,x.2)
def Wk(x:l7.M.X):Prop:=x.1.2.1=(x.1.2.2.1.length:Int)
def uP(s:i8):l7.E.X:=((s.1.1,()),())
def tN:i8:=(aY _,cf _)
def Ld:l7.R.X:=(aY _,cf _)
def zft:af prog (.loop (au f106 0)) l7.M l7 (FL Dy sL Wk uP Rd.back tN Ld):=
 sQ wa (λ_ _=>.n .o) ar.j (λx=>x.1.2.1) (λx s=>((I6.wrap (x.1.1+1),x.1.2.1,x.1.2.2.1,s.1),s.2)) (λ_ h=>h)
def zp(y:l7.M.X):i8 ⊕ l7.R.X:=eC Dy ((sL y).2.1.drop (sL y).1.toNat) (sL y).2.2
def zhz(y:l7.M.X):Prop:=l6 Dy ((sL y).2.1.drop (sL y).1.toNat) (sL y).2.2
abbrev mr:Pt:=⟨37,0,⟨[(8,.d i64),(7,.d i64),(6,.d (.sl dN)),(0,.d (.sl dN)),(3,.d i64)],[]⟩,⟨[(0,.d (.sl dN))],[]⟩,⟨[(2,.d .bool)],[]⟩⟩
abbrev j6:Type:=ap [.d (.sl dN),.d i64]×dj []
def Dt(e:dN.q)(s:j6):Fr (j6 ⊕ mr.R.X):=
 Jb (bif bif bif J (e.1<=s.1.2.1)then Z else J (e.1>200)then Z else J (e.2.1<0)then Z else J (e.2.1>100000)) (Jv (.inr ((Y,()),()))) (Jv (.inl ((s.1.1,e.1,()),())))
def sH(x:mr.M.X):Int×List dN.q×j6:=(x.1.1,x.1.2.2.1,x.1.2.2.2,x.2)
def Wg(x:mr.M.X):Prop:=x.1.2.1=(x.1.2.2.1.length:Int)
def Cq(s:j6):mr.E.X:=((s.1.1,()),())
def AY:j6:=(aY _,cf _)
def Lb:mr.R.X:=(aY _,cf _)
def zfh:af prog (.loop (au f215 0)) mr.M mr (FL Dt sH Wg Cq Rd.back AY Lb):=
 sQ wa (λ_ _=>.n .o) dN.j (λx=>x.1.2.1) (λx s=>((I6.wrap (x.1.1+1),x.1.2.1,x.1.2.2.1,s.1),s.2)) (λ_ h=>h)
def CM(y:mr.M.X):j6 ⊕ mr.R.X:=eC Dt ((sH y).2.1.drop (sH y).1.toNat) (sH y).2.2
def zhv(y:mr.M.X):Prop:=l6 Dt ((sH y).2.1.drop (sH y).1.toNat) (sH y).2.2
def qti(x:ap [.d (.sl ar),.d (.sl ar)]):Fr (aa [.bool]):=
 let a:=((0,((List.length x.1):Int),x.1,x.2.1,()),());let b:=H1 a;Jb (((List.length x.1):Int) != ((List.length x.2.1):Int)) (Jv (Y,())) (Jd (InL (VV a) (s8 a)) (Jd (zhp a) (Jb (dV b) (Jv (Z,())) (Jv ((e9 KX b).1.1,())))))
def qtj:ag prog 192 (bg [.d (.sl ar),.d (.sl ar)] [.bool] qti):=
 cZ wa zd2
def qvy(x:ap [.d (.sl ar)]):Fr (aa [.bool]):=
 let a:=((0,((List.length x.1):Int),x.1,x.1,-1,()),());let c:=zp a;let b:=((List.length (uP (fq tN c)).1.1):Int);Jd (InL (Wk a) (sL a)) (Jd (zhz a) (Jb (dV c) (Jv (bif J (b>=1)then J (b<=8)else Y,())) (Jv ((e9 Ld c).1.1,()))))
def qvz:ag prog 106 (bg [.d (.sl ar)] [.bool] qvy):=
 cZ wa zft
def qvl(x:ap [.d (.sl dN)]):Fr (aa [.bool]):=
 let a:=((0,((List.length x.1):Int),x.1,x.1,-1,()),());let b:=CM a;Jd (InL (Wg a) (sH a)) (Jd (zhv a) (Jb (dV b) (Jv (J (((List.length (Cq (fq AY b)).1.1):Int)<=100),())) (Jv ((e9 Lb b).1.1,()))))
def qvm:ag prog 215 (bg [.d (.sl dN)] [.bool] qvl):=
 cZ wa zfh
def yf{l:List T}(h:l.length<=maxLen):(l.length:Int)<=9223372036854775807:=by simp only[maxLen]at h;omega
def pg{t:Ty}{l:List t.q}(h:Jk prog w F (.d (.sl t)) l v):(l.length:Int)<=9223372036854775807:=yf (aG.wf (t:=.sl t) h.2.2).1
def mU(l:List Int):Bool:=l.all λn=>J (0<=n/\n<=100000)
def A0:Ct:=⟨[.d aP],[.bool],λx=>(mU x.1,()),λ_=>[]⟩
def po(p:T->σ->Bool)(f:T->σ->σ):List T->σ->Bool
 |[],_=>Z
 |e::r,s=>p e s&&po p f r (f e s)
def iZ(f:T->σ->σ):List T->σ->σ
 |[],s=>s
 |e::r,s=>iZ f r (f e s)
def tv{step:T->σ->Fr (σ ⊕ ρ)}{p:T->σ->Bool}{f:T->σ->σ}{c:ρ}(h:∀ e s,(step e s).get=if p e s=Z then .inl (f e s)else .inr c):
  (l:List T)->(s:σ)->eC step l s=if po p f l s=Z then .inl (iZ f l s)else .inr c
 |[],s=>rfl
 |e::r,s=>by
  simp only[eC,po,iZ];by_cases b:p e s=Z;have a:=h e s;rw[uf0 b]at a;simp only[a,b,uem];exact tv h r (f e s);have a:=h e s;rw[uf1 b]at a;have d:p e s=false:=by simpa using b
  simp only[a,d,Bool.false_and];rfl
def nU(c:ar.q):Bool:=lU c.1 c.2.1 c.2.2.1 c.2.2.2.1 c.2.2.2.2.1
def tj:List ar.q->Int->Bool
 |[],_=>Z
 |c::r,last=>(J (last<c.1)&&nU c)&&tj r c.1
def ky(l:List ar.q):Bool:=J (1<=l.length/\l.length<=8)&&tj l (-1)
def Az:Ct:=⟨[.d (.sl ar)],[.bool],λx=>(ky x.1,()),λ_=>[]⟩
def zp6(e:ar.q)(s:i8):(Dy e s).get=if (J (s.1.2.1<e.1)&&nU e)=Z then .inl ((s.1.1,e.1,()),())else .inr ((Y,()),()):=by
 show(if (bif J (e.1<=s.1.2.1)then Z else !(nU e))=Z then _ else _)=_;have a:(bif J (e.1<=s.1.2.1)then Z else !(nU e))=!(J (s.1.2.1<e.1)&&nU e):=by
  have:J (e.1<=s.1.2.1)=!J (s.1.2.1<e.1):=by rw[udy];simp only[ucv,ucu,uav];exact ufp.symm
  rw[this];cases J (s.1.2.1<e.1)<;>cases nU e<;>rfl
 rw[a];cases (J (s.1.2.1<e.1)&&nU e)<;>rfl
def zp4(l b:List ar.q)(last:Int):po (λ(e:ar.q) (s:i8)=>J (s.1.2.1<e.1)&&nU e) (λe s=>((s.1.1,e.1,()),())) l ((b,last,()),())=tj l last:=by
 induction l generalizing last with
 |nil=>rfl
 |cons c r a=>show((J (last<c.1)&&nU c)&&_)=((J (last<c.1)&&nU c)&&_);rw[a]
def zp5(l a:List ar.q)(last:Int):(iZ (λ(e:ar.q) (s:i8)=>(((s.1.1,e.1,()),()):i8)) l ((a,last,()),())).1.1=a:=by
 induction l generalizing last with
 |nil=>rfl
 |cons c r b=>exact b c.1
def zco(n:Nat):(bif J ((n:Int)>=1)then J ((n:Int)<=8)else Y)=J (1<=n/\n<=8):=by rw[udy];simp only[ubb,udd,ucu];omega
def qcu:ag prog 106 Az:=
 conv qvz _ _ (λw F x i f _=>by
  obtain⟨l,_⟩:=x;obtain⟨v,h,rfl,g,_⟩:=f;have c:=pg g;refine⟨⟨⟨rfl,ufe _,ub4 _,c⟩,rR (step:=Dy) (λe s=>⟨λ_=>uT,λ_=>uT⟩) _ _,λ_=>uT,λ_=>uT⟩,?_⟩;have a:=tv zp6 l ((l,-1,()),());rw[zp4]at a;have b:zp ((0,(l.length:Int),l,l,-1,()),())=if tj l (-1)=Z then .inl _ else .inr _:=a
  show(if dV (zp ((0,(l.length:Int),l,l,-1,()),()))=Z then ((bif J (((uP (fq tN (zp ((0,(l.length:Int),l,l,-1,()),())))).1.1.length:Int)>=1)then J (((uP (fq tN (zp ((0,(l.length:Int),l,l,-1,()),())))).1.1.length:Int)<=8)else Y,()):Bool×Unit)else ((e9 Ld (zp ((0,(l.length:Int),l,l,-1,()),()))).1.1,()))=(ky l,());rw[b];unfold ky;cases tj l (-1)with
  |true=>have d:(uP (fq tN (Sum.inl (iZ (λ(e:ar.q) (s:i8)=>(((s.1.1,e.1,()),()):i8)) l ((l,-1,()),())):i8 ⊕ l7.R.X))).1.1=l:=zp5 l l (-1);show((bif J (((uP (fq tN (Sum.inl (iZ (λ(e:ar.q) (s:i8)=>(((s.1.1,e.1,()),()):i8)) l ((l,-1,()),())):i8 ⊕ l7.R.X))).1.1.length:Int)>=1)then J (((uP (fq tN (Sum.inl (iZ (λ(e:ar.q) (s:i8)=>(((s.1.1,e.1,()),()):i8)) l ((l,-1,()),())):i8 ⊕ l7.R.X))).1.1.length:Int)<=8)else Y,()):Bool×Unit)=_;rw[d];exact ufy (·,()) ((zco l.length).trans (uen _).symm)
  |false=>rw[uee];rfl)
def qN(u b:Int):Bool:=J (u<=200/\0<=b/\b<=100000)
def As:List dN.q->Int->Bool
 |[],_=>Z
 |c::r,last=>(J (last<c.1)&&qN c.1 c.2.1)&&As r c.1
def Au(l:List dN.q):Bool:=J (l.length<=100)&&As l (-1)
def Eu:Ct:=⟨[.d (.sl dN)],[.bool],λx=>(Au x.1,()),λ_=>[]⟩
def qlz(u b last:Int):(bif bif bif J (u<=last)then Z else J (u>200)then Z else J (b<0)then Z else J (b>100000))=!(J (last<u)&&qN u b):=by rw[udy];simp only[qN,uby,udu,ucv,Bool.and_eq_false_iff,ucu,uav];omega
def zkg(e:dN.q)(s:j6):(Dt e s).get=if (J (s.1.2.1<e.1)&&qN e.1 e.2.1)=Z then .inl ((s.1.1,e.1,()),())else .inr ((Y,()),()):=by show(if (bif bif bif J (e.1<=s.1.2.1)then Z else J (e.1>200)then Z else J (e.2.1<0)then Z else J (e.2.1>100000))=Z then _ else _)=_;have a:=qlz e.1 e.2.1 s.1.2.1;rw[a];cases (J (s.1.2.1<e.1)&&qN e.1 e.2.1)<;>rfl
def zke(l b:List dN.q)(last:Int):po (λ(e:dN.q) (s:j6)=>J (s.1.2.1<e.1)&&qN e.1 e.2.1) (λe s=>((s.1.1,e.1,()),())) l ((b,last,()),())=As l last:=by
 induction l generalizing last with
 |nil=>rfl
 |cons c r a=>show((J (last<c.1)&&qN c.1 c.2.1)&&_)=((J (last<c.1)&&qN c.1 c.2.1)&&_);rw[a]
def zkf(l a:List dN.q)(last:Int):(iZ (λ(e:dN.q) (s:j6)=>(((s.1.1,e.1,()),()):j6)) l ((a,last,()),())).1.1=a:=by
 induction l generalizing last with
 |nil=>rfl
 |cons c r b=>exact b c.1
def zcp(n:Nat):decide ((n:Int)<=100)=decide (n<=100):=by
 rw[udy];simp only[ucu];omega
def Sq:ag prog 215 Eu:=
 conv qvm _ _ (λw F x i f _=>by
  obtain⟨l,_⟩:=x;obtain⟨v,h,rfl,g,_⟩:=f;have c:=pg g;refine⟨⟨⟨rfl,ufe _,ub4 _,c⟩,rR (step:=Dt) (λe s=>⟨λ_=>uT,λ_=>uT⟩) _ _,λ_=>uT,λ_=>uT⟩,?_⟩;have a:=tv zkg l ((l,-1,()),());rw[zke]at a;have b:CM ((0,(l.length:Int),l,l,-1,()),())=if As l (-1)=Z then .inl _ else .inr _:=a
  show(if dV (CM ((0,(l.length:Int),l,l,-1,()),()))=Z then ((J (((Cq (fq AY (CM ((0,(l.length:Int),l,l,-1,()),())))).1.1.length:Int)<=100),()):Bool×Unit)else ((e9 Lb (CM ((0,(l.length:Int),l,l,-1,()),()))).1.1,()))=(Au l,());rw[b];unfold Au;cases As l (-1)with
  |true=>have d:(Cq (fq AY (Sum.inl (iZ (λ(e:dN.q) (s:j6)=>(((s.1.1,e.1,()),()):j6)) l ((l,-1,()),())):j6 ⊕ mr.R.X))).1.1=l:=zkf l l (-1);show((J (((Cq (fq AY (Sum.inl (iZ (λ(e:dN.q) (s:j6)=>(((s.1.1,e.1,()),()):j6)) l ((l,-1,()),())):j6 ⊕ mr.R.X))).1.1.length:Int)<=100),()):Bool×Unit)=_;rw[d];exact ufy (·,()) ((zcp l.length).trans (uen _).symm)
  |false=>rw[uee];rfl)
def tG(a b:ar.q):Bool:=(a.1==b.1&&(a.2.1==b.2.1&&(a.2.2.1==b.2.2.1&&(a.2.2.2.1==b.2.2.2.1&&(a.2.2.2.2.1==b.2.2.2.2.1&&Z)))))
def qpo{a b:ar.q}:tG a b=Z↔a=b:=by obtain⟨c,d,e,f,g,_⟩:=a;obtain⟨h,i,k,l,m,_⟩:=b;simp only[tG,udd,ufm,ueh]
def jk:List ar.q->List ar.q->Bool
 |[],[]=>Z
 |a::l,b::m=>tG a b&&jk l m
 |_,_=>Y
def Pm:{l m:List ar.q}->(jk l m=Z↔l=m)
 |[],[]=>by simp[jk]
 |[],b::m=>by simp[jk]
 |a::l,[]=>by simp[jk]
 |a::l,b::m=>by simp only[jk,udd,udr];rw[qpo,Pm]
def AA:Ct:=⟨[.d (.sl ar),.d (.sl ar)],[.bool],λx=>(jk x.1 x.2.1,()),λ_=>[]⟩
def qa3:{l m:List ar.q}->l.length=m.length->jk l m=(l.zip m).all λe=>tG e.1 e.2
 |[],[],_=>rfl
 |[],b::m,h=>by cases h
 |a::l,[],h=>by cases h
 |a::l,b::m,h=>by simp only[jk,List.zip_cons_cons,uek];rw[qa3 (by simpa using h)]
def zma:{l m:List ar.q}->l.length≠m.length->jk l m=false:=λh=>by
 cases a:jk _ _ with
 |true=>exact absurd (ufy List.length (Pm.1 a)) h
 |false=>rfl
def Js(p:T->Bool)(l:List T)(s:σ):po (λe _=>p e) (λ_ s=>s) l s=l.all p:=by
 induction l with
 |nil=>rfl
 |cons e r a=>simp only[po,uek];rw[a]
def qky(e:ar.q×ar.q)(s:vG):(Dh e s).get=if tG e.1 e.2=Z then .inl s else .inr ((Y,()),()):=by show(if (!(tG e.1 e.2))=Z then _ else _)=_;cases tG e.1 e.2<;>rfl
def zcq(a b:Nat):((a:Int) != (b:Int))=!J (a=b):=by rw[udy];simp;omega
def qkz:ag prog 192 AA:=
 conv qtj _ _ (λw F x r k _=>by
  obtain⟨l,m,_⟩:=x;obtain⟨v,p,rfl,n,_⟩:=k;have h:(l.length:Int)<=9223372036854775807:=pg n;have g:=zcq l.length m.length;by_cases b:l.length=m.length;have a:((l.length:Int) != (m.length:Int))=false:=by rw[g,ueb b];rfl
  have o:((l.zip m).length:Int)<=9223372036854775807:=by rw[udz];omega
  refine⟨⟨λ_=>uT,λ_=>⟨⟨⟨rfl,b⟩,ufe _,ub4 _,o⟩,rR (step:=Dh) (λe s=>⟨λ_=>uT,λ_=>uT⟩) _ _,λ_=>uT,λ_=>uT⟩⟩,?_⟩;have c:=tv qky (l.zip m) ((m,()),());rw[Js,<- qa3 b]at c;have d:H1 ((0,(l.length:Int),l,m,()),())=if jk l m=Z then .inl _ else .inr _:=c
  show(if ((l.length:Int) != (m.length:Int))=Z then ((Y,()):Bool×Unit)else if dV (H1 ((0,(l.length:Int),l,m,()),()))=Z then (Z,())else ((e9 KX (H1 ((0,(l.length:Int),l,m,()),()))).1.1,()))=(jk l m,());rw[d,a];cases jk l m<;>rfl
  have a:((l.length:Int) != (m.length:Int))=true:=by rw[g,udw b];rfl
  refine⟨⟨λ_=>uT,λi=>(by have f:((l.length:Int) != (m.length:Int))=false:=i;rw[a]at f;cases f)⟩,?_⟩;show(if ((l.length:Int) != (m.length:Int))=Z then ((Y,()):Bool×Unit)else _)=(jk l m,());rw[a,zma b];rfl)
abbrev dF:Ty:=.pair cK (.pair eV (.pair (.sl ar) .unit))
abbrev ay:Ty:=.pair i64 (.pair i64 (.pair i64 (.pair eV (.pair (.sl ar) (.pair i64 .unit)))))
abbrev aD:Ty:=.pair i64 (.pair i64 (.pair dF (.pair (.sl ay) .unit)))
abbrev Mr:Ty:=.pair i64 (.pair i64 (.pair i64 (.pair i64 .unit)))
abbrev aU:Ty:=.pair i64 (.pair Mr (.pair (.sl dN) (.pair aP (.pair aP (.pair i64 .unit)))))
abbrev bh:Ty:=.pair (.sl aU) .unit
def CH9:Cx:=cx [(104,qX),(215,Eu),(106,Az),(192,AA),(140,iD)] []
def Ae:CxOK prog CH9:=aQ aH ⟨OV,Sq,qcu,qkz,rC,uT⟩ trivial
def UK(x:ap [.d ay]):Fr (aa [.bool]):=
 let a:=x.1.2.2.2;Jv (bif bif (qX.f ((a.1.1,a.1.2.1,a.1.2.2.1,a.1.2.2.2.1,()),())).1 then ((List.length a.2.1):Int)==0 else Y then a.2.2.1==0 else Y,())
def qtq:ag prog 160 (bg [.d ay] [.bool] UK):=
 aT Ae f160
def UL(x:ap [.d ay]):Fr (aa [.bool]):=
 let a:=x.1.2.2.2;Jv (bif bif (Az.f (a.2.1,())).1 then a.1.1==0&&(a.1.2.1==0&&(a.1.2.2.1==0&&(a.1.2.2.2.1==0&&Z)))else Y then a.2.2.1==0 else Y,())
def qtr:ag prog 161 (bg [.d ay] [.bool] UL):=
 aT Ae f161
def UM(x:ap [.d ay]):Fr (aa [.bool]):=
 let a:=x.1.2.2.2;Jv (bif bif bif a.2.2.1==0 then Z else a.2.2.1==1 then ((List.length a.2.1):Int)==0 else Y then a.1.1==0&&(a.1.2.1==0&&(a.1.2.2.1==0&&(a.1.2.2.2.1==0&&Z)))else Y,())
def qts:ag prog 162 (bg [.d ay] [.bool] UM):=
 aT Ae f162
def UN(x:ap [.d ay]):Fr (aa [.bool]):=
 let a:=x.1.2.2.2;Jv (bif bif a.2.2.1==0 then ((List.length a.2.1):Int)==0 else Y then a.1.1==0&&(a.1.2.1==0&&(a.1.2.2.1==0&&(a.1.2.2.2.1==0&&Z)))else Y,())
def qtt:ag prog 163 (bg [.d ay] [.bool] UN):=
 aT Ae f163
def quf(x:ap [.d aF,.d aF]):Fr (aa [.bool]):=
 let b:=x.1.2.2;let a:=x.2.1.2.2;Jv (bif bif x.1.2.1==x.2.1.2.1 then b.1.1==a.1.1&&(b.1.2.1==a.1.2.1&&(b.1.2.2.1==a.1.2.2.1&&(b.1.2.2.2.1==a.1.2.2.2.1&&Z)))else Y then (AA.f (b.2.1,a.2.1,())).1 else Y,())
def qug:ag prog 144 (bg [.d aF,.d aF] [.bool] quf):=
 aT Ae f144
def KD(c:ay.q):Bool:=(UK (c,())).get.1
def KE(c:ay.q):Bool:=(UL (c,())).get.1
def KF(c:ay.q):Bool:=(UM (c,())).get.1
def KG(c:ay.q):Bool:=(UN (c,())).get.1
def JP:Ct:=⟨[.d ay],[.bool],λx=>(KD x.1,()),λ_=>[]⟩
def JQ:Ct:=⟨[.d ay],[.bool],λx=>(KE x.1,()),λ_=>[]⟩
def JR:Ct:=⟨[.d ay],[.bool],λx=>(KF x.1,()),λ_=>[]⟩
def JS:Ct:=⟨[.d ay],[.bool],λx=>(KG x.1,()),λ_=>[]⟩
def qof:ag prog 160 JP:=conv qtq _ _ (λ_ _ _ _ _ _=>⟨uT,rfl⟩)
def qog:ag prog 161 JQ:=conv qtr _ _ (λ_ _ _ _ _ _=>⟨uT,rfl⟩)
def qoh:ag prog 162 JR:=conv qts _ _ (λ_ _ _ _ _ _=>⟨uT,rfl⟩)
def qoi:ag prog 163 JS:=conv qtt _ _ (λ_ _ _ _ _ _=>⟨uT,rfl⟩)
def G8(c:ay.q):Bool:=if c.2.2.1=1 then KD c else if c.2.2.1=2 then KE c else if c.2.2.1=3 then KF c else if c.2.2.1=4 then KG c else Y
def fk(c:ay.q):Bool:=jo c.1&&(jo c.2.1&&G8 c)
def qS:Ct:=⟨[.d ay],[.bool],λx=>(fk x.1,()),λ_=>[]⟩
def i9(t:dF.q):Bool:=fp t.1&&(J (t.1.2.1-t.1.1<=1100)&&(qp t.2.1.1 t.2.1.2.1 t.2.1.2.2.1 t.2.1.2.2.2.1&&ky t.2.2.1))
def t7:Ct:=⟨[.d dF],[.bool],λx=>(i9 x.1,()),λ_=>[]⟩
def CN(a b:eV.q):Bool:=(a.1==b.1&&(a.2.1==b.2.1&&(a.2.2.1==b.2.2.1&&(a.2.2.2.1==b.2.2.2.1&&Z))))
def pX(a b:aF.q):Bool:=(a.2.1==b.2.1)&&(CN a.2.2.1 b.2.2.1&&jk a.2.2.2.1 b.2.2.2.1)
def E7:Ct:=⟨[.d aF,.d aF],[.bool],λx=>(pX x.1 x.2.1,()),λ_=>[]⟩
def Wz:ag prog 144 E7:=conv qug _ _ (λ_ _ x _ _ _=>by obtain⟨a,b,_⟩:=x;exact⟨uT,ufy (·,()) (PK (a.2.1==b.2.1) (CN a.2.2.1 b.2.2.1) (jk a.2.2.2.1 b.2.2.2.1))⟩)
def kz(h:aD.q)(i:Int):Int:=(h.2.2.2.1.getD i.toNat ay.j).2.1
abbrev aO(h:aD.q):List ay.q:=h.2.2.2.1
def CO1:Cx:=cx [(157,pq)] []
def qfv:CxOK prog CO1:=aQ aH ⟨Fe,uT⟩ trivial
def qxu(x:ap [.d i64,.d i64,.ptr aD]):Fr (aa [i64]):=
 let a:=((aO x.2.2.1).length:Int);Jd (0<=x.1/\x.1<a) (Jd (0<=x.2.1/\x.2.1<a) (Jv ((pq.f (kz x.2.2.1 x.1,kz x.2.2.1 x.2.1,())).1,())))
def wO:Ct:=⟨[.d i64,.d i64,.ptr aD],[i64],λx=>(nT (kz x.2.2.1 x.1) (kz x.2.2.1 x.2.1),()),λx=>[0<=x.1/\x.1<((aO x.2.2.1).length:Int),0<=x.2.1/\x.2.1<((aO x.2.2.1).length:Int)]⟩
def YO:ag prog 156 wO:=
 conv (aT qfv f156 (fr:=qxu)) _ _ λ_ _ x _ _ a=>⟨⟨a.1,a.2,uT⟩,rfl⟩
def kb(n:Nat):List Int:=(List.range n).map λi:Nat=>(i:Int)
def zkb(n:Nat):kb (n+1)=kb n++[(n:Int)]:=by simp[kb,ud2]
def OC(n:Nat):(kb n).length=n:=by simp[kb]
def OD(h:x∈kb n):0<=x/\x<n:=by simp only[kb,ufa,uea]at h;omega
def CO2:Cx:=dI [(156,wO)] [] (i6 (cx [(156,wO)] []).Γ 155 NH)
def qfx:CxOK prog (cx [(156,wO)] []):=aQ aH ⟨YO,uT⟩ trivial
def Q2:CxOK prog CO2:=dP aH ⟨YO,uT⟩ trivial (jg qfx.ct zoa)
abbrev qk:Pt:=⟨20,0,⟨[(7,.d i64),(8,.d i64)],[.x 1 114 aD,.r 1 1 0,.o 3 3 i64]⟩,⟨[],[.x 1 114 aD,.r 1 1 0,.o 3 3 i64]⟩,⟨[],[]⟩⟩
def MH(x:qk.M.X):Fr qk.Out:=
 let n:=x.1.1;let k:=x.1.2.1;let h:=x.2.1;let l:=x.2.2.1
 Jb (J (k<n))
  (Jd (l.length + [k].length<=maxLen/\(l.length + [k].length)*prog.types[3].bytes<=140737488355328) (Jv (Rd.next ((n,I6.wrap (k+1),()),(h,l++[k],())))))
  (Jv (Rd.out ((),(h,l,()))))
def znb:af prog (au f97 0) qk.M qk MH:=
 ep Q2
def zak:prog.types[3].bytes=8:=by kernel_rfl
structure InvOrd (n k:Int) (l:List Int):Prop where
 k0:0<=k
 kn:k<=n
 big:n<=1000000
 ll:l=kb k.toNat
def Rk(x:qk.M.X):Fr qk.Out:=
 Jd (InvOrd x.1.1 x.1.2.1 x.2.2.1) (Jv (Rd.out ((),(x.2.1,kb x.1.1.toNat,()))))
def zb4 (n k:Int) (h:aD.q) (l:List Int) (b:InvOrd n k l) (Q:qk.Out->Prop) (d:Q (Rd.out ((),(h,kb n.toNat,())))):(MH ((n,k,()),(h,l,()))).s7 λ
   |.next a=>InvOrd a.1.1 a.1.2.1 a.2.2.1/\(a.1.1-a.1.2.1).toNat<(n-k).toNat/\(Rk a).s7 Q
   |.out y=>Q (.out y)
   |.back z=>Q (.back z)
   |.pan p=>Q (.pan p):=by
 obtain⟨o,r,f,g⟩:=b;subst g;dsimp only[MH,Fr.s7,Ty.q,PT.q];rw[zak];refine⟨λc=>?_,λc=>?_⟩;have m:=ucx c;have w:I6.wrap (k+1)=k+1:=IntWalk.i64_in _ (by omega);rw[w];have e:InvOrd n (k+1) (kb k.toNat++[k]):=⟨by omega,by omega,f,by rw[show(k+1).toNat=k.toNat+1 by omega,zkb,show((k.toNat:Nat):Int)=k by omega]⟩;refine⟨?_,e,by omega,e,d⟩;simp only[OC,uda,udm,maxLen];omega;have i:=uch c;rw[show n=k by omega]at d;exact d
def zde:af prog (.loop (au f97 0)) qk.M qk Rk:=by refine af.loop znb (μ:=λx=>(x.1.1-x.1.2.1).toNat) ?_ (λx Q h=>h.1);rintro⟨⟨n,k,_⟩,⟨h,l,_⟩⟩ a Q b;exact zb4 n k h l a Q b.2
def Ov(h:aD.q):qox.q:=(λx=>wO.f (x.1,x.2.1,h,()),λx=>az (wO.ok (x.1,x.2.1,h,())))
def V2(x:ap [.d aD]):Fr (aa [.sl i64]):=
 let n:Int:=((aO x.1).length:Int)
 Jd (InvOrd n 0 [])
 (Jd (((kb n.toNat).length:Int)<=4611686018427387903)
  (Jd (jD (Ov x.1) (kb n.toNat)) (Jv ((NH.f (kb n.toNat) (Ov x.1,())).1,()))))
def NG(h:aD.q)(x y:Int):Bool:=J (kz h x<kz h y)
def bV(h:aD.q):List Int:=dp (NG h) (kb (aO h).length)
def XS(h:aD.q):aR (Ov h)=NG h:=by funext x y;show J (nT (kz h x) (kz h y)<0)=J (kz h x<kz h y);unfold nT;split;simp[*];split<;>simp<;>omega
def Km:Ct:=⟨[.d aD],[.sl i64],λx=>(bV x.1,()),λx=>[((aO x.1).length:Int)<=1000000]⟩
def Ox:ag prog 97 Km:=
 conv (cZ Q2 zde (fr:=V2)) _ _ λ_ _ x _ _ b=>by obtain⟨h,rfl⟩:∃ h:aD.q,x=(h,()):=⟨x.1,rfl⟩;have a:((aO h).length:Int)<=1000000:=b;have e:((aO h).length:Int).toNat=(aO h).length:=rfl;dsimp only[V2,Fr.ok,NH,rO];rw[e,XS,OC];refine⟨⟨⟨ufe _,by omega,a,rfl⟩,by omega,⟨λx c y d=>⟨OD c,OD d⟩,kz h,λx _ y _=>by rw[XS];rfl⟩,uT⟩,rfl⟩
section
variable {key:Int->Int} {lt:Int->Int->Bool}
end
def qrf(h:i<l.length):l.drop i=l.getD i 0::l.drop (i+1):=by simp[uaq h]
def nZ(s:aF.q)(c:ay.q):aF.q:=
 if c.2.2.1=1 then (s.1,s.2.1,c.2.2.2.1,s.2.2.2.1,s.2.2.2.2.1,())
 else if c.2.2.1=2 then (s.1,s.2.1,s.2.2.1,c.2.2.2.2.1,s.2.2.2.2.1,())
 else if c.2.2.1=3 then (s.1,Y,s.2.2.1,s.2.2.2.1,s.2.2.2.2.1,())
 else if c.2.2.1=4 then (s.1,Z,s.2.2.1,s.2.2.2.1,s.2.2.2.2.1,())
 else s
def cw(h:aD.q)(i:Int):ay.q:=(aO h).getD i.toNat ay.j
def CHA:Cx:=cx [(144,E7),(140,iD)] []
def Qt:CxOK prog CHA:=aQ aH ⟨Wz,rC,uT⟩ trivial
abbrev oI:Pt:=⟨21,0,⟨[(10,.d i64),(9,.d i64),(8,.d eK),(1,.d i64)],[.x 4 213 aF,.r 4 4 0]⟩,⟨[],[.x 4 213 aF,.r 4 4 0]⟩,⟨[(5,.d .bool)],[.x 4 213 aF,.r 4 4 0]⟩⟩
abbrev z8:Type:=ap [.d i64]×dj [.x 4 213 aF,.r 4 4 0]
def vO(e:aF.q)(s:z8):Fr (z8 ⊕ oI.R.X):=
 Jb (iD.f (e.1,s.1.1,())).1 (Jv (.inr ((Z,()),e,()))) (Jv (.inl s))
def sI(x:oI.M.X):Int×List aF.q×z8:=(x.1.1,x.1.2.2.1,x.1.2.2.2,x.2)
def Wh(x:oI.M.X):Prop:=x.1.2.1=(x.1.2.2.1.length:Int)
def zim(s:z8):oI.E.X:=((),s.2.1,())
def qqa:z8:=(aY _,cf _)
def Fi:oI.R.X:=(aY _,cf _)
def zfk:af prog (.loop (au f130 0)) oI.M oI (FL vO sI Wh zim Rd.back qqa Fi):=
 sQ Qt (λ_ _=>.n .o) aF.j (λx=>x.1.2.1) (λx s=>((I6.wrap (x.1.1+1),x.1.2.1,x.1.2.2.1,s.1),s.2)) (λ_ h=>h)
def zn(y:oI.M.X):z8 ⊕ oI.R.X:=eC vO ((sI y).2.1.drop (sI y).1.toNat) (sI y).2.2
def zhw(y:oI.M.X):Prop:=l6 vO ((sI y).2.1.drop (sI y).1.toNat) (sI y).2.2
def qvq(x:ap [.d eK,.d i64]):Fr (aa [aF,.bool]):=
 let a:=((0,((List.length x.1):Int),x.1,x.2.1,()),((0,0,()),Y,(0,0,0,0,()),[],0,()),());let b:=e9 Fi (zn a);Jd (InL (Wh a) (sI a)) (Jd (zhw a) (Jb (dV (zn a)) (Jv (((0,0,()),Y,(0,0,0,0,()),[],0,()),Y,())) (Jv (b.2.1,b.1.1,()))))
def qvr:ag prog 130 (bg [.d eK,.d i64] [aF,.bool] qvq):=
 cZ Qt zfk
def oy:aF.q:=((0,0,()),Y,(0,0,0,0,()),[],0,())
def cz:List aF.q->Int->aF.q×Bool
 |[],_=>(oy,Y)
 |s::r,d=>if eH s.1.1 s.1.2.1 d=Z then (s,Z)else cz r d
def wJ:Ct:=⟨[.d eK,.d i64],[aF,.bool],λx=>((cz x.1 x.2.1).1,(cz x.1 x.2.1).2,()),λ_=>[]⟩
def Sj:(l:List aF.q)->(d:Int)->(cz l d).2=Y->(cz l d).1=oy
 |[],_,_=>rfl
 |s::r,d,h=>by unfold cz at h |-;by_cases a:eH s.1.1 s.1.2.1 d=Z;rw[uf0 a]at h;cases h;rw[uf1 a]at h |-;exact Sj r d h
def qlo(l:List aF.q)(d:Int)(m:aF.q):eC vO l ((d,()),(m,()))=if (cz l d).2=Z then .inr ((Z,()),((cz l d).1,()))else .inl ((d,()),(m,())):=by
 induction l with
 |nil=>rfl
 |cons e r b=>by_cases h:eH e.1.1 e.1.2.1 d=Z;have a:(vO e ((d,()),(m,()))).get=.inr ((Z,()),(e,())):=uf0 h;simp only[eC,a,cz,uf0 h,if_true];have a:(vO e ((d,()),(m,()))).get=.inl ((d,()),(m,())):=uf1 h;simp only[eC,a,cz,uf1 h];exact b
def qln(l:List aF.q)(d:Int){a b:σ}{c:ap [.d .bool]×aF.q×Unit}:
  (if dV (if (cz l d).2=Z then (.inr ((Z,()),((cz l d).1,())):σ ⊕ (ap [.d .bool]×aF.q×Unit))else .inl a)=Z then ((oy,Y,()):aF.q×Bool×Unit)
   else ((e9 c (if (cz l d).2=Z then (.inr ((Z,()),((cz l d).1,())):σ ⊕ (ap [.d .bool]×aF.q×Unit))else .inl a)).2.1,(e9 c (if (cz l d).2=Z then (.inr ((Z,()),((cz l d).1,())):σ ⊕ (ap [.d .bool]×aF.q×Unit))else .inl a)).1.1,()))=((cz l d).1,(cz l d).2,()):=by
 cases h:(cz l d).2 with
 |true=>rfl
 |false=>rw[Sj l d h];rfl
def zn7:ag prog 130 wJ:=
 conv qvr _ _ (λw F x i f _=>by obtain⟨l,d,_⟩:=x;obtain⟨v,h,rfl,g,_⟩:=f;have a:(l.length:Int)<=9223372036854775807:=pg g;refine⟨⟨⟨rfl,ufe _,ub4 _,a⟩,rR (step:=vO) (λe s=>⟨λ_=>uT,λ_=>uT⟩) _ _,λ_=>uT,λ_=>uT⟩,?_⟩;have c:zn ((0,(l.length:Int),l,d,()),(oy,()))=_:=qlo l d oy;show(if dV (zn ((0,(l.length:Int),l,d,()),(oy,())))=Z then ((oy,Y,()):aF.q×Bool×Unit)else ((e9 Fi (zn ((0,(l.length:Int),l,d,()),(oy,())))).2.1,(e9 Fi (zn ((0,(l.length:Int),l,d,()),(oy,())))).1.1,()))=((cz l d).1,(cz l d).2,());rw[c];exact qln l d (b:=((d,()),(oy,()))))
def lx(h:aD.q):Bool:=(i9 h.2.2.1&&J (h.2.2.2.1.length<=2000))&&h.2.2.2.1.all λc=>fk c&&eH h.2.2.1.1.1 h.2.2.1.1.2.1 c.2.1
def Ke:Ct:=⟨[.d aD],[.bool],λx=>(lx x.1,()),λ_=>[]⟩
def qk1(p:T->σ->Bool)(l:List T)(s:σ):po p (λ_ s=>s) l s=l.all λe=>p e s:=by
 induction l with
 |nil=>rfl
 |cons e r a=>simp only[po,uek];rw[a]
abbrev gb:Type:=Bool×eV.q×List ar.q
def iu(s:aF.q):gb:=(s.2.1,s.2.2.1,s.2.2.2.1)
def zlo{a b:eV.q}:CN a b=Z↔a=b:=by obtain⟨g,i,k,l,_⟩:=a;constructor;intro h;simp only[CN,udd,ufm]at h;obtain⟨c,d,e,f,_⟩:=h;rw[c,d,e,f];intro h;cases h;simp[CN]
def Wy{a b:aF.q}:pX a b=Z↔iu a=iu b:=by unfold pX iu;simp only[udd,ufm,zlo,Pm,ueh]
def dv(c:Int->gb)(b:Int):Int->List aF.q->Prop
 |a,[]=>a=b
 |a,s::l=>s.1.1=a/\a<s.1.2.1/\s.2.2.2.2.1=(0:Int)/\(∀ d,a<=d->d<s.1.2.1->iu s=c d)/\(∀ t∈l.head?,iu s≠iu t)/\dv c b s.1.2.1 l
def dv.le{c:Int->gb}{b:Int}:{a:Int} -> {l:List aF.q}->dv c b a l->a<=b
 |a,[],h=>ue7 h
 |a,s::l,h=>ue6 (uev h.2.1) (dv.le h.2.2.2.2.2)
def dv.at_{c:Int->gb}{b:Int}{s:aF.q}{l:List aF.q}(h:dv c b a (s::l)):iu s=c a:=h.2.2.2.1 a (ufe a) h.2.1
def kU:List aF.q->aF.q->List aF.q
 |[],s=>[s]
 |[x],s=>if pX x s=Z then [((x.1.1,s.1.2.1,()),x.2)]else [x,s]
 |x::y::r,s=>x::kU (y::r) s
def zjy(s:aF.q):(y:aF.q)->(r:List aF.q)->∃ a b,kU (y::r) s=a::b/\iu a=iu y
 |y,[]=>by unfold kU;split;exact⟨_,_,rfl,rfl⟩;exact⟨_,_,rfl,rfl⟩
 |y,z::r=>⟨y,_,rfl,rfl⟩
def dv.push{w:Int->gb}{m n:Int}{s:aF.q}(b:s.1.1=m/\s.1.2.1=n/\s.2.2.2.2.1=(0:Int))(f:m<n)(g:∀ d,m<=d->d<n->iu s=w d):{a:Int} -> {l:List aF.q}->dv w m a l->dv w n a (kU l s)
 |a,[],h=>by have A:=h;subst A;refine⟨b.1,by rw[b.2.1];exact f,b.2.2,λd i k=>g d i (by rw[b.2.1]at k;exact k),λt c=>(by cases c),b.2.1⟩
 |a,[x],h=>by
  have v:=h.2.2.2.2.2;unfold kU;by_cases p:pX x s=Z;rw[uf0 p];have o:=Wy.1 p;refine⟨h.1,?_,h.2.2.1,λd i k=>?_,λt c=>(by cases c),?_⟩;show a<s.1.2.1;rw[b.2.1];have i:=h.2.1;rw[v]at i;exact ue3 i f;have u:d<n:=by have:d<s.1.2.1:=k;rw[b.2.1]at this;exact this
  by_cases z:d<m;exact h.2.2.2.1 d i (by rw[v];exact z);exact o.trans (g d (ufp.1 z) u);exact b.2.1;rw[uf1 p];have o:=λe=>p (Wy.2 e);refine⟨h.1,h.2.1,h.2.2.1,h.2.2.2.1,λt c=>?_,?_⟩;simp at c;subst c;exact o;rw[v];exact⟨b.1,by rw[b.2.1];exact f,b.2.2,λd i k=>g d i (by rw[b.2.1]at k;exact k),λt c=>(by cases c),b.2.1⟩
 |a,x::y::r,h=>by refine⟨h.1,h.2.1,h.2.2.1,h.2.2.2.1,λt c=>?_,dv.push b f g h.2.2.2.2.2⟩;obtain⟨C,B,e,o⟩:=zjy s y r;rw[e]at c;simp at c;subst c;rw[o];exact h.2.2.2.2.1 y (by simp)
def Bb(k:gb)(c:ay.q):gb:=
 if c.2.2.1=1 then (k.1,c.2.2.2.1,k.2.2)else if c.2.2.1=2 then (k.1,k.2.1,c.2.2.2.2.1)else if c.2.2.1=3 then (Y,k.2)else if c.2.2.1=4 then (Z,k.2)else k
def qpg(s:aF.q)(c:ay.q):iu (nZ s c)=Bb (iu s) c:=by unfold nZ Bb;split;rfl;split;rfl;split;rfl;split<;>rfl
def iz(d:Int):List ay.q->gb->gb
 |[],k=>k
 |c::l,k=>iz d l (if c.2.1>d then k else Bb k c)
def Nh(d:Int)(k:gb)(m:List ay.q):(l:List ay.q)->(k:gb)->iz d (l++m) k=iz d m (iz d l k)
 |[],k=>rfl
 |c::l,k=>Nh d k m l _
def Ww{d:Int}:{l:List ay.q}->(∀ c∈l,c.2.1>d)->(k:gb)->iz d l k=k
 |[],_,_=>rfl
 |c::l,h,k=>by unfold iz;rw[uf0 (h c (by simp))];exact Ww (λx a=>h x (by simp[a])) k
def Gi{d b:Int}:{l:List ay.q}->(∀ c∈l,c.2.1<=d)->(∀ c∈l,c.2.1<=b)->(k:gb)->iz d l k=iz b l k
 |[],_,_,_=>rfl
 |c::l,h,e,k=>by unfold iz;rw[uf1 (ufp.2 (h c (by simp))),uf1 (ufp.2 (e c (by simp)))];exact Gi (λx a=>h x (by simp[a])) (λx a=>e x (by simp[a])) _
def rg(h:aD.q):List ay.q:=(bV h).map (cw h)
def qbq(h:aD.q)(d:Int):gb:=iz d (rg h) (Z,h.2.2.1.2.1,h.2.2.1.2.2.1)
def kC(a:aF.q)(out:List aF.q)(b:Int):List aF.q:=
 if a.1.1=b then out else kU out ((a.1.1,b,()),a.2)
def mc:List ay.q->aF.q->List aF.q->aF.q×List aF.q
 |[],a,b=>(a,b)
 |c::l,a,b=>mc l (nZ ((c.2.1,a.1.2.1,()),a.2) c) (kC a b c.2.1)
def Oe(h:aD.q):aF.q:=((h.2.2.1.1.1,0,()),Z,h.2.2.1.2.1,h.2.2.1.2.2.1,0,())
def ez(h:aD.q):List aF.q:=kC (mc (rg h) (Oe h) []).1 (mc (rg h) (Oe h) []).2 h.2.2.1.1.2.1
def qrd(s:aF.q)(c:ay.q):(nZ s c).1=s.1/\(nZ s c).2.2.2.2.1=s.2.2.2.2.1:=by unfold nZ;split;exact⟨rfl,rfl⟩;split;exact⟨rfl,rfl⟩;split;exact⟨rfl,rfl⟩;split<;>exact⟨rfl,rfl⟩
def Uk{k:Int->gb}{n:Int}{b:aF.q}{c:List aF.q}(h:dv k b.1.1 a c)(f:b.1.1<=n)(l:b.2.2.2.2.1=(0:Int))(i:∀ d,b.1.1<=d->d<n->iu b=k d):dv k n a (kC b c n):=by unfold kC;by_cases e:b.1.1=n;rw[uf0 e,<- e];exact h;rw[uf1 e];have g:=Int.lt_iff_le_and_ne.2 ⟨f,e⟩;exact dv.push (s:=((b.1.1,n,()),b.2)) ⟨rfl,rfl,l⟩ g i h
def VE{all:List ay.q}{k0:gb}{b:Int}(A:∀ c∈all,c.2.1<=b):(l p:List ay.q)->p++l=all->l.Pairwise (λx y=>x.2.1<=y.2.1)->(e:aF.q)->(g:List aF.q)->(∀ c∈p,c.2.1<=e.1.1)->(∀ c∈l,e.1.1<=c.2.1) ->
  e.1.1<=b->e.2.2.2.2.1=(0:Int)->iu e=iz e.1.1 p k0->dv (λd=>iz d all k0) e.1.1 a g ->
  dv (λd=>iz d all k0) b a (kC (mc l e g).1 (mc l e g).2 b)
 |[],p,f,_,e,g,k,_,o,t,r,w=>by rw[uds]at f;subst f;show dv (λd=>iz d p k0) b a (kC e g b);refine Uk w o t λd u v=>?_;rw[r];exact Gi k (λc h=>ue6 (k c h) u) k0
 |c::l,p,f,s,e,g,k,C,o,t,r,w=>by
  rw[uca]at s;have m:=C c (by simp);have z:dv (λd=>iz d all k0) c.2.1 a (kC e g c.2.1):=by
   refine Uk w m t λd u v=>?_;rw[r];rw[<- f,Nh d k0,Ww (l:=c::l) (λx i=>?_)];exact Gi k (λc h=>ue6 (k c h) u) k0;rcases uej.1 i with rfl|i
   exact v;exact Int.lt_of_lt_of_le v (s.1 x i)
  have B:=qrd ((c.2.1,e.1.2.1,()),e.2) c;have n:(nZ ((c.2.1,e.1.2.1,()),e.2) c).1.1=c.2.1:=by rw[B.1]
  refine VE A l (p++[c]) (by simp[f]) s.2 _ _ (λx i=>?_) (λx i=>?_) ?_ ?_ ?_ ?_;rw[n];rcases udt.1 i with i|i
  exact ue6 (k x i) m;simp at i;subst i;exact ufe _;rw[n];exact s.1 x i;rw[n];exact A c (by rw[<- f];simp);rw[B.2];exact t;rw[n,qpg,Nh _ k0];show Bb (iu e) c=iz c.2.1 [c] (iz c.2.1 p k0);simp only[iz];rw[uf1 (uep _),r,Gi k (λx h=>ue6 (k x h) m)];rw[n];exact z
abbrev oG:Pt:=⟨68,0,⟨[(5,.d i64)],[.x 2 114 aD,.r 2 2 0,.x 3 24 bh,.r 3 3 0]⟩,⟨[],[.x 3 24 bh,.r 3 3 0]⟩,⟨[(4,.d .bool)],[]⟩⟩
abbrev vH:Type:=ap []×dj [.x 2 114 aD,.r 2 2 0,.x 3 24 bh,.r 3 3 0]
def zK(e:ay.q)(s:vH):Fr (vH ⊕ oG.R.X):=
 Jb (J (((List.length e.2.2.2.2.1):Int)>50)) (Jv (.inr ((Y,()),()))) (Jv (.inl ((),s.2.1,(s.2.2.1.1,()),())))
def nC(x:oG.M.X):Int×List ay.q×vH:=(x.1.1,x.2.1.2.2.2.1,x.1.2,x.2)
def Wd(x:oG.M.X):Prop:=True
def uO(s:vH):oG.E.X:=((),(s.2.2.1.1,()),())
def tM:vH:=(aY _,cf _)
def KZ:oG.R.X:=(aY _,cf _)
def zfd:af prog (.loop (au f52 0)) oG.M oG (FL zK nC Wd uO Rd.back tM KZ):=
 sQ aL (λ_ _=>.n .o) ay.j (λx=>((x.2.1.2.2.2.1.length:Nat):Int)) (λx s=>((I6.wrap (x.1.1+1),s.1),s.2)) (λ_ _=>rfl)
def oM(y:oG.M.X):vH ⊕ oG.R.X:=eC zK ((nC y).2.1.drop (nC y).1.toNat) (nC y).2.2
def YL(y:oG.M.X):Prop:=l6 zK ((nC y).2.1.drop (nC y).1.toNat) (nC y).2.2
abbrev oH:Pt:=⟨68,2,⟨[(6,.d i64)],[.x 3 24 bh,.r 3 3 0]⟩,⟨[],[]⟩,⟨[(4,.d .bool)],[]⟩⟩
abbrev vI:Type:=ap []×dj [.x 3 24 bh,.r 3 3 0]
def Ds(e:aU.q)(s:vI):Fr (vI ⊕ oH.R.X):=
 Jb (bif bif J (((List.length e.2.2.1):Int)>200)then Z else J (((List.length e.2.2.2.1):Int)>200)then Z else J (((List.length e.2.2.2.2.1):Int)>200)) (Jv (.inr ((Y,()),()))) (Jv (.inl ((),(s.2.1.1,()),())))
def sG(x:oH.M.X):Int×List aU.q×vI:=(x.1.1,x.2.1.1,x.1.2,x.2)
def We(x:oH.M.X):Prop:=True
def zij(s:vI):oH.E.X:=((),())
def qp7:vI:=(aY _,cf _)
def La:oH.R.X:=(aY _,cf _)
def zfe:af prog (.loop (au f52 1)) oH.M oH (FL Ds sG We zij Rd.back qp7 La):=
 sQ aL (λ_ _=>.n .o) aU.j (λx=>((x.2.1.1.length:Nat):Int)) (λx s=>((I6.wrap (x.1.1+1),s.1),s.2)) (λ_ _=>rfl)
def H2(y:oH.M.X):vI ⊕ oH.R.X:=eC Ds ((sG y).2.1.drop (sG y).1.toNat) (sG y).2.2
def YM(y:oH.M.X):Prop:=l6 Ds ((sG y).2.1.drop (sG y).1.toNat) (sG y).2.2
def qvi(x:ap [.d aD,.d bh]):Fr (aa [.bool]):=
 let a:=((0,()),x.1,(x.2.1.1,()),());let g:=oM a;let c:=((0,()),((uO (fq tM g)).2.1.1,()),());let b:=H2 ((0,()),((uO (fq tM (eC zK (List.drop (nC a).1.toNat (nC a).2.1) (nC a).2.2))).2.1.1,()),());Jb (bif bif J (((List.length x.1.2.2.2.1):Int)>60)then Z else J (((List.length x.2.1.1):Int)>100)then Z else J (((List.length x.1.2.2.1.2.2.1):Int)>50)) (Jv (Y,())) (Jd (InL (Wd a) (nC a)) (Jd (YL a) (Jb (dV g) (Jd (InL (We c) (sG c)) (Jd (YM c) (Jb (dV b) (Jv (Z,())) (Jv ((e9 La b).1.1,()))))) (Jv ((e9 KZ g).1.1,())))))
def qvj:ag prog 52 (bg [.d aD,.d bh] [.bool] qvi):=
 oc aL zfd zfe
def tX(c:ay.q):Bool:=J (c.2.2.2.2.1.length<=50)
def xz(v:aU.q):Bool:=J (v.2.2.1.length<=200)&&(J (v.2.2.2.1.length<=200)&&J (v.2.2.2.2.1.length<=200))
def pP(h:aD.q)(t:bh.q):Bool:=(J (h.2.2.2.1.length<=60)&&(J (t.1.length<=100)&&J (h.2.2.1.2.2.1.length<=50)))&&(h.2.2.2.1.all tX&&t.1.all xz)
def Ka:Ct:=⟨[.d aD,.d bh],[.bool],λx=>(pP x.1 x.2.1,()),λ_=>[]⟩
def ul(n:Nat)(k:Nat):J ((n:Int)>(k:Int))=!J (n<=k):=by rw[udy];simp only[ucv,ucu,uav];omega
def qsl(e:ay.q)(s:vH):(zK e s).get=if tX e=Z then .inl s else .inr ((Y,()),()):=by show(if J ((e.2.2.2.2.1.length:Int)>(50:Nat))=Z then _ else _)=_;rw[ul];unfold tX;cases J (e.2.2.2.2.1.length<=50)<;>rfl
def qyc(e:aU.q)(s:vI):(Ds e s).get=if xz e=Z then .inl s else .inr ((Y,()),()):=by show(if (bif bif J ((e.2.2.1.length:Int)>(200:Nat))then Z else J ((e.2.2.2.1.length:Int)>(200:Nat))then Z else J ((e.2.2.2.2.1.length:Int)>(200:Nat)))=Z then _ else _)=_;rw[ul,ul,ul];unfold xz;cases J (e.2.2.1.length<=200)<;>cases J (e.2.2.2.1.length<=200)<;>cases J (e.2.2.2.2.1.length<=200)<;>rfl
def Uj(l:List T)(s:σ):iZ (λ_ s=>s) l s=s:=by
 induction l with
 |nil=>rfl
 |cons e r a=>exact a
def qs8:ag prog 52 Ka:=
 conv qvj _ _ (λw F x G A _=>by
  obtain⟨h,t,_⟩:=x;obtain⟨v,C,rfl,B,E,D,rfl,u,_⟩:=A;have y:=aG.wf B.2.2;have p:=aG.wf u.2.2;have o:=yf y.2.2.2.1.1;have l:=yf p.1.1;have g:=tv qsl h.2.2.2.1 ((),(h,(t,())));rw[Js,Uj]at g;have a:oM ((0,()),(h,(t,())))=if h.2.2.2.1.all tX=Z then .inl ((),(h,(t,())))else .inr ((Y,()),()):=g
  have c:=tv qyc t.1 ((),(t,()));rw[Js,Uj]at c;have d:H2 ((0,()),(t,()))=if t.1.all xz=Z then .inl ((),(t,()))else .inr ((Y,()),()):=c
  have z:∀ s,YL s:=λs=>rR (step:=zK) (λe s=>⟨λ_=>uT,λ_=>uT⟩) _ _;have r:∀ s,YM s:=λs=>rR (step:=Ds) (λe s=>⟨λ_=>uT,λ_=>uT⟩) _ _;have k:(bif bif J ((h.2.2.2.1.length:Int)>(60:Nat))then Z else J ((t.1.length:Int)>(100:Nat))then Z else J ((h.2.2.1.2.2.1.length:Int)>(50:Nat)))=!(J (h.2.2.2.1.length<=60)&&(J (t.1.length<=100)&&J (h.2.2.1.2.2.1.length<=50))):=by rw[ul,ul,ul];cases J (h.2.2.2.1.length<=60)<;>cases J (t.1.length<=100)<;>cases J (h.2.2.1.2.2.1.length<=50)<;>rfl
  have f:dV (oM ((0,()),(h,(t,()))))=Z->(uO (fq tM (oM ((0,()),(h,(t,())))))).2.1=t:=by
   rw[a];cases h.2.2.2.1.all tX with
   |true=>exact λ_=>rfl
   |false=>exact λn=>(by cases n)
  have m:dV (oM ((0,()),(h,(t,()))))=Z->(((uO (fq tM (oM ((0,()),(h,(t,())))))).2.1.1.length:Int))<=9223372036854775807:=λn=>by rw[f n];exact l
  refine⟨⟨λ_=>uT,λ_=>⟨⟨uT,ufe _,ub4 _,o⟩,z _,λn=>⟨⟨uT,ufe _,ub4 _,m n⟩,r _,λ_=>uT,λ_=>uT⟩,λ_=>uT⟩⟩,?_⟩;show(if (bif bif J ((h.2.2.2.1.length:Int)>(60:Nat))then Z else J ((t.1.length:Int)>(100:Nat))then Z else J ((h.2.2.1.2.2.1.length:Int)>(50:Nat)))=Z then ((Y,()):Bool×Unit)else
   if dV (oM ((0,()),(h,(t,()))))=Z then (if dV (H2 ((0,()),((uO (fq tM (oM ((0,()),(h,(t,())))))).2.1,())))=Z then (Z,())else ((e9 La (H2 ((0,()),((uO (fq tM (oM ((0,()),(h,(t,())))))).2.1,())))).1.1,()))
   else ((e9 KZ (oM ((0,()),(h,(t,()))))).1.1,()))=(pP h t,())
  rw[k];unfold pP;by_cases b:h.2.2.2.1.all tX=Z;rw[uf0 b]at a;rw[f (by rw[a];rfl),a,d,b];cases (J (h.2.2.2.1.length<=60)&&(J (t.1.length<=100)&&J (h.2.2.1.2.2.1.length<=50)))<;>cases t.1.all xz<;>rfl
  have i:h.2.2.2.1.all tX=false:=by simpa using b
  rw[a,i];cases (J (h.2.2.2.1.length<=60)&&(J (t.1.length<=100)&&J (h.2.2.1.2.2.1.length<=50)))<;>rfl)
def nL(a:Int):List dN.q->Int->Int
 |[],d=>d
 |b::r,d=>if b.1<a then nL a r d else b.2.1
def S3:Ct:=⟨[.d (.sl dN),.d i64],[i64],λx=>(nL x.2.1 x.1 10000,()),λ_=>[]⟩
def qa4:Code->Code
 |.seq _ (.scope c)=>c
 |_=>.skip
def Wt:Code->Code
 |.seq a _=>a
 |_=>.skip
def Eh:Code:=(f195.body.map qa4).getD .skip
def Sn:Code:=(f195.body.map Wt).getD .skip
def So:Code:=(findLabel Eh 0).getD .skip
def qE:LS:=⟨[(0,.d (.sl dN)),(1,.d i64)],[]⟩
def uZ:Pt:=⟨20,0,qE,⟨[],[]⟩,⟨[(4,.d i64)],[]⟩⟩
def Lz(x:qE.X):Fr uZ.Out:=
 match x with
 |((l,a,_),_)=>Jb ((l.length:Int)==0) (Jv (Rd.back ((10000,()),())))
  (Jd (0<=(0:Int)/\(0:Int)<l.length)
   (Jb (J ((l.getD (Int.toNat 0) dN.j).1<a))
    (Jd (0<=(U (1:Int)).getD 0/\(U (1:Int)).getD 0<=(none:Option Int).getD l.length/\(none:Option Int).getD l.length<=l.length)
     (Jv (Rd.next ((List.take ((none:Option Int).getD l.length-(U (1:Int)).getD 0).toNat (List.drop ((U (1:Int)).getD 0).toNat l),a,()),()))))
    (Jd (0<=(0:Int)/\(0:Int)<l.length) (Jv (Rd.back (((l.getD (Int.toNat 0) dN.j).2.1,()),()))))))
def Jg(x:qE.X):Fr uZ.Out:=Jv (.back ((nL x.1.2.1 x.1.1 10000,()),()))
def zmi:iU prog 0 Eh qE uZ Lz:=iU.of_run aL (bs:=0) rfl rfl rfl (λ_=>bm _ 0) (λx=>by kernel_rfl)
def zmj:iU prog 0 So qE uZ Lz:=iU.of_run aL (bs:=0) rfl rfl rfl (λ_=>bm _ 0) (λx=>by kernel_rfl)
def ql0 (l:List dN.q) (a:Int) (Q:uZ.Out->Prop) (c:Q (.back ((nL a l 10000,()),()))) :
  (Lz ((l,a,()),())).s7 λ
   |.next g=>True/\g.1.1.length<l.length/\(Jg g).s7 Q
   |.out y=>Q (.out y)
   |.back z=>Q (.back z)
   |.pan p=>Q (.pan p):=by
 cases l with
 |nil=>exact⟨λ_=>c,λh=>by cases h⟩
 |cons b r=>
  have f:(0:Int)<((b::r).length:Int):=by simp only[uda];omega
  have i:(((b::r).length:Int)==0)=false:=by simp;omega
  refine⟨λh=>(by rw[i]at h;cases h),λ_=>⟨⟨ufe 0,f⟩,λh=>⟨⟨by decide,?_,ufe _⟩,uT,?_,?_⟩,λh=>⟨⟨ufe 0,f⟩,?_⟩⟩⟩;show(1:Int)<=((b::r).length:Int);omega;show(List.take (((b::r).length:Int)-1).toNat r).length<(b::r).length;rw[uc6];omega;show Q (.back ((nL a (List.take (((b::r).length:Int)-1).toNat r) 10000,()),()));have e:List.take (((b::r).length:Int)-1).toNat r=r:=ua3 (by simp);have d:=ucx h;rw[e];have:nL a (b::r) 10000=nL a r 10000:=uf0 d;rw[<- this];exact c;have d:=uch h;have:nL a (b::r) 10000=b.2.1:=uf1 d;rw[this]at c;exact c
def ql1:af prog (.scope Eh) qE uZ Jg:=
 iU.scope (n:=20) (id:=0) (N:=qE) (rest:=So) (by kernel_rfl) zmi zmj (inv:=λ_=>True) (μ:=λx=>x.1.1.length)
  (by rintro⟨⟨l,a,_⟩,_⟩ _ Q b;exact ql0 l a Q b)
  (λ_ _ _=>uT)
def ql2:ag prog 195 S3:=
 dz (VA (run:=vS (cQ prog eN 0 bK Sn 0) (uZ.han eN.Γ qE Jg)) (fn:=f195) (c:=.seq Sn (.scope Eh)) (ps:=[.d (.sl dN),.d i64]) (rs:=[i64])
  (fr:=λx=>Jv (nL x.2.1 x.1 10000,())) ([],0,()) (by kernel_rfl) (by kernel_rfl)
  (λE=>D6 (xl aL (bm _ 0)) (af.run aL rfl ql1)) (λx=>by kernel_rfl)) _ _ (λ_ _ _ _ _ _=>⟨uT,rfl⟩)
def Ck:aU.q:=(0,(0,0,0,0,()),[],[],[],0,())
def cE(a:Int):List aU.q->aU.q×Int
 |[]=>(Ck,7)
 |v::r=>if v.1<=a then (v,0)else cE a r
def Bt(T:Ty)(n:Nat)(x:ap [.d (.sl T)]):Fr (aa [.sl T]):=
 let a:=([]:List T.q);let b:=(a++x.1,());Jd (x.1=[] ->
   (Jb Z (Jv (a,())) (Jd (a.length+x.1.length<=maxLen/\(a.length+x.1.length)*n<=140737488355328) (Jv b))).ok /\
   (Jb Z (Jv (a,())) (Jd (a.length+x.1.length<=maxLen/\(a.length+x.1.length)*n<=140737488355328) (Jv b))).get =
    (Jb Y (Jv (a,())) (Jd (a.length+x.1.length<=maxLen/\(a.length+x.1.length)*n<=140737488355328) (Jv b))).get)
  (Jb Y (Jv (a,())) (Jd (a.length+x.1.length<=maxLen/\(a.length+x.1.length)*n<=140737488355328) (Jv b)))
def mK(T:Ty):Ct:=⟨[.d (.sl T)],[.sl T],λx=>(x.1,()),λx=>[x.1.length<=1000000]⟩
def KJ{T:Ty}(b:n<=1000){l:List T.q}(c:l.length<=1000000):(Bt T n (l,())).ok/\(Bt T n (l,())).get=(l,()):=by
 have a:([]:List T.q).length+l.length<=maxLen/\(([]:List T.q).length+l.length)*n<=140737488355328:=by refine⟨by simp;unfold maxLen;omega,?_⟩;have:(([]:List T.q).length+l.length)*n<=1000000*1000:=uef (by simp;omega) b;omega
 refine aw (λh=>?_) (aN rfl (aw a ⟨uT,rfl⟩));subst h;exact⟨⟨λ_=>uT,λh=>by cases h⟩,rfl⟩
def qom:ag prog 190 (mK dN):=
 dz (aT aL f190 (fr:=Bt dN 16)) _ _
  (λ_ _ x _ _ a=>KJ (by decide) a)
def qon:ag prog 191 (mK i64):=
 dz (aT aL f191 (fr:=Bt i64 8)) _ _
  (λ_ _ x _ _ a=>KJ (by decide) a)
def AW:ag prog 71 (mK ar):=
 dz (aT aL f71 (fr:=Bt ar 40)) _ _
  (λ_ _ x _ _ a=>KJ (by decide) a)
def kE(g:Int->Bool):List Int->Int->Option Int
 |[],_=>V
 |x::r,i=>if g x=Z then U i else kE g r (i+1)
abbrev Br:PT:=.fn [i64] [.bool]
def An:LS:=⟨[(0,.d aP),(1,Br),(7,.d i64),(8,.d i64)],[]⟩
def yG:Pt:=⟨19,0,An,⟨[],[]⟩,⟨[(4,.d i64)],[]⟩⟩
def U9(x:An.X):Fr yG.Out:=
 match x with
 |((l,g,n,i,_),_)=>Jb (J (i<n))
  (Jd (0<=i/\i<l.length)
   (Jb (g (l.getD i.toNat i64.j,())).1 (Jv (Rd.back ((i,()),())))
    (Jv (Rd.next ((l,g,n,I6.wrap (i+1),()),())))))
  (Jv (Rd.out ((),())))
def ww(l:List Int)(n i:Int):Prop:=0<=i/\i<=n/\n=l.length/\n<=9223372036854775807
def Rj(x:An.X):Fr yG.Out:=
 Jd (ww x.1.1 x.1.2.2.1 x.1.2.2.2.1) (Jb (kE (λn=>(x.1.2.1 (n,())).1) (x.1.1.drop x.1.2.2.2.1.toNat) x.1.2.2.2.1).isSome
   (Jv (.back (((kE (λn=>(x.1.2.1 (n,())).1) (x.1.1.drop x.1.2.2.2.1.toNat) x.1.2.2.2.1).getD (-1),()),()))) (Jv (.out ((),()))))
def zmr:af prog (au f241 0) An yG U9:=af.of_run aL (bs:=0) rfl rfl rfl (λ_=>bm _ 0) (λx=>by kernel_rfl)
def zb2 (l:List Int) (g:aa [i64]->aa [.bool]) (n i:Int) (c:ww l n i) (Q:yG.Out->Prop) (a:(Jb (kE (λn=>(g (n,())).1) (l.drop i.toNat) i).isSome (Jv (Rd.back (((kE (λn=>(g (n,())).1) (l.drop i.toNat) i).getD (-1),()),()))) (Jv (Rd.out ((),())))  : Fr yG.Out).s7 Q) :
  (U9 ((l,g,n,i,()),())).s7 λ
   |.next b=>ww b.1.1 b.1.2.2.1 b.1.2.2.2.1/\(b.1.2.2.1-b.1.2.2.2.1).toNat<(n-i).toNat/\(Rj b).s7 Q
   |.out y=>Q (.out y)
   |.back z=>Q (.back z)
   |.pan p=>Q (.pan p):=by
 obtain⟨x,A,t,u⟩:=c;subst t;refine⟨λh=>?_,λh=>?_⟩;have m:i<(l.length:Int):=ucx h;obtain⟨k,rfl⟩:∃ k:Nat,i=k:=⟨i.toNat,by omega⟩;have r:k<l.length:=by omega
 have s:l.getD (k:Int).toNat i64.j=l[k]:=by rw[show(k:Int).toNat=k by omega,uah,uaq r];rfl
 have w:I6.wrap ((k:Int)+1)=k+1:=IntWalk.i64_in _ (by omega);have v:l.drop (k:Int).toNat=l[k]::l.drop (k+1):=by exact(ual r)
 rw[v]at a;dsimp only[Fr.s7];rw[s,w];refine⟨⟨by omega,by omega⟩,λd=>?_,λd=>?_⟩;have:kE (λn=>(g (n,())).1) (l[k]::l.drop (k+1)) k=U (k:Int):=uf0 d;rw[this]at a;exact a.1 rfl;have f:¬ (g (l[k],())).1=true:=by rw[d];decide
 have:kE (λn=>(g (n,())).1) (l[k]::l.drop (k+1)) k=kE (λn=>(g (n,())).1) (l.drop (k+1)) (k+1):=uf1 f;rw[this]at a;have o:ww l l.length ((k:Int)+1):=⟨by omega,by omega,rfl,u⟩;refine⟨o,by omega,o,?_⟩;exact a;have m:¬ i<(l.length:Int):=uch h;have e:l.drop i.toNat=[]:=ua2 (by omega);rw[e]at a;exact a.2 rfl
def zdc:af prog (.loop (au f241 0)) An yG Rj:=by
 refine af.loop zmr (μ:=λx=>(x.1.2.2.1-x.1.2.2.2.1).toNat) ?_ (λx Q h=>h.1);rintro⟨⟨l,g,n,i,_⟩,_⟩ hinv Q hq;exact zb2 l g n i hinv Q hq.2
def Kf:Ct:=⟨[.d aP,Br],[i64],λx=>((kE (λn=>(x.2.1 (n,())).1) x.1 0).getD (-1),()),λ_=>[]⟩
def qzp:ag prog 241 Kf:=
 dz (cZ aL zdc (ps:=[.d aP,Br]) (fr:=λx=>Jd (ww x.1 x.1.length 0) (Jb (kE (λn=>(x.2.1 (n,())).1) x.1 0).isSome (Jv ((kE (λn=>(x.2.1 (n,())).1) x.1 0).getD (-1),())) (Jv (-1,()))))) _ _ (λw F x i c _=>by
  obtain⟨l,g,_⟩:=x;obtain⟨v,f,rfl,e,_⟩:=c;have a:=pg e;have b:ww l l.length 0:=⟨by omega,by omega,rfl,a⟩;refine aw b ?_;cases h:kE (λn=>(g (n,())).1) l 0 with
  |some k=>exact aV rfl ⟨uT,rfl⟩
  |none=>exact aN rfl ⟨uT,rfl⟩)
def Vb(g:Int->Bool):(l:List Int)->(i:Int)->0<=i->J ((kE g l i).getD (-1)>=0)=l.any g
 |[],i,_=>rfl
 |x::r,i,h=>by unfold kE;simp;split;rename_i a;rw[a];simpa using h;rename_i a;rw[Vb g r (i+1) (by omega)];simp at a;rw[a];rfl
def JM:Ct:=⟨[.d aP,Br],[.bool],λx=>(x.1.any λn=>(x.2.1 (n,())).1,()),λ_=>[]⟩
def qe2:Cx:=cx [(241,Kf)] []
def qe3:CxOK prog qe2:=aQ aH ⟨qzp,uT⟩ trivial
def qk6:ag prog 232 JM:=
 dz (aT qe3 f232 (fr:=λx=>Jv (J ((Kf.f (x.1,x.2.1,())).1>=0),())) (ps:=[.d aP,Br])) _ _
  (λ_ _ x _ _ _=>by obtain⟨l,g,_⟩:=x;exact⟨uT,ufz (Vb (λn=>(g (n,())).1) l 0 (ufe 0)) rfl⟩)
def Fu(n:Int):Bool:=bif J (n<0)then Z else J (n>100000)
def JZ:Ct:=⟨[.d i64],[.bool],λx=>(Fu x.1,()),λ_=>[]⟩
def qsi:ag prog 233 JZ:=
 dz (aT aL f233 (fr:=λx=>Jv (Fu x.1,())) (ps:=[.d i64])) _ _ (λ_ _ _ _ _ _=>⟨uT,rfl⟩)
def qsj(l:List Int):(!l.any Fu)=mU l:=by rw[List.not_any_eq_all_not];congr 1;funext n;unfold Fu;rw[udy];by_cases h:n<0;simp[h];omega;simp[h];omega
def qe4:Cx:=cx [(232,JM),(233,JZ)] []
def qe5:CxOK prog qe4:=aQ aH ⟨qk6,qsi,uT⟩ trivial
def qsk:ag prog 214 A0:=
 dz (aT qe5 f214 (fr:=λx=>Jd (∀ (y:aa [i64]),gN [i64] y->True) (Jv (!(JM.f (x.1,λy=>JZ.f (y.1,()),())).1,()))) (ps:=[.d aP])) _ _
  (λ_ _ x _ _ _=>by obtain⟨l,_⟩:=x;exact⟨⟨λ_ _=>uT,uT⟩,ufz (qsj l) rfl⟩)
def sN(v:aU.q):Bool:=
 J (1<=v.1/\v.1<=292194/\0<=v.2.2.2.2.2.1/\v.2.2.2.2.2.1<=1000000000000000/\v.2.2.1.length<=100/\1<=v.2.2.2.1.length/\v.2.2.2.1.length<=100/\v.2.2.2.2.1.length=8) &&
  (mU [v.2.1.1,v.2.1.2.1,v.2.1.2.2.1,v.2.1.2.2.2.1]&&(mU v.2.2.2.1&&(mU v.2.2.2.2.1&&Au v.2.2.1)))
def EE:Ct:=⟨[.d aU],[.bool],λx=>(sN x.1,()),λ_=>[]⟩
def qe6:Cx:=cx [(214,A0),(215,Eu),(190,mK dN),(191,mK i64)] []
def Qw:CxOK prog qe6:=aQ aH ⟨qsk,Sq,qom,qon,uT⟩ trivial
def D9(a b:Int):Bool:=bif bif bif J (a<1)then Z else J (a>292194)then Z else J (b<0)then Z else J (b>1000000000000000)
def DA(n z p:Nat):Bool:=bif bif bif J ((n:Int)>100)then Z else J ((z:Int)<1)then Z else J ((z:Int)>100)then Z else (p:Int) != 8
def Vv(x:ap [.d aU]):Fr (aa [.bool]):=
 Jb (D9 x.1.1 x.1.2.2.2.2.2.1) (Jv (Y,()))
  (Jb (DA x.1.2.2.1.length x.1.2.2.2.1.length x.1.2.2.2.2.1.length) (Jv (Y,()))
   (Jv (bif bif bif (A0.f ([x.1.2.1.1,x.1.2.1.2.1,x.1.2.1.2.2.1,x.1.2.1.2.2.2.1],())).1 then (A0.f (x.1.2.2.2.1,())).1 else Y then (A0.f (x.1.2.2.2.2.1,())).1 else Y then (Eu.f (x.1.2.2.1,())).1 else Y,())))
def zru(a b:Int)(n z p:Nat):(!(D9 a b || DA n z p))=J (1<=a/\a<=292194/\0<=b/\b<=1000000000000000/\n<=100/\1<=z/\z<=100/\p=8):=by
 have c:D9 a b=J (a<1\/a>292194\/b<0\/b>1000000000000000):=by unfold D9;simp;cases J (a<1)<;>cases J (a>292194)<;>cases J (b<0)<;>simp
 have d:DA n z p=J ((n:Int)>100\/(z:Int)<1\/(z:Int)>100\/(p:Int)≠8):=by unfold DA;simp;cases J ((n:Int)>100)<;>cases J ((z:Int)<1)<;>cases J ((z:Int)>100)<;>simp[bne,Bool.beq_eq_decide_eq]
 rw[c,d,udy];simp;omega
def zpu:ag prog 194 EE:=
 dz (aT Qw f194 (fr:=Vv)) _ _
  (λ_ _ x _ _ _=>by
   obtain⟨v,_⟩:=x;unfold sN;rw[<- zru];unfold Vv;cases a:D9 v.1 v.2.2.2.2.2.1 with
   |true=>exact aV rfl ⟨uT,rfl⟩
   |false=>
    refine aN rfl ?_;cases b:DA v.2.2.1.length v.2.2.2.1.length v.2.2.2.2.1.length with
    |true=>exact aV rfl ⟨uT,rfl⟩
    |false=>refine aN rfl ⟨uT,ufz ?_ rfl⟩;show(bif bif bif mU _ then mU _ else Y then mU _ else Y then Au _ else Y)=_;cases mU [v.2.1.1,v.2.1.2.1,v.2.1.2.2.1,v.2.1.2.2.2.1]<;>cases mU v.2.2.2.1<;>cases mU v.2.2.2.2.1<;>rfl)
def DB(v:aU.q):Prop:=v.2.2.1.length<=1000000/\v.2.2.2.1.length<=1000000/\v.2.2.2.2.1.length<=1000000
def qmi:Ct:=⟨[.d aU],[aU],λx=>(x.1,()),λx=>[DB x.1]⟩
def ziy:ag prog 142 qmi:=
 dz (aT Qw f142 (fr:=λx=>Jd (x.1.2.2.1.length<=1000000) (Jd (x.1.2.2.2.1.length<=1000000) (Jd (x.1.2.2.2.2.1.length<=1000000) (Jv (x.1,()))))) (ps:=[.d aU])) _ _
  (λ_ _ x _ _ a=>⟨⟨a.1,a.2.1,a.2.2,uT⟩,rfl⟩)
section
open Go.Shelf
attribute [local go_sem] Oper.semAt_some
def jO(f:Nat->Nat)(k:Nat):List Nat:=(List.range k).map f
def xG(f:Nat->Nat)(k:Nat):jO f (k+1)=jO f k++[f k]:=by simp[jO,ud2]
def FM(f:Nat->Nat)(k:Nat):(jO f k).length=k:=by simp[jO]
def qdw(c:Nat->Nat->Value)(k:Nat):Value:=.agg #[c k 0,c k 1,c k 2,c k 3,c k 4,c k 5,c k 6,c k 7,c k 8]
def qls (n:Nat) (hn:1<=n) (l Bs n₀ b off len cap:Nat) (c:Nat->Nat->Value) (hreach:len<=1000000) (A:Option Addr) (hA:0<len->A=some ⟨b,off,none⟩/\b<n₀) (J Jx:List (Fin len)->World->Prop)
  (hY:∀ pre (k:Fin len) W,J pre W->pre.length<len->YieldAt Fence.wide (n-1) prog l #[.int .i64 ((k.1:Nat):Int),qdw c k.1] W λe W'=>
   (e=.returned (.bool true)/\J (pre++[k]) W'/\cU n₀ Bs Bs W W')\/(e=.returned (.bool false)/\Jx (pre++[k]) W'))
  (W:World) (hBs:W.heap[Bs]?= some (.cells #[.slice A len cap] 22 (0,0))) (hc:∀ k j,k<len->j<9->W.cell? ⟨b,off+(k*9+j),none⟩=some (c k j)) (h0:J [] W) :
  CallsIn Fence.wide n prog 189 #[.func (.yield l) #[] #[],.pointer (some ⟨Bs,0,none⟩)] W λe W'=>(∃ v,e=.returned v) /\
   ((∃ ys:List (Fin len),ys.map Fin.val=jO (λj=>len-1-j) len/\J ys W')\/(∃ pre:List (Fin len),(∃ k,k<=len/\pre.map Fin.val=jO (λj=>len-1-j) k)/\Jx pre W')):=by
 have hro:Fence.wide.round=none:=rfl;refine callsIn_of_wp func189 rfl trivial ?_ hro;simp only[ntmps189,ucq,uda,udm,Nat.reduceAdd,Nat.reduceSub,ubn,ubo,ucy,ubx,udn,uc5];have c0:=cn hBs 0
 gi_wp2
 gi_loopw [3] (λi wr=>∃ (k:Nat) (pre:List (Fin len)),k<=len/\i=.int .i64 ((len:Int)-1-k)/\pre.map Fin.val=jO (λj=>len-1-j) k/\J pre wr/\cU n₀ Bs Bs W wr)
  (λi _=>(intOf i+1).toNat)
 case atStart=>exact⟨0,[],ufj _,by simp,rfl,h0,cU.refl _ _ _ _⟩
 case round=>
  obtain⟨k,pre,hk,rfl,hpre,hJs,hnx⟩:=hrel;have e0:=cn (hnx.2.1.trans hBs) 0;by_cases hlt:k<len
  ·obtain⟨rfl,hb⟩:=hA (by omega);obtain⟨fn,tmps,assign,body,hy,hR⟩:=hY pre ⟨len-1-k,by omega⟩ wr hJs (by have:=ufy List.length hpre;rw[FM,ud3]at this;omega);have hcx:∀ j,j<9->wr.cell? ⟨b,off+(len-1-k)*9+j,none⟩=some (c (len-1-k) j):=λj hj=>by
    rw[uei];exact(hnx.1.cell hb).trans (hc _ j (by omega) hj)
   have x0:=hcx 0 (by omega);have x1:=hcx 1 (by omega);have x2:=hcx 2 (by omega);have x3:=hcx 3 (by omega);have x4:=hcx 4 (by omega);have x5:=hcx 5 (by omega);have x6:=hcx 6 (by omega);have x7:=hcx 7 (by omega);have x8:=hcx 8 (by omega);rw[ue0]at x0;have ek:((len-1-k:Nat):Int)=(len:Int)-1-k:=by omega
   rw[ek]at hy;unfold qdw at hy
   gi_wp2
   refine hR.mono ?_;rintro e W3 (⟨rfl,hJ3,hk3⟩|⟨rfl,hJx3⟩)
   ·gi_wp2
    go_roundw
    case rel=>exact⟨k+1,pre++[⟨len-1-k,by omega⟩],by omega,by simp;omega,by rw[xG,udx,hpre];rfl,hJ3,hnx.trans hk3⟩
    case measure=>simp[intOf];omega
   ·gi_wp2
    refine ue4 (ue5 rfl _ _ _) rfl ?_;exact⟨⟨_,rfl⟩,.inr ⟨_,⟨k+1,by omega,by rw[xG,udx,hpre];rfl⟩,hJx3⟩⟩
  ·obtain rfl:k=len:=by omega
   gi_wp2
   go_end0
   exact⟨⟨_,rfl⟩,.inl ⟨_,hpre,hJs⟩⟩
end
end Go.Proofs.YtdokapnnagbehaaGreat
namespace Go.Ab
open Go Go.RowKit
open Go.Ab.Fr renaming val->Jv,need->Jd,br->Jb
def Ty.plain:Ty->Bool
 |.fm _=>Y
 |.ic _ _=>Y
 |.sl e=>e.plain&&J (0<e.size)
 |.pair a b=>a.plain&&b.plain
 |_=>Z
def Qg:{t:Ty} -> {x:t.q} -> {g:Nat->Value->Prop}->0<t.size->aG w F t x g->∃ j u,g j u
 |.int _,_,_,_,h=>⟨0,_,h.1⟩
 |.bool,_,_,_,h=>⟨0,_,h⟩
 |.str,_,_,_,h=>⟨0,_,h.1⟩
 |.sl _,_,_,_,h=>by obtain⟨A,c,d,_⟩:=h;exact⟨0,_,d⟩
 |.unit,_,_,h,_=>absurd h (by decide)
 |.pair a b,_,_,h,f=>by
  by_cases k:0<a.size;exact Qg k f.1;have l:0<b.size:=by simp only[Ty.size]at h;omega
  obtain⟨j,u,m⟩:=Qg l f.2;exact⟨_,u,m⟩
 |.fm _,_,_,_,h=>by obtain⟨r,i,n,d,_⟩:=h;exact⟨0,_,d⟩
 |.ic _ _,_,_,_,h=>by
  rcases h with ⟨o,u,_,e,_⟩|⟨_,e⟩
  exact⟨0,_,e⟩;exact⟨0,_,e⟩
 |.fc _,_,_,_,h=>by obtain⟨u,d,_⟩:=h;exact⟨0,_,d⟩
def K8{a:Addr}(h:w.cell? a=U u):∃ arr ty p,w.heap[a.block]?= U (.cells arr ty p):=by unfold World.cell? at h;split at h;rename_i arr ty p b;exact⟨arr,ty,p,b⟩;cases h
def aG.only{G:Nat->Prop}(f:∀ b,F b->(∃ arr ty p,w.heap[b]?= U (.cells arr ty p))->G b):{t:Ty} -> {x:t.q} -> {g:Nat->Value->Prop}->t.plain=Z->aG w F t x g->aG w G t x g
 |.int _,_,_,_,h=>h
 |.bool,_,_,_,h=>h
 |.str,_,_,_,h=>h
 |.sl e,_,_,d,h=>by
  obtain⟨A,c,n,o,r,s⟩:=h;simp only[Ty.plain,udd,ucu]at d;refine⟨A,c,n,o,r,λi x C=>?_⟩;obtain⟨k,v,z,m⟩:=s i x C;obtain⟨j,u,B⟩:=Qg d.2 m;have l:=K8 B;have y:(k.add (i*e.size+j)).block=k.block:=by unfold Addr.add;split<;>rfl
  rw[y]at l;exact⟨k,v,f _ z l,aG.only f d.1 m⟩
 |.unit,_,_,_,_=>trivial
 |.pair a b,_,_,d,h=>by simp only[Ty.plain,udd]at d;exact⟨aG.only f d.1 h.1,aG.only f d.2 h.2⟩
 |.fm _,_,_,d,_=>by cases d
 |.ic _ _,_,_,d,_=>by cases d
 |.fc _,_,_,_,h=>h
def bJ.only{G:Nat->Prop}(a:∀ b,F b->(∃ arr ty p,w.heap[b]?= U (.cells arr ty p))->G b){t:Ty}{x:t.q}(c:t.plain=Z)(h:bJ w F t x v):bJ w G t x v:=
 ⟨h.1,h.2.1,h.2.2.only a c⟩
end Go.Ab
namespace Go.Proofs.YtdokapnnagbehaaGreat
open Go Go.Ab Go.RowKit Go.Proofs Go.Shelf Tryz
open Go.Ab.Fr renaming val->Jv,need->Jd,br->Jb
section
attribute [local go_sem] Oper.semAt_some
structure VC where
 p:Nat->Int
 A:Nat->Option Addr
 l:Nat->Nat
 c:Nat->Nat
def iW(d:VC):Array Value:=#[.int .i64 (d.p 0),.int .i64 (d.p 1),.int .i64 (d.p 2),.int .i64 (d.p 3),.int .i64 (d.p 4),.slice (d.A 0) (d.l 0) (d.c 0),.slice (d.A 1) (d.l 1) (d.c 1),.slice (d.A 2) (d.l 2) (d.c 2),.int .i64 (d.p 5)]
def kr(d:VC):Value:=.agg (iW d)
def qdx{x:aU.q}(h:aG w F aU x g):∃ d:VC,(∀ j u,(iW d)[j]?= U u->g j u)/\d.p 0=x.1:=by
 obtain⟨r,⟨f,i,k,l,_⟩,⟨b,m,s,_⟩,⟨c,n,t,_⟩,⟨e,o,v,_⟩,y,_⟩:=h;refine⟨⟨λj=>match j with|0=>x.1|1=>x.2.1.1|2=>x.2.1.2.1|3=>x.2.1.2.2.1|4=>x.2.1.2.2.2.1|_=>x.2.2.2.2.2.1,λj=>match j with|0=>b|1=>c|_=>e,λj=>match j with|0=>x.2.2.1.length|1=>x.2.2.2.1.length|_=>x.2.2.2.2.1.length,λj=>match j with|0=>m|1=>n|_=>o⟩,λj u a=>?_,rfl⟩
 match j,a with
 |0,a=>cases a;exact r.1
 |1,a=>cases a;exact f.1
 |2,a=>cases a;exact i.1
 |3,a=>cases a;exact k.1
 |4,a=>cases a;exact l.1
 |5,a=>cases a;exact s
 |6,a=>cases a;exact t
 |7,a=>cases a;exact v
 |8,a=>cases a;exact y.1
 |j+9,a=>simp[iW]at a
def zrt{x:aU.q}(h:bJ w F aU x v):∃ d:VC,v=kr d/\d.p 0=x.1:=by obtain⟨e,rfl⟩:=h.2.1.1 rfl;have k:=h.1;obtain⟨d,g,f⟩:=qdx h.2.2;refine⟨d,?_,f⟩;congr 1;apply ufs;exact k;intro i a b;have:=g i (iW d)[i] (uam b);have c:e[i]?= U (iW d)[i]:=this;rw[uam a]at c;exact ud4 c
def zY:Array Value:=#[.int .i64 0,.int .i64 0,.int .i64 0,.int .i64 0,.int .i64 0,.slice V 0 0,.slice V 0 0,.slice V 0 0,.int .i64 0]
def RJ(F:Nat->Prop)(x:aU.q)(d:VC)(W e:World):Prop:=
 ∃ c,bJ e c aU x (kr d)/\∀ b,c b->(F b\/W.heap.size<=b)/\∃ a f p,e.heap[b]?= U (.cells a f p)
def ziw{x:aU.q}(k:∀ b,F b->b<w.heap.size)(i:Below w.heap.size w W)(s:bJ w F aU x v)(r:DB x):
  Calls prog 142 #[v] W λe w'=>∃ d,e=.returned (kr d)/\Below W.heap.size W w'/\RJ F x d W w':=by
 have g:=s.mono (λ_ h=>h) (λb h=>i.block b (k b h));refine(ziy.2 W F (x,()) [v] (λb h=>ucb (k b h) i.size) ⟨v,[],rfl,g,rfl⟩ r).mono ?_;rintro e w' ⟨u,l,rfl,c,y,m,n⟩;have a:=n;obtain⟨d,rfl,_⟩:=zrt a;exact⟨d,rfl,c,λb=>l b/\∃ f t p,w'.heap[b]?= U (.cells f t p),a.only (λb h o=>⟨h,o⟩) rfl,λb h=>⟨(m b h.1).1,h.2⟩⟩
structure AtI (w:World) (day:Int) (sv:Value) (fr:Nat->Int) (pre:List (Fin len)) (W:World):Prop where
 x3:Boxed W (w.heap.size+1) 3 (.int .i64 day)
 x4:W.heap[w.heap.size+2]?= some (.cells zY 140 (0,0))
 x5:Boxed W (w.heap.size+3) 47 (.int .i64 0)
 xs:Boxed W (w.heap.size+4) 22 sv
 bel:Below w.heap.size w W
 sz:w.heap.size+5<=W.heap.size
 no:∀ k∈pre,¬ fr k.1<=day
structure AtX (w:World) (F:Nat->Prop) (day:Int) (x:Nat->aU.q) (fr:Nat->Int) (c:Code) (pre:List (Fin len)) (W:World):Prop where
 ret:c=.ret
 res:∃ ini k d F',pre=ini++[k]/\(∀ k∈ini,¬ fr k.1<=day)/\fr k.1<=day/\W.heap[w.heap.size+2]?= some (.cells (iW d) 140 (0,0))/\bJ W F' aU (x k.1) (kr d)/\(∀ b,F' b->(F b\/w.heap.size<=b)/\∃ arr ty p,W.heap[b]?= some (.cells arr ty p))
 x5:Boxed W (w.heap.size+3) 47 (.int .i64 0)
 bel:Below w.heap.size w W
def tu{X i:World}{a:Option Nat}{p:Nat×Nat}(h:X.heap[b]?= U (.cells cs t p))(f:X.grownBy i a)(g:∀ r,a=U r->B<=r/\∃ o:Obj,X.heap[r]?= U o/\o.isCells=Y):i.heap[b]?= U (.cells cs t p):=
 (f.block b (uaf.1 h).1 (λe=>by obtain⟨_,o,c,d⟩:=g b e.symm;rw[h]at c;cases c;cases d)).trans h
def qll{i:Value}{d:Nat->Int}(f:w.heap.size<=B):OwnFrom B (λ(c:List (Fin len)) W=>AtI w day i d c W):=λc X l g h a b=>⟨ku h.x3 a b,tu h.x4 a b,ku h.x5 a b,ku h.xs a b,h.bel.grown a h.bel.size (λk e=>ueq f (b k e).1),ueq h.sz a.size,h.no⟩
def qlm{x:Nat->aU.q}{A:Nat->Int}(C:w.heap.size<=B)(c:Code):OwnFrom B (λ(i:List (Fin len)) W=>AtX w F day x A c i W):=λi X G E h f g=>by refine⟨h.ret,?_,ku h.x5 f g,h.bel.grown f h.bel.size (λk e=>ueq C (g k e).1)⟩;obtain⟨n,k,d,s,t,u,v,y,z,o⟩:=h.res;refine⟨n,k,d,s,t,u,v,tu y f g,z.mono (λ_ h=>h) (λb m=>?_),λb m=>?_⟩;obtain⟨_,a,r,p,l⟩:=o b m;rw[l];exact tu l f g;obtain⟨D,a,r,p,l⟩:=o b m;exact⟨D,a,r,p,tu l f g⟩
def Qm(w0:Nat)(c:Nat->VC)(a:Nat->Nat->Act)(k:Nat)(d:Act)(W:World):Prop:=∃ b,w0<=b/\W.heap[b]?= U (.cells (iW (c k)) 140 (0,0))/\d=a k b
def qli{w0:Nat}{c:Nat->VC}{a:Nat->Nat->Act}(k:Nat)(d:Act):OwnFrom B (λ(_:Unit) W=>Qm w0 c a k d W):=λ_ X n m l h i=>by obtain⟨b,e,f,g⟩:=l;exact⟨b,e,tu f h i,g⟩
def qlu(n:Nat)(A:Option Addr)(b a:Nat)(w:World):
  CallsIn Fence.wide n prog 141 #[.slice A b a] w λe w'=>e=.returned (.func (.func 189) #[] #[.pointer (U ⟨w.heap.size,0,V⟩)])/\w'=w.alloc (.cells #[.slice A b a] 22):=by
 refine callsIn_of_wp func141 rfl trivial ?_ rfl;simp only[ntmps141,ucq,uda,udm,Nat.reduceAdd,Nat.reduceSub,ubn,ubo,ucy,ubx,udn,uc5]
 gi_wp2
 go_ret
 exact⟨rfl,rfl⟩
def qek(w:World)(F:Nat->Prop)(a:Int)(x:Nat->aU.q)(f:Nat->Int)(c:Nat)(e:Ending)(h:World):Prop:=
 (e=.returned (.tuple #[.agg zY,.int .i64 7])/\∀ k,k<c->¬ f k<=a) \/
 ∃ k d g,k<c/\f k<=a/\(∀ j,k<j->j<c->¬ f j<=a)/\e=.returned (.tuple #[kr d,.int .i64 0])/\bJ h g aU (x k) (kr d)/\(∀ b,g b->(F b\/w.heap.size<=b)/\b<h.heap.size)
def qba{v s p n l i f d b:Value}(h:W.heap[B]?= U (.cells #[v,s,p,n,l,i,f,d,b] t (0,0)))(a c e g k m o r u:Value):
  (W.setCells B 0 [a,c,e,g,k,m,o,r,u]).heap[B]?= U (.cells #[a,c,e,g,k,m,o,r,u] t (0,0)):=by
 have w:=uc1 W B 0 _ t a h;rw[show(#[v,s,p,n,l,i,f,d,b]:Array Value).setIfInBounds 0 a = #[a,s,p,n,l,i,f,d,b] from rfl]at w;have x:=uc1 _ B 1 _ t c w;rw[show(#[a,s,p,n,l,i,f,d,b]:Array Value).setIfInBounds 1 c = #[a,c,p,n,l,i,f,d,b] from rfl]at x;have y:=uc1 _ B 2 _ t e x;rw[show(#[a,c,p,n,l,i,f,d,b]:Array Value).setIfInBounds 2 e = #[a,c,e,n,l,i,f,d,b] from rfl]at y;have z:=uc1 _ B 3 _ t g y;rw[show(#[a,c,e,n,l,i,f,d,b]:Array Value).setIfInBounds 3 g = #[a,c,e,g,l,i,f,d,b] from rfl]at z;have A:=uc1 _ B 4 _ t k z;rw[show(#[a,c,e,g,l,i,f,d,b]:Array Value).setIfInBounds 4 k = #[a,c,e,g,k,i,f,d,b] from rfl]at A;have C:=uc1 _ B 5 _ t m A;rw[show(#[a,c,e,g,k,i,f,d,b]:Array Value).setIfInBounds 5 m = #[a,c,e,g,k,m,f,d,b] from rfl]at C;have D:=uc1 _ B 6 _ t o C;rw[show(#[a,c,e,g,k,m,f,d,b]:Array Value).setIfInBounds 6 o = #[a,c,e,g,k,m,o,d,b] from rfl]at D;have E:=uc1 _ B 7 _ t r D;rw[show(#[a,c,e,g,k,m,o,d,b]:Array Value).setIfInBounds 7 r = #[a,c,e,g,k,m,o,r,b] from rfl]at E;have F:=uc1 _ B 8 _ t u E;exact F
def HG{k:Nat}(h:k≠B):(a:List Value)->(o:Nat)->(W:World)->(W.setCells B o a).heap[k]?= W.heap[k]?
 |[],_,_=>rfl
 |v::r,o,W=>(HG h r (o+1) _).trans (uck W _ k v h)
def Pn(h:n<=B):(a:List Value)->(o:Nat)->(W:World)->Below n W (W.setCells B o a)
 |[],_,W=>ufn n W
 |v::r,o,W=>((ufn n W).setCell h v).trans (Pn h r (o+1) _)
def Po:(a:List Value)->(o:Nat)->(W:World)->KeepsOthers W (W.setCells B o a)
 |[],_,W=>KeepsOthers.refl W
 |v::r,o,W=>(KeepsOthers.setCell W _ v).trans (Po r (o+1) _)
def za3(h:Below W.heap.size W W'):KeepsFrom B W W':=
 ⟨h.size,λk o _ a _=>(h.block k (uaf.1 a).1).trans a⟩
def Sk{R:Ending->World->Prop}{D z:Nat}{l m p s t u v w x y A B C E F G H a b c d e f g h i k:Value}{n:Int}(z4:W.heap[z+2]?= U (.cells #[l,m,p,s,t,u,v,w,x] 140 (0,0)))(z5:Boxed W (z+3) 47 (.int .i64 n))(L:W.heap[D]?= U (.deferred (U [])))(hD:z+5<=D)(M:R (.returned (.tuple #[.agg #[l,m,p,s,t,u,v,w,x],.int .i64 n])) (W.putObj D (.deferred V))):
  bodyPostM Fence.wide 8 prog f86 R .ret { tmps:=#[y,A,B,C,.pointer (U ⟨z+1+1,0,V⟩),.pointer (U ⟨z+1+1+1,0,V⟩),E,F,G,H,a,b,c,d,e,f,g,h,i,k],defers:=[{ target:=.collected D,args:=#[] }] } W:=by
 have N:=(World.putObj_heap_other (r:=D) (o:=.deferred V) (by omega)).trans z4;have O:=(World.putObj_heap_other (r:=D) (o:=.deferred V) (by omega)).trans z5;obtain⟨P,Q,S,T,u4,u5,u6,u7,u8⟩:=uM λj _=>cn N j;have K:=cn O 0;refine⟨by simp,.inl ⟨_,_,rfl,run_takeDeferred L,?_⟩⟩;refine⟨.tuple #[.agg #[l,m,p,s,t,u,v,w,x],.int .i64 n],?_,M⟩;simp[results,results86,go_sem,P,Q,S,T,u4,u5,u6,u7,u8,K]
def qlp(b H a t:Nat)(i:Int)(c:Nat->VC)(x:Nat->aU.q)(F:Nat->Prop)(w:World)(hlen:a<=1000000)(A:Option Addr)(hA:0<a->A=U ⟨b,H,V⟩/\b<w.heap.size)(hbF:∀ q,F q->q<w.heap.size)(hc:∀ k j u,k<a->(iW (c k))[j]?= U u->w.cell? ⟨b,H+(k*9+j),V⟩=U u)(z:∀ k W,k<a->Below w.heap.size w W->Calls prog 142 #[kr (c k)] W λe w'=>∃ d,e=.returned (kr d)/\Below W.heap.size W w'/\RJ F (x k) d W w'):
  CallsIn Fence.wide 8 prog 86 #[.agg #[.slice A a t],.int .i64 i] w λe w'=>qek w F i x (λk=>(c k).p 0) a e w'/\Below w.heap.size w w':=by
 refine callsIn_of_wp_marks func86 rfl trivial ?_ rfl;simp only[ntmps86,ucq,uda,udm,Nat.reduceAdd,Nat.reduceSub,ubn,ubo,ucy,ubx,udn,uc5]
 gi_wp2_with (refine⟨uT,?_⟩;gi_at_call 141;refine(qlu _ _ _ _ _).mono ?_;rintro e w' ⟨rfl,rfl⟩)
 let L:List Obj:=[.cells #[.slice A a t] 24,.cells #[.int .i64 i] 3,.cells zY 140,.cells #[.int .i64 0] 47,.cells #[.slice A a t] 22]
 obtain⟨R,hsz,g⟩:=wB L w;show Code.wpIn _ _ _ _ _ _ (mG w L);generalize mG w L=W0 at *;replace hsz:W0.heap.size=w.heap.size+5:=hsz;have q4:=g 4 _ rfl;have hI0:AtI w i (.slice A a t) (λk=>(c k).p 0) ([]:List (Fin a)) W0:=⟨g 1 _ rfl,g 2 _ rfl,g 3 _ rfl,q4,R,by omega,λk hk=>by cases hk⟩;refine wpIn_rangeFunc_ownH rfl (by omega) (gf:=189) (lb:=#[.pointer (U ⟨w.heap.size+1+1+1+1,0,V⟩)]) rfl trivial (enters_of func189 (by kernel_rfl) rfl)
  (α:=Fin a) (encs:=λ(k:Fin a)=>#[.int .i64 ((k.1:Nat):Int),kr (c k.1)]) (Kp:=cU w.heap.size (w.heap.size+4) (w.heap.size+4)) (S:=λys=>ys.map Fin.val=jO (λj=>a-1-j) a) (Sp:=λs=>∃ k,k<=a/\s.map Fin.val=jO (λj=>a-1-j) k) (N:=a) (w0:=W0)
  (λl J Jx W hW _ _ hY h0=>qls 7 (by omega) l (w.heap.size+4) w.heap.size b H a t (λk j=>(iW (c k)).getD j undef) hlen A hA J Jx hY W ((hW.block _ (by omega)).trans q4) (λk j hk hj=>have hb:=(hA (by omega)).2;((hW.mono (by omega)).cell (p:=⟨b,H+(k*9+j),V⟩) hb).trans ((R.cell (p:=⟨b,H+(k*9+j),V⟩) hb).trans (hc k j _ hk (by match j,hj with|0,_|1,_|2,_|3,_|4,_|5,_|6,_|7,_|8,_=>rfl)))) h0)
  (λh k=>h.trans k) (λW l o o' hl ho hoc how=>⟨belowK_b (w:=w) (ufd _) W l o o' (by omega) ho hoc how,World.putObj_heap_other (by omega),World.putObj_heap_other (by omega)⟩) (ufn _ _) (λ_=>rfl)
  (λs W=>AtI w i (.slice A a t) (λk=>(c k).p 0) s W)
  (λcd s W=>AtX w F i x (λk=>(c k).p 0) cd s W)
  (qll (by omega)) (qlm (by omega)) hI0
  (λk a' W=>Qm W0.heap.size c (λk Bx=>{ tmps:=#[.agg #[.slice A a t],.int .i64 i,.pointer (U ⟨w.heap.size,0,V⟩),.pointer (U ⟨w.heap.size+1,0,V⟩),.pointer (U ⟨w.heap.size+1+1,0,V⟩),.pointer (U ⟨w.heap.size+1+1+1,0,V⟩),undef,.pointer (U ⟨Bx,0,V⟩),
   .pointer (U ⟨w.heap.size,0,V⟩),.slice A a t,.func (.func 189) #[] #[.pointer (U ⟨w.heap.size+1+1+1+1,0,V⟩)],.int .i64 (k:Int),kr (c k),undef,undef,undef,undef,undef,undef,undef],defers:=[] }) k.1 a' W)
  (λk a'=>qli k.1 a') ?assign ?body ?done ?stop
 case assign=>
  rintro l s ⟨k,P⟩ W K f hK;unfold kr iW
  gi_wp2
  have hsz1:=f.sz;have hB:=(ufn w.heap.size W).alloc (by have:=f.bel.size;omega) (.cells (iW (c k)) 140);exact hK _ _ ((KeepsOthers.alloc _ _).from _) (cU.below ((ufn _ W).alloc (ufd _) _) f.bel.size (by omega) (by omega))
   ⟨f.x3.alloc _,(udc _ _ _ (by omega)).trans f.x4,f.x5.alloc _,f.xs.alloc _,f.bel.alloc f.bel.size _,by simp;omega,f.no⟩ ⟨W.heap.size,by omega,World.alloc_heap_new W _,rfl⟩
 case body=>
  rintro l s ⟨k,P⟩ a' W hl ⟨r,hr⟩ f ⟨Bx,hBx,bX,rfl⟩ hlt;have bX':=bX;unfold iW at bX';obtain⟨y0,y1,y2,y3,y4,y5,y6,y7,y8⟩:=uM λj _=>cn bX' j;simp at y0 y1 y2 y3 y4 y5 y6 y7 y8;have c3:=f.x3.cell;have C:=z k W P f.bel;unfold kr iW at C;clear bX' hr hc z
  gi_wp2
  refine⟨uT,?_⟩;refine(CallsIn.inRound l (callsIn_wide.2 C)).mono ?_;rintro e v ⟨d,rfl,M,hres⟩;have hsz1:=f.sz;have Q:=(M.block (w.heap.size+2) (by omega)).trans f.x4;have z5:v.heap[w.heap.size+3]?= _:=(M.block (w.heap.size+3) (by omega)).trans f.x5;unfold zY at Q;obtain⟨u0,u1,u2,u3,u4,u5,u6,u7,u8⟩:=uM λj _=>cn Q j;simp at u0 u1 u2 u3 u4 u5 u6 u7 u8;have ff:∀ j,v.frozen? ⟨w.heap.size+2,j,V⟩=false:=λj=>by simp[World.frozen?,Q]
  have g5:=cn z5 0;have h5:v.frozen? ⟨w.heap.size+3,0,V⟩=false:=by simp[World.frozen?,z5]
  gi_wp2
  have y:(c k).p 0<=i:=by assumption
  have s4:=qba Q (.int .i64 (d.p 0)) (.int .i64 (d.p 1)) (.int .i64 (d.p 2)) (.int .i64 (d.p 3)) (.int .i64 (d.p 4)) (.slice (d.A 0) (d.l 0) (d.c 0)) (.slice (d.A 1) (d.l 1) (d.c 1)) (.slice (d.A 2) (d.l 2) (d.c 2)) (.int .i64 (d.p 5));have s5:Boxed (v.setCells (w.heap.size+2) 0 [.int .i64 (d.p 0),.int .i64 (d.p 1),.int .i64 (d.p 2),.int .i64 (d.p 3),.int .i64 (d.p 4),.slice (d.A 0) (d.l 0) (d.c 0),.slice (d.A 1) (d.l 1) (d.c 1),.slice (d.A 2) (d.l 2) (d.c 2),.int .i64 (d.p 5)]) (w.heap.size+3) 47 (.int .i64 0):=(HG (by omega) _ _ _).trans z5;have kk:=Po (B:=w.heap.size+2) [.int .i64 (d.p 0),.int .i64 (d.p 1),.int .i64 (d.p 2),.int .i64 (d.p 3),.int .i64 (d.p 4),.slice (d.A 0) (d.l 0) (d.c 0),.slice (d.A 1) (d.l 1) (d.c 1),.slice (d.A 2) (d.l 2) (d.c 2),.int .i64 (d.p 5)] 0 v;have bb:=Pn (B:=w.heap.size+2) (n:=w.heap.size) (by omega) [.int .i64 (d.p 0),.int .i64 (d.p 1),.int .i64 (d.p 2),.int .i64 (d.p 3),.int .i64 (d.p 4),.slice (d.A 0) (d.l 0) (d.c 0),.slice (d.A 1) (d.l 1) (d.c 1),.slice (d.A 2) (d.l 2) (d.c 2),.int .i64 (d.p 5)] 0 v;have oo:∀ q,q≠w.heap.size+2->(v.setCells (w.heap.size+2) 0 [.int .i64 (d.p 0),.int .i64 (d.p 1),.int .i64 (d.p 2),.int .i64 (d.p 3),.int .i64 (d.p 4),.slice (d.A 0) (d.l 0) (d.c 0),.slice (d.A 1) (d.l 1) (d.c 1),.slice (d.A 2) (d.l 2) (d.c 2),.int .i64 (d.p 5)]).heap[q]?= v.heap[q]? := λq g=>HG g _ _ _;show KeepsFrom _ W ((v.setCells (w.heap.size+2) 0 [.int .i64 (d.p 0),.int .i64 (d.p 1),.int .i64 (d.p 2),.int .i64 (d.p 3),.int .i64 (d.p 4),.slice (d.A 0) (d.l 0) (d.c 0),.slice (d.A 1) (d.l 1) (d.c 1),.slice (d.A 2) (d.l 2) (d.c 2),.int .i64 (d.p 5)]).setCell ⟨w.heap.size+3,0,V⟩ (.int .i64 0))/\AtX w F i x (λk=>(c k).p 0) .ret (s++[⟨k,P⟩]) ((v.setCells (w.heap.size+2) 0 [.int .i64 (d.p 0),.int .i64 (d.p 1),.int .i64 (d.p 2),.int .i64 (d.p 3),.int .i64 (d.p 4),.slice (d.A 0) (d.l 0) (d.c 0),.slice (d.A 1) (d.l 1) (d.c 1),.slice (d.A 2) (d.l 2) (d.c 2),.int .i64 (d.p 5)]).setCell ⟨w.heap.size+3,0,V⟩ (.int .i64 0));generalize v.setCells (w.heap.size+2) 0 [.int .i64 (d.p 0),.int .i64 (d.p 1),.int .i64 (d.p 2),.int .i64 (d.p 3),.int .i64 (d.p 4),.slice (d.A 0) (d.l 0) (d.c 0),.slice (d.A 1) (d.l 1) (d.c 1),.slice (d.A 2) (d.l 2) (d.c 2),.int .i64 (d.p 5)]=W2 at *;obtain⟨F',hF1,hF2⟩:=hres;have bel2:Below w.heap.size w W2:=(f.bel.trans (M.mono f.bel.size)).trans bb;have hne:∀ q,F' q->q≠w.heap.size+2/\q≠w.heap.size+3:=λq g=>by
   have hs0:=f.sz;rcases(hF2 q g).1 with h|h
   have:=hbF q h;omega;omega
  have G:∀ q,F' q->(W2.setCell ⟨w.heap.size+3,0,V⟩ (.int .i64 0)).heap[q]?= v.heap[q]? := λq g=>(uck _ _ q _ (hne q g).2).trans (oo q (hne q g).1);refine⟨(za3 M).trans ((kk.trans (KeepsOthers.setCell _ _ _)).from _),rfl,⟨s,⟨k,P⟩,d,F',rfl,f.no,y,(uck _ _ _ _ (by show w.heap.size+2≠w.heap.size+3;omega)).trans s4,hF1.mono (λ_ h=>h) G,λq g=>?_⟩,s5.set _,bel2.setCell (p:=⟨w.heap.size+3,0,V⟩) (by show w.heap.size<=w.heap.size+3;omega) _⟩;obtain⟨q1,T,ty,p,q2⟩:=hF2 q g;exact⟨q1.elim .inl (λh=>.inr (ueq f.bel.size h)),T,ty,p,(G q g).trans q2⟩;have y:¬ (c k).p 0<=i:=by simp_all
  exact⟨KeepsFrom.refl _ _,cU.refl _ _ _ _,f.x3,f.x4,f.x5,f.xs,f.bel,f.sz,λq g=>(udt.1 g).elim (f.no q) (λe=>by simp at e;subst e;exact y)⟩
 case done=>
  rintro D zs W hD hzs f hK;have Q:=f.x4;have z5:W.heap[w.heap.size+3]?= _:=f.x5;unfold zY at Q;obtain⟨u0,u1,u2,u3,u4,u5,u6,u7,u8⟩:=uM λj _=>cn Q j;simp at u0 u1 u2 u3 u4 u5 u6 u7 u8;have ff:∀ j,W.frozen? ⟨w.heap.size+2,j,V⟩=false:=λj=>by simp[World.frozen?,Q]
  have g5:=cn z5 0;have h5:W.frozen? ⟨w.heap.size+3,0,V⟩=false:=by simp[World.frozen?,z5]
  clear z hc
  gi_wp2
  have s4:=qba Q (.int .i64 0) (.int .i64 0) (.int .i64 0) (.int .i64 0) (.int .i64 0) (.slice V 0 0) (.slice V 0 0) (.slice V 0 0) (.int .i64 0);have s5:Boxed (W.setCells (w.heap.size+2) 0 [.int .i64 0,.int .i64 0,.int .i64 0,.int .i64 0,.int .i64 0,.slice V 0 0,.slice V 0 0,.slice V 0 0,.int .i64 0]) (w.heap.size+3) 47 (.int .i64 0):=(HG (by omega) _ _ _).trans z5;have kk:=(Po (B:=w.heap.size+2) [.int .i64 0,.int .i64 0,.int .i64 0,.int .i64 0,.int .i64 0,.slice V 0 0,.slice V 0 0,.slice V 0 0,.int .i64 0] 0 W).same D _ hK rfl;have bb:=f.bel.trans (Pn (B:=w.heap.size+2) (n:=w.heap.size) (by omega) [.int .i64 0,.int .i64 0,.int .i64 0,.int .i64 0,.int .i64 0,.slice V 0 0,.slice V 0 0,.slice V 0 0,.int .i64 0] 0 W);have kk':=(KeepsOthers.setCell (W.setCells (w.heap.size+2) 0 [.int .i64 0,.int .i64 0,.int .i64 0,.int .i64 0,.int .i64 0,.slice V 0 0,.slice V 0 0,.slice V 0 0,.int .i64 0]) ⟨w.heap.size+3,0,V⟩ (.int .i64 7)).same D _ kk rfl;have bb':=bb.setCell (p:=⟨w.heap.size+3,0,V⟩) (by show w.heap.size<=w.heap.size+3;omega) (.int .i64 7);refine Sk ((uck _ _ _ _ (by show w.heap.size+2≠w.heap.size+3;omega)).trans s4) (s5.set (.int .i64 7)) kk' (by omega) ⟨.inl ⟨rfl,λk hk=>?_⟩,bb'.trans (belowK_b (w:=w) (ufd _) _ D _ _ (by omega) kk' rfl rfl)⟩;have hm:k∈zs.map Fin.val:=by rw[hzs];exact ufa.2 ⟨a-1-k,uea.2 (by omega),by show a-1-(a-1-k)=k;omega⟩
  obtain⟨q,g,rfl⟩:=ufa.1 hm;exact f.no q g
 case stop=>
  rintro D cd s W hD ⟨m,hm,E⟩ h hK;obtain rfl:=h.ret
  gi_wp2
  obtain⟨ini,k,d,F',e1,e2,e3,e4,e5,e6⟩:=h.res;refine Sk e4 h.x5 hK (by omega) ⟨.inr ⟨k.1,d,F',k.2,e3,λj hj1 hj2=>?_,rfl,?_,λq g=>?_⟩,h.bel.trans (belowK_b (w:=w) (ufd _) _ D _ _ (by omega) hK rfl rfl)⟩;subst e1;have hl:=ufy List.length E;rw[FM,ud3,ub6]at hl;obtain rfl:m=ini.length+1:=by simpa using hl.symm
  rw[xG,udx]at E;obtain⟨h2,h3⟩:=List.append_inj' E rfl;have hlast:k.1=a-1-ini.length:=by simpa using h3
  have hin:j∈(ini.map Fin.val):=by rw[h2];exact ufa.2 ⟨a-1-j,uea.2 (by omega),by show a-1-(a-1-j)=j;omega⟩
  obtain⟨q,g,rfl⟩:=ufa.1 hin;exact e2 q g;refine e5.mono (λ_ h=>h) (λq g=>?_);obtain⟨_,T,ty,p,O⟩:=e6 q g;exact World.putObj_heap_other (λe=>by subst e;rw[hK]at O;cases O);obtain⟨h1,T,ty,p,O⟩:=e6 q g;refine⟨h1,?_⟩;have:=(uaf.1 O).1;simpa[World.putObj]using this
end
section
def zrv{l:List aU.q}(h:aG w F (.sl aU) l (λ_ u=>u=v)):
  ∃ (A:Option Addr) (f:Nat) (b off:Nat) (c:Nat->VC),v=.slice A l.length f/\(0<l.length->A=U ⟨b,off,V⟩/\F b) /\
   (∀ k j u,k<l.length->(iW (c k))[j]?= U u->w.cell? ⟨b,off+(k*9+j),V⟩=U u)/\∀ k x,l[k]?= U x->(c k).p 0=x.1/\bJ w F aU x (kr (c k)):=by
 obtain⟨A,f,G,W,H,D⟩:=h;by_cases M:0<l.length;obtain⟨m,K,P,Q⟩:=D 0 l[0] (uaq M);have g:m.spot=none:=by
  have a:w.cell? (m.add (0*aU.size+0))=U (.int .i64 l[0].1):=Q.1.1;have R:m.add (0*aU.size+0)=m:=by simp[Addr.add]
  rw[R]at a;unfold World.cell? at a;split at a;split at a;cases a;rename_i g;cases B:m.spot with
  |none=>rfl
  |some _=>rw[B]at g;exact absurd rfl g
  cases a
 obtain⟨b,off,sp⟩:=m;subst g;have o:∀ k,∃ d:VC,∀ x,l[k]?= U x->(∀ j u,(iW d)[j]?= U u->w.cell? ⟨b,off+(k*9+j),V⟩=U u)/\d.p 0=x.1/\bJ w F aU x (kr d):=by
  intro k;cases z:l[k]? with
  |none=>exact⟨⟨λ_=>0,λ_=>V,λ_=>0,λ_=>0⟩,λx C=>by cases C⟩
  |some x=>
   obtain⟨O,n,_,N⟩:=D k x z;rw[K]at n;cases n;obtain⟨d,L,E⟩:=qdx N;refine⟨d,λy T=>?_⟩;cases T;have i:=λj u s=>by
    have:=L j u s;rw[show aU.size=9 from rfl]at this;have e:(⟨b,off,V⟩:Addr).add (k*9+j)=⟨b,off+(k*9+j),V⟩:=by unfold Addr.add;split<;>simp_all
    rw[e]at this;exact this
   refine⟨i,E,rfl,⟨λ_=>⟨_,rfl⟩,λ_=>rfl⟩,?_⟩;refine N.mono (λ_ h=>h) (λ_ _=>rfl) λj u s S=>?_;have t:=s;have H:=L j (iW d)[j] (uam t);have D:=S.symm.trans H;show(iW d)[j]?= U u;rw[uam t];exact D.symm
 obtain⟨c,r⟩:=Classical.axiomOfChoice o;refine⟨A,f,b,off,c,G.symm,λ_=>⟨K,P⟩,λk j u z s=>(r k l[k] (uaq z)).1 j u s,λk x C=>(r k x C).2⟩;refine⟨A,f,0,0,λ_=>⟨λ_=>0,λ_=>V,λ_=>0,λ_=>0⟩,G.symm,λh=>absurd h M,λk j u z=>absurd z (by omega),λk x C=>?_⟩;have:=(uak.1 C).1;omega
def Qc(c:Int)(b:List aU.q):(a:List aU.q)->(∀ v∈a,¬ v.1<=c)->cE c (a++b)=cE c b
 |[],_=>rfl
 |v::a,h=>by have d:=h v (by simp);have:cE c (v::a++b)=cE c (a++b):=uf1 d;rw[this];exact Qc c b a λx e=>h x (by simp[e])
def zrq{l:List aU.q}(h:∀ v∈l,¬ v.1<=day):cE day l.reverse=(Ck,7):=by have:=Qc day [] l.reverse λv a=>h v (List.mem_reverse.1 a);rw[uds]at this;exact this
def zrr{l:List aU.q}{k:Nat}{x:aU.q}(d:l[k]?= U x)(g:x.1<=day)(h:∀ j y,k<j->l[j]?= U y->¬ y.1<=day):cE day l.reverse=(x,0):=by
 obtain⟨b,rfl⟩:=uak.1 d;have a:l=l.take k++l[k]::l.drop (k+1):=by rw[<- ual b,uba]
 have e:l.reverse=(l.drop (k+1)).reverse++(l[k]::(l.take k).reverse):=by
  conv=>lhs;rw[a]
  simp
 rw[e,Qc];exact uf0 g;intro v f;obtain⟨j,c⟩:=ubs (List.mem_reverse.1 f);rw[ub1]at c;exact h _ v (by omega) c
def bf(t:bh.q):Prop:=t.1.length<=1000000/\∀ v∈t.1,DB v
def Ks:Ct:=⟨[.d bh,.d i64],[aU,i64],λx=>((cE x.2.1 x.1.1.reverse).1,(cE x.2.1 x.1.1.reverse).2,()),λx=>[bf x.1]⟩
def zgt(w:World)(F:Nat->Prop):bJ w F aU Ck (.agg zY):=by
 have a:inR .i64 0:=⟨by decide,by decide⟩;refine⟨rfl,⟨λ_=>⟨_,rfl⟩,λ_=>rfl⟩,⟨rfl,a⟩,⟨⟨rfl,a⟩,⟨rfl,a⟩,⟨rfl,a⟩,⟨rfl,a⟩,uT⟩,?_,?_,?_,⟨rfl,a⟩,uT⟩
 all_goals exact⟨V,0,rfl,ufd _,ufj _,λi x b=>by simp[Ck]at b⟩
def ZQ{x:aU.q}{n:Int}(h:bJ w F aU x u)(a : -9223372036854775808<=n/\n<=9223372036854775807):jF w F [aU,i64] (x,n,()) (.tuple #[u,.int .i64 n]):=
 ⟨_,rfl,_,_,rfl,h,_,_,rfl,⟨rfl,⟨λh=>(by cases h),λ⟨b,h⟩=>(by cases h)⟩,rfl,a⟩,rfl⟩
def zp2:ag prog 86 Ks:=by
 refine⟨enters (fn:=f86) (by kernel_rfl) rfl rfl,λw F xs vs hbd hr hok=>?_⟩;obtain⟨⟨l,ut⟩,day,_⟩:=xs;obtain⟨va,vs',rfl,hva,vb,vs'',rfl,hvb,hn⟩:=hr;cases hn;have hva':bJ w F bh (l,ut) va:=hva;have hvb':bJ w F i64 day vb:=hvb;have hb2:vb=.int .i64 day:=by
  have h:aK prog w F (λ_ _=>True) (eR i64 day) vb:=iH hvb';exact h.2.1
 subst hb2;obtain⟨cs,rfl⟩:=hva'.2.1.1 rfl;have hs:cs.size=1:=hva'.1;obtain⟨hsl,_⟩:aG w F (.sl aU) l (λj u=>cs[j]?= some u)/\True:=⟨hva'.2.2.1,uT⟩;have hcs:cs = #[cs.getD 0 undef]:=by
  apply ufs
  ·simp[hs]
  ·intro i h1 h2;have:i=0:=by omega
   subst this;simp[Array.getD,hs]
 rw[hcs];have hsl':aG w F (.sl aU) l (λ_ u=>u=cs.getD 0 undef):=by
  obtain⟨A,c,h1,h2⟩:=hsl;refine⟨A,c,?_,h2⟩;simp[Array.getD,hs];rw[uam (by omega)]at h1;exact(ud4 h1).symm
 obtain⟨A,cap,b,off,c,e1,hA,hc,hx⟩:=zrv hsl';rw[e1];obtain⟨hfew1,hfew2⟩:bf (l,ut):=hok;have key:=qlp b off l.length cap day c (λk=>l.getD k aU.j) F w hfew1 A (λh=>⟨(hA h).1,hbd b (hA h).2⟩) hbd hc (λk W hk hW=>by
  obtain⟨_,h2⟩:=hx k l[k] (uaq hk);have e:l.getD k aU.j=l[k]:=by rw[uah,uaq hk];rfl
  rw[e];exact ziw hbd hW h2 (hfew2 _ (udj hk)))
 refine(callsIn_wide.1 key).mono ?_;rintro e w' ⟨he,hbel⟩;rcases he with ⟨rfl,hno⟩|⟨k,d,F',hk,hday,hafter,rfl,hrep,hF'⟩
 ·have hv:cE day l.reverse=(Ck,7):=zrq λv hv=>by
   obtain⟨j,hj⟩:=ubs hv;have:=hno j (uak.1 hj).1;dsimp only at this;rw[(hx j v hj).1]at this;exact this
  refine⟨_,F,rfl,hbel,λ_ h=>h,λb hb=>⟨.inl hb,ucb (hbd b hb) hbel.size⟩,?_⟩;show jF w' F [aU,i64] ((cE day l.reverse).1,(cE day l.reverse).2,()) _;rw[hv];exact ZQ (zgt _ _) (n:=7) (by decide)
 ·have hlk:l[k]?= some l[k]:=uaq hk;have hv:cE day l.reverse=(l[k],0):=zrr hlk (by dsimp only at hday;rw[(hx k _ hlk).1]at hday;exact hday) λj y hj hy=>by
   have:=hafter j hj (uak.1 hy).1;dsimp only at this;rw[(hx j y hy).1]at this;exact this
  have e:l.getD k aU.j=l[k]:=by rw[uah,hlk];rfl
  dsimp only at hrep;rw[e]at hrep;refine⟨_,λb=>F b\/F' b,rfl,hbel,λ_ h=>.inl h,λb hb=>?_,?_⟩
  ·rcases hb with h|h
   ·exact⟨.inl h,ucb (hbd b h) hbel.size⟩
   ·exact hF' b h
  ·show jF w' _ [aU,i64] ((cE day l.reverse).1,(cE day l.reverse).2,()) _;rw[hv];exact ZQ (hrep.mono (λ_ h=>.inr h) (λ_ _=>rfl)) (n:=0) (by decide)
attribute [local go_sem] Oper.semAt_some
def qk0(f d b:Nat)(k:Int)(A:Option Addr)(a c:Nat)(w:World)(i:Boxed w f 3 (.int .i64 k))(h:Boxed w d 305 (.slice A a c))(g:Boxed w b 4 (.bool Y)):
  CallsD prog 158 #[.pointer (U ⟨f,0,V⟩),.pointer (U ⟨d,0,V⟩),.pointer (U ⟨b,0,V⟩)] .returning w λe l w'=>l=.returning/\(∃ v,e=.returned v)/\w'=w.setCell ⟨b,0,V⟩ (.bool (J (k=a))):=by
 have m:=i.cell;have n:=h.cell;have o:=g.cell;have p:=g.frozen
 go_enter_d func158,ntmps158
 go_wp2
 go_end0
 exact⟨⟨_,rfl⟩,by rw[Bool.beq_eq_decide_eq]⟩
structure AllI (w:World) (b off cap:Nat) (bs:Nat->Bool) (k:Nat) (W:World):Prop where
 x0:Boxed W w.heap.size 305 (.slice (some ⟨b,off,none⟩) 4 cap)
 x1:Boxed W (w.heap.size+1) 4 (.bool false)
 x2:Boxed W (w.heap.size+2) 3 (.int .i64 k)
 bel:Below w.heap.size w W
 sz:w.heap.size+3<=W.heap.size
 yes:∀ j,j<k->bs j=true
structure FourFn (w:World) (b off:Nat) (g:Nat->Nat) (caps:Nat->Array Value) (bs:Nat->Bool):Prop where
 blk:b<w.heap.size
 cell:∀ k,k<4->w.cell? ⟨b,off+k,none⟩=some (.func (.func (g k)) #[] (caps k))
 enter:∀ k,k<4->∀ args w,(callFunc (g k) args).run prog w=.ok (.enter (g k) args) w
 call:∀ k,k<4->∀ W,Below w.heap.size w W->Calls prog (g k) (caps k) W λe W'=>e=.returned (.bool (bs k))/\Below W.heap.size W W'
def Sa{w W: World}{b u a: Nat}{E: Nat -> Bool}{k: Nat}{r: Bool}{y z A B C D g h i l m n o s t: Value}(d : AllI w b u a E k W)(F : J ((k : Int)=(4 : Nat)) = r):
    bodyPostD prog f98 (λe w' => e=.returned (.bool r) /\ Below w.heap.size w w') .ret
      { tmps := #[y, .pointer (U ⟨w.heap.size, 0, V⟩), .pointer (U ⟨w.heap.size + 1, 0, V⟩), .pointer (U ⟨w.heap.size + 1 + 1, 0, V⟩), z, A, .func (.func 158) #[] #[.pointer (U ⟨w.heap.size + 1 + 1, 0, V⟩), .pointer (U ⟨w.heap.size, 0, V⟩), .pointer (U ⟨w.heap.size + 1, 0, V⟩)], B, C, D, g, h, i, l, m, n, o, s, t],
        defers := [{ target := .fn (.func 158) #[.pointer (U ⟨w.heap.size + 1 + 1, 0, V⟩), .pointer (U ⟨w.heap.size, 0, V⟩), .pointer (U ⟨w.heap.size + 1, 0, V⟩)], args := #[] }] } W := by
  refine ufi (f := 158) (args := #[.pointer (U ⟨w.heap.size + 2, 0, V⟩), .pointer (U ⟨w.heap.size, 0, V⟩), .pointer (U ⟨w.heap.size + 1, 0, V⟩)]) (by simp) (by simp[go_sem]) ?_
  refine(qk0 (w.heap.size + 2) w.heap.size (w.heap.size + 1) k _ 4 a W d.x2 d.x0 d.x1).mono ?_
  rintro e H G ⟨rfl, ⟨v, rfl⟩, rfl⟩
  have c := (d.x1.set (.bool (J ((k : Int)=(4 : Nat))))).cell
  have x := d.bel.setCell (p := ⟨w.heap.size + 1, 0, V⟩) (by show w.heap.size <= w.heap.size + 1;omega) (.bool (J ((k : Int)=(4 : Nat))))
  rw[F]at c x |-
  refine⟨.bool r, ?_, rfl, x⟩
  simp[results, results98, go_sem, c]
def qk2(b off cap : Nat)(g : Nat -> Nat)(caps : Nat -> Array Value)(bs : Nat -> Bool)(w : World)(h : FourFn w b off g caps bs):
    Calls prog 98 #[.slice (some ⟨b, off, none⟩) 4 cap] w λe w' => e=.returned (.bool (bs 0 && (bs 1 && (bs 2 && bs 3)))) /\ Below w.heap.size w w' := by
  have hmf : ∀ (fn : Fn) (first cap : Array Value) (w : World), (Instr.makeFunc fn first cap).run prog w=.ok (.func fn first cap) w := λ_ _ _ _ => rfl
  go_enter_defers func98, ntmps98
  go_wp2
  have z0 := (udc ((w.alloc (.cells #[.slice (some ⟨b, off, none⟩) 4 cap] 305)).alloc (.cells #[.bool false] 4)) (.cells #[.int .i64 0] 3) w.heap.size (by simp only[udh];omega)).trans ((udc _ _ _ (by simp only[udh];omega)).trans (World.alloc_heap_new w (.cells #[.slice (some ⟨b, off, none⟩) 4 cap] 305)))
  have z1' := World.alloc_heap_new (w.alloc (.cells #[.slice (some ⟨b, off, none⟩) 4 cap] 305)) (.cells #[.bool false] 4)
  rw[udh]at z1'
  have z1 := (udc ((w.alloc (.cells #[.slice (some ⟨b, off, none⟩) 4 cap] 305)).alloc (.cells #[.bool false] 4)) (.cells #[.int .i64 0] 3) (w.heap.size + 1) (by simp only[udh];omega)).trans z1'
  have z2 : (((w.alloc (.cells #[.slice (some ⟨b, off, none⟩) 4 cap] 305)).alloc (.cells #[.bool false] 4)).alloc (.cells #[.int .i64 0] 3)).heap[w.heap.size + 2]?= some (.cells #[.int .i64 0] 3 (0, 0)) := by
    have := World.alloc_heap_new ((w.alloc (.cells #[.slice (some ⟨b, off, none⟩) 4 cap] 305)).alloc (.cells #[.bool false] 4)) (.cells #[.int .i64 0] 3)
    rwa [udh, udh]at this
  have hbel : Below w.heap.size w (((w.alloc (.cells #[.slice (some ⟨b, off, none⟩) 4 cap] 305)).alloc (.cells #[.bool false] 4)).alloc (.cells #[.int .i64 0] 3)) := (((ufn _ w).alloc (ufd _) _).alloc (by simp) _).alloc (by simp;omega) _
  have hsz : (((w.alloc (.cells #[.slice (some ⟨b, off, none⟩) 4 cap] 305)).alloc (.cells #[.bool false] 4)).alloc (.cells #[.int .i64 0] 3)).heap.size = w.heap.size + 3 := by simp
  have hI0 : AllI w b off cap bs 0 (((w.alloc (.cells #[.slice (some ⟨b, off, none⟩) 4 cap] 305)).alloc (.cells #[.bool false] 4)).alloc (.cells #[.int .i64 0] 3)) := ⟨z0, z1, z2, hbel, by omega, λj hj => by omega⟩
  go_loopw [9] (λi wr => ∃ k : Nat, k <= 4 /\ i=.int .i64 k /\ AllI w b off cap bs k wr)
    (λi _ => 4 - (intOf i).toNat)
  case atStart => exact⟨0, by omega, rfl, hI0⟩
  case round =>
    obtain⟨k, hk, rfl, hi⟩ := hrel
    by_cases hlt : k < 4
    · have hc : wr.cell? ⟨b, off + k, none⟩ = some (.func (.func (g k)) #[] (caps k)) := (hi.bel.cell (p := ⟨b, off + k, none⟩) h.blk).trans (h.cell k hlt)
      have he := h.enter k hlt
      have c2 := hi.x2.cell
      have f2 := hi.x2.frozen
      go_wp2
      refine(h.call k hlt wr hi.bel).mono ?_
      rintro e w1 ⟨rfl, hb1⟩
      have hs := hi.sz
      have y0 : Boxed w1 _ _ _ := (hb1.block _ (by omega)).trans hi.x0
      have y1 : Boxed w1 _ _ _ := (hb1.block (w.heap.size + 1) (by omega)).trans hi.x1
      have y2 : Boxed w1 _ _ _ := (hb1.block (w.heap.size + 2) (by omega)).trans hi.x2
      have hi1 : AllI w b off cap bs k w1 := ⟨y0, y1, y2, hi.bel.trans (hb1.mono hi.bel.size), ueq hi.sz hb1.size, hi.yes⟩
      have d2 := y2.cell
      have e2 := y2.frozen
      clear hc he c2 f2
      cases hbk : bs k with
      | false =>
        go_wp2
        refine Sa hi1 ?_
        have h4 : ¬ ((k : Int)=(4 : Nat)) := by omega
        rw[udw h4]
        have : k = 0 \/ k = 1 \/ k = 2 \/ k = 3 := by omega
        rcases this with rfl | rfl | rfl | rfl <;> rw[hbk] <;> simp
      | true =>
        go_wp2
        go_roundw
        case rel => exact⟨k + 1, by omega, by simp, y0.other (by omega) _, y1.other (by omega) _, y2.set _, hi1.bel.setCell (p := ⟨w.heap.size + 2, 0, none⟩) (by show w.heap.size <= w.heap.size + 2;omega) _, by simp;exact hi1.sz, λj hj => by
          by_cases hjk : j = k
          · rw[hjk];exact hbk
          · exact hi.yes j (by omega)⟩
        case measure => simp[intOf];omega
    · obtain rfl : k = 4 := by omega
      go_wp2
      refine Sa hi ?_
      rw[hi.yes 0 (by omega), hi.yes 1 (by omega), hi.yes 2 (by omega), hi.yes 3 (by omega)]
      rfl
end
section
open Go.Shelf
attribute [local go_sem] Oper.semAt_some
def qe7:Cx:=cx [(100,lg),(102,qV),(104,qX),(106,Az)] []
def DI:CxOK prog qe7:=aQ aH ⟨OQ,XW,OV,qcu,uT⟩ trivial
def tq(k:Nat)(t:dF.q):Bool:=match k with
 |0=>(lg.f (t.1,())).1
 |1=>bif J ((qV.f (t.1,())).1>=1)then J ((qV.f (t.1,())).1<=1100)else Y
 |2=>(qX.f (t.2.1,())).1
 |_=>(Az.f (t.2.2.1,())).1
def AD(k:Nat):Ct:=⟨[.ptr dF],[.bool],λx=>(tq k x.1,()),λ_=>[]⟩
def zqj:ag prog 99 (AD 0):=
 dz (aT DI f99 (fr:=λx=>Jv (tq 0 x.1,())) (ps:=[.ptr dF]) (rs:=[.bool])) _ _ (λ_ _ _ _ _ _=>⟨uT,rfl⟩)
def zqk:ag prog 101 (AD 1):=
 dz (aT DI f101 (fr:=λx=>Jv (tq 1 x.1,())) (ps:=[.ptr dF]) (rs:=[.bool])) _ _ (λ_ _ _ _ _ _=>⟨uT,rfl⟩)
def zql:ag prog 103 (AD 2):=
 dz (aT DI f103 (fr:=λx=>Jv (tq 2 x.1,())) (ps:=[.ptr dF]) (rs:=[.bool])) _ _ (λ_ _ _ _ _ _=>⟨uT,rfl⟩)
def zqm:ag prog 105 (AD 3):=
 dz (aT DI f105 (fr:=λx=>Jv (tq 3 x.1,())) (ps:=[.ptr dF]) (rs:=[.bool])) _ _ (λ_ _ _ _ _ _=>⟨uT,rfl⟩)
def eM:Nat->Nat
 |0=>99
 |1=>101
 |2=>103
 |_=>105
def qc5:(k:Nat)->k<4->ag prog (eM k) (AD k)
 |0,_=>zqj
 |1,_=>zqk
 |2,_=>zql
 |3,_=>zqm
 |n+4,h=>absurd h (by omega)
def zqn{b:Int}(g:fp (a,b,())=Z):mw (a,b,())=Z/\J (b-a>=1)=true:=by obtain⟨d,e,f⟩:=oe.1 g;refine⟨?_,?_⟩;have c:a<=b:=uev e;simp only[mw,udd,ucu];exact⟨d,c,f⟩;simp;omega
def zp9(t:dF.q):(tq 0 t&&(tq 1 t&&(tq 2 t&&tq 3 t)))=i9 t:=by
 obtain⟨⟨a,b,_⟩,r,g,_⟩:=t;show(mw (a,b,())&&((bif J (uI a b>=1)then J (uI a b<=1100)else Y)&&(qp r.1 r.2.1 r.2.2.1 r.2.2.2.1&&ky g)))=(fp (a,b,())&&(J (b-a<=1100)&&(qp r.1 r.2.1 r.2.2.1 r.2.2.2.1&&ky g)));by_cases c:fp (a,b,())=Z;have f:uI a b=b-a:=uf0 c;obtain⟨h,e⟩:=zqn c;rw[f,h,c,e];rfl;have f:uI a b=0:=uf1 c;have d:fp (a,b,())=false:=by simpa using c
 rw[f,d];simp
def zp7 (d f g h i k l:Value) (R:Ending->World->Prop) (w:World)
  (c:∀ a,Calls prog 98 #[.slice (U ⟨w.heap.size+1,0,V⟩) 4 a] ((w.alloc (.cells #[d,f,g,h,i,k,l] 36)).alloc (.cells #[.func (.func (eM 0)) #[] #[.pointer (U ⟨w.heap.size,0,V⟩)],.func (.func (eM 1)) #[] #[.pointer (U ⟨w.heap.size,0,V⟩)],.func (.func (eM 2)) #[] #[.pointer (U ⟨w.heap.size,0,V⟩)],.func (.func (eM 3)) #[] #[.pointer (U ⟨w.heap.size,0,V⟩)]] 29)) R)
  (n:∀ e w',R e w'->∃ r,e=.returned (.bool r)) :
  Calls prog 66 #[.agg #[d,f,g,h,i,k,l]] w R:=by
 have o:∀ (m:Fn) (first a:Array Value) (w:World),(Instr.makeFunc m first a).run prog w=.ok (.func m first a) w:=λ_ _ _ _=>rfl
 go_enter func66,ntmps66
 go_wp2_with (go_at_call 98;refine(c 4).mono ?_;rintro e w' b;obtain⟨r,rfl⟩:=n e w' b)
 exact b
def PH:ag prog 66 t7:=by
 refine⟨enters (fn:=f66) (by kernel_rfl) rfl rfl,λw F xs vs r O _=>?_⟩;obtain⟨t,_⟩:=xs;obtain⟨va,vs',rfl,E,N⟩:=O;cases N;have a:bJ w F dF t va:=E;obtain⟨c,rfl⟩:=a.2.1.1 rfl;have P:c.size=7:=a.1;obtain⟨d,f,g,l,m,n,o,rfl⟩:∃ d f g l m n o,c = #[d,f,g,l,m,n,o]:=by
  refine⟨c[0],c[1],c[2],c[3],c[4],c[5],c[6],?_⟩;apply ufs;simp[P];intro i h1 h2;have:i<7:=by omega
  match i,this with
  |0,_|1,_|2,_|3,_|4,_|5,_|6,_=>rfl
 have Q:((w.alloc (.cells #[d,f,g,l,m,n,o] 36)).alloc (.cells #[.func (.func (eM 0)) #[] #[.pointer (U ⟨w.heap.size,0,V⟩)],.func (.func (eM 1)) #[] #[.pointer (U ⟨w.heap.size,0,V⟩)],.func (.func (eM 2)) #[] #[.pointer (U ⟨w.heap.size,0,V⟩)],.func (.func (eM 3)) #[] #[.pointer (U ⟨w.heap.size,0,V⟩)]] 29)).heap.size=w.heap.size+2:=by simp
 have z0:=(udc (w.alloc (.cells #[d,f,g,l,m,n,o] 36)) (.cells #[.func (.func (eM 0)) #[] #[.pointer (U ⟨w.heap.size,0,V⟩)],.func (.func (eM 1)) #[] #[.pointer (U ⟨w.heap.size,0,V⟩)],.func (.func (eM 2)) #[] #[.pointer (U ⟨w.heap.size,0,V⟩)],.func (.func (eM 3)) #[] #[.pointer (U ⟨w.heap.size,0,V⟩)]] 29) w.heap.size (by simp only[udh];omega)).trans (World.alloc_heap_new w (.cells #[d,f,g,l,m,n,o] 36));have H:=World.alloc_heap_new (w.alloc (.cells #[d,f,g,l,m,n,o] 36)) (.cells #[.func (.func (eM 0)) #[] #[.pointer (U ⟨w.heap.size,0,V⟩)],.func (.func (eM 1)) #[] #[.pointer (U ⟨w.heap.size,0,V⟩)],.func (.func (eM 2)) #[] #[.pointer (U ⟨w.heap.size,0,V⟩)],.func (.func (eM 3)) #[] #[.pointer (U ⟨w.heap.size,0,V⟩)]] 29);have s:Below w.heap.size w ((w.alloc (.cells #[d,f,g,l,m,n,o] 36)).alloc (.cells #[.func (.func (eM 0)) #[] #[.pointer (U ⟨w.heap.size,0,V⟩)],.func (.func (eM 1)) #[] #[.pointer (U ⟨w.heap.size,0,V⟩)],.func (.func (eM 2)) #[] #[.pointer (U ⟨w.heap.size,0,V⟩)],.func (.func (eM 3)) #[] #[.pointer (U ⟨w.heap.size,0,V⟩)]] 29)):=((ufn _ w).alloc (ufd _) _).alloc (by simp) _;refine(zp7 d f g l m n o (λe z=>e=.returned (.bool (i9 t))/\Below w.heap.size w z) w (λA=>?_) (λe z h=>⟨_,h.1⟩)).mono ?_;rw[udh]at H;generalize ((w.alloc (.cells #[d,f,g,l,m,n,o] 36)).alloc (.cells #[.func (.func (eM 0)) #[] #[.pointer (U ⟨w.heap.size,0,V⟩)],.func (.func (eM 1)) #[] #[.pointer (U ⟨w.heap.size,0,V⟩)],.func (.func (eM 2)) #[] #[.pointer (U ⟨w.heap.size,0,V⟩)],.func (.func (eM 3)) #[] #[.pointer (U ⟨w.heap.size,0,V⟩)]] 29))=G at *;have M:FourFn G (w.heap.size+1) 0 eM (λ_=>#[.pointer (U ⟨w.heap.size,0,V⟩)]) (λk=>tq k t):=by
  refine⟨by omega,λk x=>?_,λk x=>(qc5 k x).1,λk x W B=>?_⟩;rw[uez,cn H k]
  match k,x with
  |0,_|1,_|2,_|3,_=>rfl
  have T:W.heap[w.heap.size]?= _:=(B.block _ (by omega)).trans z0;have y:aG W (λb=>F b\/b=w.heap.size) dF t (λj u=>W.cell? ((⟨w.heap.size,0,V⟩:Addr).add j)=U u):=by
   refine a.2.2.mono (λ_ h=>.inl h) (λb p=>(B.block b (by have:=r b p;omega)).trans (s.block b (r b p))) λj u _ R=>?_;have e:(⟨w.heap.size,0,V⟩:Addr).add j=⟨w.heap.size,j,V⟩:=by unfold Addr.add;split<;>simp_all
   rw[e,cn T j];exact R
  refine((qc5 k x).2 W (λb=>F b\/b=w.heap.size) (t,()) [.pointer (U ⟨w.heap.size,0,V⟩)] (λb p=>?_) ⟨_,[],rfl,⟨⟨w.heap.size,0,V⟩,rfl,.inr rfl,y⟩,rfl⟩ trivial).mono ?_;have:=B.size;rcases p with h|h
  have:=r b h;omega;omega;rintro e L ⟨v,K,rfl,C,_,_,S⟩;have D:aK prog L K (λ_ _=>True) (eR .bool (tq k t)) v:=iH S;exact⟨by rw[show v=.bool (tq k t) from D.2],C⟩
 refine(qk2 (w.heap.size+1) 0 A eM _ (λk=>tq k t) G M).mono ?_;rintro e z ⟨rfl,p⟩;rw[zp9];exact⟨rfl,s.trans (p.mono (by omega))⟩;rintro e z ⟨rfl,p⟩;exact⟨_,F,rfl,p,λ_ h=>h,λb h=>⟨.inl h,ucb (r b h) p.size⟩,rfl,⟨λh=>(by cases h),λ⟨c,h⟩=>(by cases h)⟩,rfl⟩
end
section
attribute [local go_sem] Oper.semAt_some
abbrev AT:List (Int×Nat):=[(1,160),(2,161),(3,162),(4,163)]
def DR(w:World)(r:Nat)(c:List (Int×Nat)):Prop:=∃ a b,w.heap[r]?= U (.map a b)/\a.toList.map (λe=>(e.key,e.val))=c.map (λx=>(Value.int .i64 x.1,Value.func (.func x.2) #[] #[]))
def Gw{kt et:TypeId}{r f:Nat}{es:List (Int×Nat)}{n:Int}(ht:P.underlying t=some (.map kt et))(hk:P.underlying kt=some (.int .i64))(h:DR w r es)(hn:es.find? (λx=>x.1==n)=none):
  ∃ w',(Instr.mapUpdate t (.map (some r)) (.int .i64 n) (.func (.func f) #[] #[])).run P w=.ok () w'/\DR w' r (es++[(n,f)])/\w'.heap.size=w.heap.size/\(∀ b,b≠r->w'.heap[b]?= w.heap[b]?)/\w'.os=w.os/\w'.tape=w.tape/\w'.output=w.output:=by
 obtain⟨arr,ck,hr,he⟩:=h;obtain⟨j,hj⟩:=Ml arr.toList es 0 he;rw[hn]at hj;have hck:(Instr.checkKey false 10000 kt (.int .i64 n)).run P w=.ok () w:=Fc hk false 9999 n;have hob:(getObj r).run P w=.ok (.map arr ck) w:=by simp[getObj,Sem.run,hr]
 have hlt:=(uaf.1 hr).1;refine⟨{ w with heap:=w.heap.setIfInBounds r (.map (arr.push { key:=.int .i64 n,val:=.func (.func f) #[] #[],born:=ck }) (ck+1)) },?_,?_,?_,?_,rfl,rfl,rfl⟩
 ·simp[Instr.mapUpdate,ud6 ht,hob,hck,Instr.findKey,ud6 hk,hj,Go.MapKept.run_setObj_map _ hr]
 ·refine⟨_,_,by simp[hlt];exact⟨rfl,rfl⟩,?_⟩;simp[he]
 ·simp
 ·intro b hb;simp[Ne.symm hb]
def Ix:prog.underlying 237=U (.map 3 172):=by kernel_rfl
def Iy:prog.underlying 3=U (.int .i64):=by kernel_rfl
def qn0(w:World):Calls prog 107 #[] w λe w'=>e=.returned (.map (U w.heap.size))/\DR w' w.heap.size AT/\Below w.heap.size w w'/\w'.heap.size=w.heap.size+1:=by
 have y:=@run_makeMap prog;have G:DR (w.alloc (.map #[] 0)) w.heap.size []:=⟨#[],0,by show(w.heap.push _)[w.heap.size]?= _;exact Array.getElem?_push_size,rfl⟩
 go_enter func107,ntmps107
 obtain⟨N,H,z,c,o1,i,o,t⟩:=Gw (n:=1) (f:=160) Ix Iy G rfl;obtain⟨O,K,A,d,D,k,p,u⟩:=Gw (n:=2) (f:=161) Ix Iy z rfl;obtain⟨P,L,B,g,E,l,r,v⟩:=Gw (n:=3) (f:=162) Ix Iy A rfl;obtain⟨Q,M,C,h,F,m,s,x⟩:=Gw (n:=4) (f:=163) Ix Iy B rfl
 go_wp2
 go_ret
 refine⟨rfl,C,⟨?_,?_,?_,?_,?_⟩,?_⟩;rw[m,l,k,i];rfl;rw[s,r,p,o];rfl;rw[x,v,u,t];rfl;rw[h,g,d,c,World.alloc,Array.size_push];omega;intro b a;rw[F b (by omega),E b (by omega),D b (by omega),o1 b (by omega),World.alloc];rw[Array.getElem?_push_lt a,uam a];rw[h,g,d,c,World.alloc,Array.size_push]
def S5:Ct:=⟨[],[.fm AT],λ_=>((),()),λ_=>[]⟩
def qnz:ag prog 107 S5:=by refine⟨enters (fn:=f107) (by kernel_rfl) rfl rfl,λw F p m g d _=>?_⟩;have l:m=[]:=d;subst l;refine(qn0 w).mono ?_;rintro e o ⟨rfl,⟨c,f,d,i⟩,a,k⟩;refine⟨_,λb=>F b\/b=w.heap.size,rfl,a,λb h=>.inl h,λb h=>⟨h.elim .inl (λh=>.inr (by omega)),h.elim (λh=>by have:=g b h;omega) (λh=>by omega)⟩,?_⟩;refine⟨rfl,⟨λh=>(by cases h),λ⟨n,h⟩=>(by cases h)⟩,w.heap.size,c,f,rfl,.inr rfl,d,i⟩
end
def qe0:Cx:=cx [(107,S5),(108,wL),(160,JP),(161,JQ),(162,JR),(163,JS)] []
def qe1:CxOK prog qe0:=aQ aH ⟨qnz,TL,qof,qog,qoh,qoi,uT⟩ trivial
def tF(c:ay.q):Bool:=bif bif (AT.find? (λx=>x.1==c.2.2.1)).isSome then (wL.f (c.1,())).1 else Y then (wL.f (c.2.1,())).1 else Y
def MF(x:ap [.d ay]):Fr (aa [.bool]):=
 let a:=x.1.2.2.1;Jd (tF x.1=Z->a=1->True)
  (Jd (tF x.1=Z->a≠1->(a=2->True)/\(a≠2->(a=3->True)/\(a≠3->a=4)))
   (Jv (bif tF x.1 then (bif a==1 then JP.f (x.1,())else bif a==2 then JQ.f (x.1,())else bif a==3 then JR.f (x.1,())else JS.f (x.1,())).1 else Y,())))
def qn3(k:Int):(AT.find? (λx=>x.1==k)).isSome=J (k=1\/k=2\/k=3\/k=4):=by rw[udy];simp only[List.find?_isSome,AT,uej,List.not_mem_nil,or_false,ufm,ucu];constructor;rintro⟨x,rfl|rfl|rfl|rfl,h⟩;exact .inl h.symm;exact .inr (.inl h.symm);exact .inr (.inr (.inl h.symm));exact .inr (.inr (.inr h.symm));rintro(h|h|h|h);exact⟨(1,160),.inl rfl,h.symm⟩;exact⟨(2,161),.inr (.inl rfl),h.symm⟩;exact⟨(3,162),.inr (.inr (.inl rfl)),h.symm⟩;exact⟨(4,163),.inr (.inr (.inr rfl)),h.symm⟩
def qnx(c:ay.q):(MF (c,())).ok/\(MF (c,())).get=(fk c,()):=by
 have hk:=qn3 c.2.2.1;have hg:tF c=true->c.2.2.1=1\/c.2.2.1=2\/c.2.2.1=3\/c.2.2.1=4:=by
  intro h;unfold tF at h;rw[hk]at h;by_cases hd:c.2.2.1=1\/c.2.2.1=2\/c.2.2.1=3\/c.2.2.1=4;exact hd;rw[udw hd]at h;cases h
 refine⟨⟨λ_ _=>uT,λh hn=>⟨λ_=>uT,λh2=>⟨λ_=>uT,λh3=>?_⟩⟩,uT⟩,?_⟩;rcases hg h with h1|h1|h1|h1
 exact absurd h1 hn;exact absurd h1 h2;exact absurd h1 h3;exact h1;show(bif tF c then (bif c.2.2.1==1 then (KD c,())else bif c.2.2.1==2 then (KE c,())else bif c.2.2.1==3 then (KF c,())else (KG c,())).1 else false,())=(fk c,());unfold tF fk G8;rw[hk];show((bif bif bif _ then jo c.1 else false then jo c.2.1 else false then _ else false),())=_;by_cases h1:c.2.2.1=1;simp only[h1,true_or,decide_true,cond_true,beq_self_eq_true,if_true];cases jo c.1<;>cases jo c.2.1<;>rfl
 by_cases h2:c.2.2.1=2;simp[h2];cases jo c.1<;>cases jo c.2.1<;>rfl
 by_cases h3:c.2.2.1=3;simp[h3];cases jo c.1<;>cases jo c.2.1<;>rfl
 by_cases h4:c.2.2.1=4;simp[h4];cases jo c.1<;>cases jo c.2.1<;>rfl
 simp[h1,h2,h3,h4]
def KA:ag prog 67 qS:=
 conv (aT qe1 f67 (fr:=MF) (ps:=[.d ay]) (rs:=[.bool])) _ _
  (λ_ _ x _ _ _=>by obtain⟨c,_⟩:=x;obtain⟨a,b⟩:=qnx c;exact⟨a,b⟩)
def CHR:Cx:=cx [(67,qS),(66,t7),(140,iD)] []
def Qu:CxOK prog CHR:=aQ aH ⟨KA,PH,rC,uT⟩ trivial
abbrev oJ:Pt:=⟨34,0,⟨[(8,.d i64),(7,.d i64),(6,.d (.sl ay))],[.x 1 114 aD,.r 1 1 0]⟩,⟨[],[.x 1 114 aD,.r 1 1 0]⟩,⟨[(2,.d .bool)],[]⟩⟩
abbrev vJ:Type:=ap []×dj [.x 1 114 aD,.r 1 1 0]
def Du(e:ay.q)(s:vJ):Fr (vJ ⊕ oJ.R.X):=
 Jb (bif !(qS.f (e,())).1 then Z else !(iD.f (s.2.1.2.2.1.1,e.2.1,())).1) (Jv (.inr ((Y,()),()))) (Jv (.inl ((),s.2.1,())))
def sJ(x:oJ.M.X):Int×List ay.q×vJ:=(x.1.1,x.1.2.2.1,x.1.2.2.2,x.2)
def Wi(x:oJ.M.X):Prop:=x.1.2.1=(x.1.2.2.1.length:Int)
def GT(s:vJ):oJ.E.X:=((),s.2.1,())
def Fj:vJ:=(aY _,cf _)
def Lc:oJ.R.X:=(aY _,cf _)
def zfl:af prog (.loop (au f85 0)) oJ.M oJ (FL Du sJ Wi GT Rd.back Fj Lc):=
 sQ Qu (λ_ _=>.n .o) ay.j (λx=>x.1.2.1) (λx s=>((I6.wrap (x.1.1+1),x.1.2.1,x.1.2.2.1,s.1),s.2)) (λ_ h=>h)
def zo(y:oJ.M.X):vJ ⊕ oJ.R.X:=eC Du ((sJ y).2.1.drop (sJ y).1.toNat) (sJ y).2.2
def zhx(y:oJ.M.X):Prop:=l6 Du ((sJ y).2.1.drop (sJ y).1.toNat) (sJ y).2.2
def qvs(x:ap [.d aD]):Fr (aa [.bool]):=
 let a:=((0,((List.length x.1.2.2.2.1):Int),x.1.2.2.2.1,()),x.1,());let c:=zo a;let b:=GT (fq Fj c);Jd (InL (Wi a) (sJ a)) (Jd (zhx a) (Jb (dV c) (Jv (bif (t7.f (b.2.1.2.2.1,())).1 then J (((List.length b.2.1.2.2.2.1):Int)<=2000)else Y,())) (Jv ((e9 Lc c).1.1,()))))
def qvt:ag prog 85 (bg [.d aD] [.bool] qvs):=
 cZ Qu zfl
def zoi(e:ay.q)(s:vJ):(Du e s).get=if (fk e&&eH s.2.1.2.2.1.1.1 s.2.1.2.2.1.1.2.1 e.2.1)=Z then .inl s else .inr ((Y,()),()):=by show(if (bif !(fk e)then Z else !(eH s.2.1.2.2.1.1.1 s.2.1.2.2.1.1.2.1 e.2.1))=Z then _ else _)=_;cases fk e<;>cases eH s.2.1.2.2.1.1.1 s.2.1.2.2.1.1.2.1 e.2.1<;>rfl
def qrw(l:List T)(s:σ):iZ (λ(_:T) (s:σ)=>s) l s=s:=by
 induction l with
 |nil=>rfl
 |cons e r a=>exact a
def zl9:ag prog 85 Ke:=
 conv qvt _ _ (λw F x n i _=>by
  obtain⟨h,_⟩:=x;obtain⟨v,l,rfl,k,_⟩:=i;have g:=aG.wf k.2.2;have d:(h.2.2.2.1.length:Int)<=9223372036854775807:=yf g.2.2.2.1.1;refine⟨⟨⟨rfl,ufe _,ub4 _,d⟩,rR (step:=Du) (λe s=>⟨λ_=>uT,λ_=>uT⟩) _ _,λ_=>uT,λ_=>uT⟩,?_⟩;have a:=tv (f:=λ_ s=>s) zoi h.2.2.2.1 ((),(h,()));rw[qk1,qrw]at a;have b:zo ((0,(h.2.2.2.1.length:Int),h.2.2.2.1,()),(h,()))=if (h.2.2.2.1.all λc=>fk c&&eH h.2.2.1.1.1 h.2.2.1.1.2.1 c.2.1)=Z then .inl ((),(h,()))else .inr ((Y,()),()):=a
  show(if dV (zo ((0,(h.2.2.2.1.length:Int),h.2.2.2.1,()),(h,())))=Z then
   ((bif i9 (GT (fq Fj (zo ((0,(h.2.2.2.1.length:Int),h.2.2.2.1,()),(h,()))))).2.1.2.2.1 then J (((GT (fq Fj (zo ((0,(h.2.2.2.1.length:Int),h.2.2.2.1,()),(h,()))))).2.1.2.2.2.1.length:Int)<=2000)else Y,()):Bool×Unit)
   else ((e9 Lc (zo ((0,(h.2.2.2.1.length:Int),h.2.2.2.1,()),(h,())))).1.1,()))=(lx h,())
  rw[b];unfold lx;cases m:(h.2.2.2.1.all λc=>fk c&&eH h.2.2.1.1.1 h.2.2.1.1.2.1 c.2.1)with
  |false=>show((Y,()):Bool×Unit)=_;rw[uee]
  |true=>
   show((bif i9 h.2.2.1 then J ((h.2.2.2.1.length:Int)<=2000)else Y,()):Bool×Unit)=_;rw[uen];have:J ((h.2.2.2.1.length:Int)<=2000)=J (h.2.2.2.1.length<=2000):=by rw[udy];simp only[ucu];omega
   rw[this];cases i9 h.2.2.1<;>rfl)
abbrev Mo:Ty:=.pair i64 (.pair i64 (.pair i64 (.pair i64 (.pair i64 .unit))))
def dD(f:Mo.q):List Int:=[f.1,f.2.1,f.2.2.1,f.2.2.2.1,f.2.2.2.2.1]
def gR:List Int->Int->Int×Int
 |[],m=>(m,0)
 |b::r,m=>if (iq m b).2=0 then gR r (iq m b).1 else iq m b
def CQ:Cx:=cx [(194,EE),(104,qX),(136,kZ),(195,S3),(95,kv)] []
def Q4:CxOK prog CQ:=aQ aH ⟨zpu,OV,AX,ql2,Aw,uT⟩ trivial
def MQ:LS:=⟨[(8,.d i64),(9,.d i64),(59,.d Mo),(60,.d i64)],[.x 3 140 aU,.r 3 3 0]⟩
def EQ:LS:=⟨[(8,.d i64),(9,.d i64)],[.x 3 140 aU,.r 3 3 0]⟩
def C6:Pt:=⟨79,1,MQ,EQ,⟨[],[]⟩⟩
def fQ(x:MQ.X):Fr C6.Out:=
 Jb (J (x.1.2.2.2.1<5))
  (Jd (0<=x.1.2.2.2.1/\x.1.2.2.2.1<((5:Nat):Int))
   (Jb ((kv.f (x.1.1,(dD x.1.2.2.1).getD x.1.2.2.2.1.toNat 0,())).2.1 != 0)
    (Jv (Rd.out (((kv.f (x.1.1,(dD x.1.2.2.1).getD x.1.2.2.2.1.toNat 0,())).1,(kv.f (x.1.1,(dD x.1.2.2.1).getD x.1.2.2.2.1.toNat 0,())).2.1,()),x.2)))
    (Jv (Rd.next (((kv.f (x.1.1,(dD x.1.2.2.1).getD x.1.2.2.2.1.toNat 0,())).1,(kv.f (x.1.1,(dD x.1.2.2.1).getD x.1.2.2.2.1.toNat 0,())).2.1,x.1.2.2.1,I6.wrap (x.1.2.2.2.1+1),()),x.2)))))
  (Jv (Rd.out ((x.1.1,x.1.2.1,()),x.2)))
def zmt:af prog (au f147 0) MQ C6 fQ:=af.of_run Q4 (bs:=0) rfl rfl rfl (λ_=>bm _ 0) (λx=>by kernel_rfl)
def wx(i e:Int):Prop:=0<=i/\i<=5/\e=0
def FQ(x:MQ.X):Fr C6.Out:=Jd (wx x.1.2.2.2.1 x.1.2.1) (Jv (.out (((gR ((dD x.1.2.2.1).drop x.1.2.2.2.1.toNat) x.1.1).1,(gR ((dD x.1.2.2.1).drop x.1.2.2.2.1.toNat) x.1.1).2,()),x.2)))
def zb6 (m e i:Int) (f:Mo.q) (y:dj [.x 3 140 aU,.r 3 3 0]) (c:wx i e) (Q:C6.Out->Prop) (b:Q (.out (((gR ((dD f).drop i.toNat) m).1,(gR ((dD f).drop i.toNat) m).2,()),y))) :
  (fQ ((m,e,f,i,()),y)).s7 λ
   |.next d=>wx d.1.2.2.2.1 d.1.2.1/\(5-d.1.2.2.2.1).toNat<(5-i).toNat/\(FQ d).s7 Q
   |.out y=>Q (.out y)
   |.back z=>Q (.back z)
   |.pan p=>Q (.pan p):=by
 obtain⟨v,w,rfl⟩:=c;refine⟨λh=>?_,λh=>?_⟩;have l:i<5:=ucx h;obtain⟨k,rfl⟩:∃ k:Nat,i=k:=⟨i.toNat,by omega⟩;have o:k<(dD f).length:=by show k<5;omega
 have u:I6.wrap ((k:Int)+1)=k+1:=IntWalk.i64_in _ (by omega);have s:(dD f).getD (k:Int).toNat 0=(dD f)[k]:=by rw[show(k:Int).toNat=k by omega,uah,uaq o];rfl
 have t:(dD f).drop (k:Int).toNat=(dD f)[k]::(dD f).drop (k+1):=by exact ual o
 rw[t]at b;rw[s,u];show(0<=(k:Int)/\(k:Int)<((5:Nat):Int))/\(((iq m (dD f)[k]).2 != 0)=Z->Q (.out (((iq m (dD f)[k]).1,(iq m (dD f)[k]).2,()),y)))/\(((iq m (dD f)[k]).2 != 0)=Y->wx (k+1) (iq m (dD f)[k]).2/\(5-((k:Int)+1)).toNat<(5-(k:Int)).toNat/\(FQ (((iq m (dD f)[k]).1,(iq m (dD f)[k]).2,f,(k:Int)+1,()),y)).s7 Q);refine⟨⟨by omega,by omega⟩,λg=>?_,λg=>?_⟩;have a:¬ (iq m (dD f)[k]).2=0:=by simpa using g
 have e:gR ((dD f)[k]::(dD f).drop (k+1)) m=iq m (dD f)[k]:=uf1 a;rw[e]at b;exact b;have a:(iq m (dD f)[k]).2=0:=by simpa using g
 have e:gR ((dD f)[k]::(dD f).drop (k+1)) m=gR ((dD f).drop (k+1)) (iq m (dD f)[k]).1:=uf0 a;rw[e]at b;have n:wx ((k:Int)+1) (iq m (dD f)[k]).2:=⟨by omega,by omega,a⟩;refine⟨n,by omega,n,?_⟩;have:((k:Int)+1).toNat=k+1:=by omega
 exact b;have l:¬ i<5:=uch h;have:i=5:=by omega
 subst this;exact b
def zdh:af prog (.loop (au f147 0)) MQ C6 FQ:=by refine af.loop zmt (μ:=λx=>(5-x.1.2.2.2.1).toNat) ?_ (λx Q h=>h.1);rintro⟨⟨m,e,f,i,_⟩,y⟩ a Q b;exact zb6 m e i f y a Q b.2
def o6(v:aU.q)(r:eV.q)(c:ar.q):List Int:=
 [([v.2.1.1,v.2.1.2.1,v.2.1.2.2.1,v.2.1.2.2.2.1]:List Int).getD r.1.toNat 0,nL r.2.2.1 v.2.2.1 10000,v.2.2.2.1.getD r.2.2.2.1.toNat 0,v.2.2.2.2.1.getD c.1.toNat 0,c.2.2.2.2.1]
def fa(v:aU.q)(r:eV.q)(c:ar.q):Int×Int:=
 if (sN v&&(qp r.1 r.2.1 r.2.2.1 r.2.2.2.1&&lU c.1 c.2.1 c.2.2.1 c.2.2.2.1 c.2.2.2.2.1))=Z then
  if r.2.2.2.1>=v.2.2.2.1.length then (0,7)else
   if (gR (o6 v r c) r.2.1).2=0 then (if (gR (o6 v r c) r.2.1).1<v.2.2.2.2.2.1 then v.2.2.2.2.2.1 else (gR (o6 v r c) r.2.1).1,0)else (0,(gR (o6 v r c) r.2.1).2)
 else (0,1)
def qW:Ct:=⟨[.d aU,.d eV,.d ar],[i64,i64],λx=>((fa x.1 x.2.1 x.2.2.1).1,(fa x.1 x.2.1 x.2.2.1).2,()),λ_=>[]⟩
def MB(x:ap [.d aU,.d eV,.d ar]):Fr (aa [i64,i64]):=
 Jb (bif bif !(EE.f (x.1,())).1 then Z else !(qX.f (x.2.1,())).1 then Z else !(kZ.f (x.2.2.1,())).1) (Jv (0,1,()))
  (Jb (J (x.2.1.2.2.2.1>=x.1.2.2.2.1.length)) (Jv (0,7,()))
   (Jd (0<=x.2.1.1/\x.2.1.1<((4:Nat):Int))
    (Jd (0<=x.2.1.2.2.2.1/\x.2.1.2.2.2.1<x.1.2.2.2.1.length)
     (Jd (0<=x.2.2.1.1/\x.2.2.1.1<x.1.2.2.2.2.1.length)
      (Jd (wx 0 0)
       (Jb ((gR (o6 x.1 x.2.1 x.2.2.1) x.2.1.2.1).2 != 0) (Jv (0,(gR (o6 x.1 x.2.1 x.2.2.1) x.2.1.2.1).2,()))
        (Jv (if (gR (o6 x.1 x.2.1 x.2.2.1) x.2.1.2.1).1<x.1.2.2.2.2.2.1 then x.1.2.2.2.2.2.1 else (gR (o6 x.1 x.2.1 x.2.2.1) x.2.1.2.1).1,0,()))))))))
def zh7:ag prog 147 (bg [.d aU,.d eV,.d ar] [i64,i64] MB):=
 cZ Q4 zdh
def zgu(a b c:Bool):(bif bif !a then Z else !b then Z else !c)=!(a&&(b&&c)):=by cases a<;>cases b<;>cases c<;>rfl
def zrs{v:aU.q}(h:sN v=Z):v.2.2.2.2.1.length=8:=by unfold sN at h;rw[udd]at h;have a:=ucx h.1;exact a.2.2.2.2.2.2.2
def zln{k v z:Int}(h:qp k v a z=Z):0<=k/\k<4/\0<=z:=by have b:=ucx h;exact⟨b.1,b.2.1,b.2.2.2.2.2.2.1⟩
def qpn{l g d s:Int}(h:lU p l g d s=Z):0<=p/\p<8:=by have a:=ucx h;exact⟨a.1,a.2.1⟩
def zh3(v:aU.q)(k val a z:Int)(c:ar.q):(MB (v,(k,val,a,z,()),c,())).ok/\(MB (v,(k,val,a,z,()),c,())).get=((fa v (k,val,a,z,()) c).1,(fa v (k,val,a,z,()) c).2,()):=by
 obtain⟨p,l,g,d,s,_⟩:=c;unfold fa;have n:(bif bif !(EE.f (v,())).1 then Z else !(qX.f ((k,val,a,z,()),())).1 then Z else !(kZ.f ((p,l,g,d,s,()),())).1)=!(sN v&&(qp k val a z&&lU p l g d s)):=zgu _ _ _;by_cases h:(sN v&&(qp k val a z&&lU p l g d s))=Z;rw[uf0 h];refine aN (by rw[n,h];rfl) ?_;rw[udd,udd]at h;obtain⟨t,u,w⟩:=h;obtain⟨y,B,A⟩:=zln u;obtain⟨o,r⟩:=qpn w;have x:=zrs t;by_cases e:z>=(v.2.2.2.1.length:Int);rw[uf0 e];exact aV (ueb e) ⟨uT,rfl⟩;rw[uf1 e];have m:=ufo.1 e;refine aN (udw e) (aw ⟨y,by omega⟩ (aw ⟨A,m⟩ (aw ⟨o,?_⟩ (aw ⟨by omega,by omega,rfl⟩ ?_))));show p<(v.2.2.2.2.1.length:Int);rw[x];exact r;by_cases i:(gR (o6 v (k,val,a,z,()) (p,l,g,d,s,())) val).2=0;have b:((gR (o6 v (k,val,a,z,()) (p,l,g,d,s,())) val).2 != 0)=false:=by rw[i];rfl
 rw[uf0 i];exact aN b ⟨uT,rfl⟩;have b:=ufq.2 i;rw[uf1 i];exact aV b ⟨uT,rfl⟩;rw[uf1 h];simp only[Bool.not_eq_true]at h;exact aV (by rw[n,h];rfl) ⟨uT,rfl⟩
def zh6:ag prog 147 qW:=
 dz zh7 _ _ (λ_ _ x _ _ _=>by obtain⟨v,⟨k,val,a,z,_⟩,c,_⟩:=x;exact zh3 v k val a z c)
def Jo:FuncId->Option (Func×(Nat->St->Option Tr)):=cR [(146,(f146,bK)),(193,(f193,bK))]
def qkc:∀ f fn d,Jo f=U (fn,d)->prog.funcs[f]?= U fn/\∀ c a,fn.body=U c->co prog a d c 0:=λf fn d h=>by simp only[Jo,cR]at h;split at h;rename_i b;subst b;cases h;exact⟨by kernel_rfl,λc a _=>bm c 0⟩;split at h;rename_i b;subst b;cases h;exact⟨by kernel_rfl,λc a _=>bm c 0⟩;cases h
def CY:Cx:=dI [(147,qW)] [] (iJ prog eN Jo)
def Rb:CxOK prog CY:=dP aH ⟨zh6,uT⟩ trivial (jt aL qkc)
def MY:LS:=⟨[(16,.d (.sl ar)),(17,.d i64),(18,.d i64),(9,.d i64),(10,.d .bool)],[.x 3 140 aU,.r 3 3 0,.x 4 33 eV,.r 4 4 0,.x 160001 3 i64,.g 8 193 [160001]]⟩
def EY:LS:=⟨[(9,.d i64),(10,.d .bool)],[]⟩
def vd:Pt:=⟨43,0,MY,EY,⟨[(6,.d i64),(7,.d i64)],[]⟩⟩
def UA(v:aU.q)(r:eV.q)(l:List ar.q)(n i s:Int)(b:Bool)(q:Int)(c:ar.q):Fr vd.Out:=
 Jb ((qW.f (v,r,c,())).2.1 != 0) (Jv (Rd.back ((0,(qW.f (v,r,c,())).2.1,()),())))
  (Jb b
   (Jb (J ((qW.f (v,r,c,())).1>I6.wrap (4000000000000000000-q)))
    (Jv (Rd.next ((l,n,I6.wrap (i+1),0,Y,()),(v,r,q,()))))
    (Jv (Rd.next ((l,n,I6.wrap (i+1),I6.wrap (q+(qW.f (v,r,c,())).1),Z,()),(v,r,I6.wrap (q+(qW.f (v,r,c,())).1),())))))
   (Jv (Rd.next ((l,n,I6.wrap (i+1),s,b,()),(v,r,q,())))))
def fY(x:MY.X):Fr vd.Out:=
 Jb (J (x.1.2.2.1<x.1.2.1))
  (Jd (0<=x.1.2.2.1/\x.1.2.2.1<x.1.1.length) (UA x.2.1 x.2.2.1 x.1.1 x.1.2.1 x.1.2.2.1 x.1.2.2.2.1 x.1.2.2.2.2.1 x.2.2.2.1 (x.1.1.getD x.1.2.2.1.toNat ar.j)))
  (Jv (Rd.out ((x.1.2.2.2.1,x.1.2.2.2.2.1,()),())))
def zmx:af prog (au f88 0) MY vd fY:=af.of_run Rb (bs:=0) rfl rfl rfl (λ_=>bm _ 0) (λx=>by kernel_rfl)
def iR(v:aU.q)(r:eV.q):List ar.q->Int->Bool->Int×Bool×Int
 |[],q,b=>(if b=Z then q else 0,b,0)
 |c::l,q,b=>if (fa v r c).2=0 then
   (if b=Z then (if (fa v r c).1>4000000000000000000-q then iR v r l q Y else iR v r l (q+(fa v r c).1) Z)else iR v r l q Y)
  else (0,Y,(fa v r c).2)
def zh2{v:aU.q}{r:eV.q}{c:ar.q}(h:(fa v r c).2=0):0<=(fa v r c).1:=by
 unfold fa at h |-;split;rename_i d;split;exact ufe 0;rename_i f;split;have b:=(Bool.and_eq_true_iff.1 d).1;have a:0<=v.2.2.2.2.2.1:=by unfold sN at b;rw[udd]at b;exact(ucx b.1).2.2.1
 split;exact a;rename_i e;exact ue6 a (ufp.1 e);exact ufe 0;exact ufe 0
def qC(l:List ar.q)(n i s:Int)(b:Bool)(q:Int):Prop:=0<=i/\i<=n/\n=l.length/\n<=9223372036854775807/\0<=q/\q<=4000000000000000000/\s=if b=Z then q else 0
def YT(y:Int×Bool×Int):Fr vd.Out:=Jb (y.2.2 != 0) (Jv (Rd.back ((0,y.2.2,()),()))) (Jv (Rd.out ((y.1,y.2.1,()),())))
def FY(x:MY.X):Fr vd.Out:=Jd (qC x.1.1 x.1.2.1 x.1.2.2.1 x.1.2.2.2.1 x.1.2.2.2.2.1 x.2.2.2.1) (YT (iR x.2.1 x.2.2.1 (x.1.1.drop x.1.2.2.1.toNat) x.2.2.2.1 x.1.2.2.2.2.1))
def zcg(v:aU.q)(r:eV.q)(l:List ar.q)(n i s:Int)(b:Bool)(q:Int)(u:qC l n i s b q)(Q:vd.Out->Prop)(a:(YT (iR v r (l.drop i.toNat) q b)).s7 Q):
  (fY ((l,n,i,s,b,()),(v,r,q,()))).s7 λ
   |.next g=>qC g.1.1 g.1.2.1 g.1.2.2.1 g.1.2.2.2.1 g.1.2.2.2.2.1 g.2.2.2.1/\(g.1.2.1-g.1.2.2.1).toNat<(n-i).toNat/\(FY g).s7 Q
   |.out y=>Q (.out y)
   |.back z=>Q (.back z)
   |.pan p=>Q (.pan p):=by
 obtain⟨R,S,rfl,x,F,G,H⟩:=u;refine⟨λC=>?_,λC=>?_⟩;have t:i<(l.length:Int):=ucx C;obtain⟨k,rfl⟩:∃ k:Nat,i=k:=⟨i.toNat,by omega⟩;have K:k<l.length:=by omega
 have M:l.getD (k:Int).toNat ar.j=l[k]:=by rw[show(k:Int).toNat=k by omega,uah,uaq K];rfl
 have P:I6.wrap ((k:Int)+1)=k+1:=IntWalk.i64_in _ (by omega);have N:l.drop (k:Int).toNat=l[k]::l.drop (k+1):=by exact ual K
 have O:((k:Int)+1).toNat=k+1:=by omega
 rw[N]at a;refine⟨⟨by omega,t⟩,?_⟩;rw[M];unfold UA;rw[P];generalize l[k]=c at *;have o:((l.length:Int)-((k:Int)+1)).toNat<((l.length:Int)-k).toNat:=by omega
 refine⟨λw=>?_,λw=>?_⟩;have d:=ufq.1 w;have e:iR v r (c::l.drop (k+1)) q b=(0,Y,(fa v r c).2):=uf1 d;rw[e]at a;exact a.1 w;have d:(fa v r c).2=0:=by have:((fa v r c).2 != 0)=false:=w;simpa using this
 have L:=zh2 d;have e:iR v r (c::l.drop (k+1)) q b=(if b=Z then (if (fa v r c).1>4000000000000000000-q then iR v r (l.drop (k+1)) q Y else iR v r (l.drop (k+1)) (q+(fa v r c).1) Z)else iR v r (l.drop (k+1)) q Y):=uf0 d;rw[e]at a;have D:I6.wrap (4000000000000000000-q)=4000000000000000000-q:=IntWalk.i64_in _ (by omega);refine⟨λA=>?_,λA=>?_⟩;rw[uf0 A]at a;rw[D];refine⟨λB=>?_,λB=>?_⟩;have m:(fa v r c).1>4000000000000000000-q:=ucx B;rw[uf0 m]at a;have h:qC l l.length ((k:Int)+1) 0 Y q:=⟨by omega,by omega,rfl,x,F,G,rfl⟩;refine⟨h,o,h,?_⟩;exact a;have m:¬ (fa v r c).1>4000000000000000000-q:=uch B;rw[uf1 m]at a;have E:I6.wrap (q+(qW.f (v,r,c,())).1)=q+(fa v r c).1:=IntWalk.i64_in (q+(fa v r c).1) (by omega);rw[E];have h:qC l l.length ((k:Int)+1) (q+(fa v r c).1) Z (q+(fa v r c).1):=⟨by omega,by omega,rfl,x,by omega,by omega,rfl⟩;refine⟨h,o,h,?_⟩;exact a;subst A;have h:qC l l.length ((k:Int)+1) s Y q:=⟨by omega,by omega,rfl,x,F,G,H⟩;refine⟨h,o,h,?_⟩;exact a;have t:¬ i<(l.length:Int):=uch C;have e:l.drop i.toNat=[]:=ua2 (by omega);rw[e]at a;subst H;exact a.2 rfl
def zdy:af prog (.loop (au f88 0)) MY vd FY:=by refine af.loop zmx (μ:=λx=>(x.1.2.1-x.1.2.2.1).toNat) ?_ (λx Q h=>h.1);rintro⟨⟨l,n,i,s,b,_⟩,v,r,q,_⟩ a Q c;exact zcg v r l n i s b q a Q c.2
def zS(v:aU.q)(r:eV.q)(l:List ar.q):Int×Int:=
 if (iR v r l 0 Z).2.2=0 then (if (iR v r l 0 Z).2.1=Z then ((iR v r l 0 Z).1,0)else (0,5))else (0,(iR v r l 0 Z).2.2)
def AF:Ct:=⟨[.d aU,.d eV,.d (.sl ar)],[i64,i64],λx=>((zS x.1 x.2.1 x.2.2.1).1,(zS x.1 x.2.1 x.2.2.1).2,()),λ_=>[]⟩
def qxh(x:ap [.d aU,.d eV,.d (.sl ar)]):Fr (aa [i64,i64]):=
 let a:=iR x.1 x.2.1 x.2.2.1 0 Z;Jd (qC x.2.2.1 x.2.2.1.length 0 0 Z 0)
  (Jb (a.2.2 != 0) (Jv (0,a.2.2,()))
   (Jb (!a.2.1) (Jv (0,5,())) (Jv (a.1,0,()))))
def zr7:ag prog 88 (bg [.d aU,.d eV,.d (.sl ar)] [i64,i64] qxh):=
 cZ Rb zdy
def zr6:ag prog 88 AF:=
 dz zr7 _ _ (λw F x p g _=>by
  obtain⟨v,r,l,_⟩:=x;obtain⟨m,h,rfl,_,n,i,rfl,_,o,k,rfl,d,_⟩:=g;have a:=pg d;have f:qC l l.length 0 0 Z 0:=⟨by omega,by omega,rfl,a,by decide,by decide,rfl⟩;refine aw f ?_;unfold zS;generalize iR v r l 0 Z=y;obtain⟨s,b,e⟩:=y;by_cases c:e=0;subst c;refine aN rfl ?_;cases b with
  |true=>exact aN rfl ⟨uT,rfl⟩
  |false=>exact aV rfl ⟨uT,rfl⟩
  rw[uf1 c];exact aV (ufq.2 c) ⟨uT,rfl⟩)
def Qn:Cx:=cx [(144,E7)] []
def qen:CxOK prog Qn:=aQ (ps:=[]) aH ⟨Wz,uT⟩ trivial
def Jl:FuncId->Option (Func×(Nat->St->Option Tr)):=cR [(143,(f143,bK)),(145,(f145,bK))]
def qj9:∀ f fn d,Jl f=U (fn,d)->prog.funcs[f]?= U fn/\∀ c a,fn.body=U c->co prog a d c 0:=λf fn d h=>by simp only[Jl,cR]at h;split at h;rename_i b;subst b;cases h;exact⟨by kernel_rfl,λc a _=>bm c 0⟩;split at h;rename_i b;subst b;cases h;exact⟨by kernel_rfl,λc a _=>bm c 0⟩;cases h
def IC:Cx:=dI [(97,Km)] [] (iJ prog Qn Jl)
def ID:CxOK prog IC:=dP (ps:=[]) aH ⟨Ox,uT⟩ trivial (jt qen qj9)
abbrev Yi:List MI:=[.x 280001 114 aD,.r 1 280001 0,.x 280003 31 cK,.r 3 280003 0,.x 280004 213 aF,.r 4 280004 0,.y 280005 159 [(U 213,aF)],.r 5 280005 0,.g 6 143 [280004,280005],.x 6 140 aU,.r 10006 6 0]
def MC:LS:=⟨[(26,.d aP),(27,.d i64),(28,.d i64)],Yi⟩
def EC:LS:=⟨[],Yi⟩
def yC:Pt:=⟨52,0,MC,EC,⟨[],[]⟩⟩
def ju(a:List aF.q):Int:=I6.wrap ((a.length:Int)-1)
def m8(s:aF.q)(b:Int):aF.q:=((s.1.1,b,()),s.2)
def Lq(s:aF.q)(a:List aF.q)(b:Int)(K:List aF.q->Fr α):Fr α:=
 Jb (s.1.1==b) (K a)
  (Jd (J (ju a>=0)=Z->0<=ju a/\ju a<(a.length:Int))
   (Jd (J (ju a>=0)=Z->(ju a).toNat<a.length)
    (Jb (bif J (ju a>=0)then (E7.f (a.getD (ju a).toNat aF.j,m8 s b,())).1 else Y)
     (Jd (0<=ju a/\ju a<(a.length:Int)) (Jd ((ju a).toNat<a.length) (K (a.set (ju a).toNat (m8 (a.getD (ju a).toNat aF.j) b)))))
     (Jd (a.length + [m8 s b].length<=maxLen/\(a.length + [m8 s b].length)*88<=140737488355328) (K (a++[m8 s b]))))))
def TV(s:aF.q)(c:ay.q)(K:aF.q->Fr α):Fr α:=
 Jb (c.2.2.1==1) (K (s.1,s.2.1,c.2.2.2.1,s.2.2.2.1,s.2.2.2.2.1,()))
  (Jb (c.2.2.1==2) (Jd (([]:List ar.q).length+c.2.2.2.2.1.length<=maxLen/\(([]:List ar.q).length+c.2.2.2.2.1.length)*40<=140737488355328) (K (s.1,s.2.1,s.2.2.1,[]++c.2.2.2.2.1,s.2.2.2.2.1,())))
   (Jb (c.2.2.1==3) (K (s.1,Y,s.2.2.1,s.2.2.2.1,s.2.2.2.2.1,()))
    (Jb (c.2.2.1==4) (K (s.1,Z,s.2.2.1,s.2.2.2.1,s.2.2.2.2.1,())) (K s))))
def Mv(x:MC.X):Fr yC.Out:=
 let l:List Int:=x.1.1;let n:Int:=x.1.2.1;let i:Int:=x.1.2.2.1;let h:aD.q:=x.2.1;let c:cK.q:=x.2.2.1;let s:aF.q:=x.2.2.2.1;let a:List aF.q:=x.2.2.2.2.1.1;let v:aU.q:=x.2.2.2.2.2.1
 let j:Int:=l.getD i.toNat i64.j
 Jb (J (i<n))
  (Jd (0<=i/\i<(l.length:Int))
   (Jd (0<=j/\j<((aO h).length:Int))
    (Lq s a (cw h j).2.1 λb=>
     Jd (0<=j/\j<((aO h).length:Int))
      (TV (((cw h j).2.1,s.1.2.1,()),s.2) (cw h j) λd=>Jv (Rd.next ((l,n,I6.wrap (i+1),()),(h,c,d,(b,()),v,())))))))
  (Jv (Rd.out ((),(h,c,s,(a,()),v,()))))
def zml:af prog (au f87 0) MC yC Mv:=af.of_run ID (bs:=280000) rfl rfl rfl (λ_=>bm _ 0) (λx=>by kernel_rfl)
def Z7(s:aF.q):(a:List aF.q)->0<a.length->kU a s=if pX (a.getD (a.length-1) aF.j) s=Z then a.set (a.length-1) (m8 (a.getD (a.length-1) aF.j) s.1.2.1)else a++[s]
 |[],h=>absurd h (by decide)
 |[x],_=>rfl
 |x::y::r,_=>by
  have d:=Z7 s (y::r) (by simp);have b:(x::y::r).length-1=((y::r).length-1)+1:=by simp
  have c:(x::y::r).getD ((x::y::r).length-1) aF.j=(y::r).getD ((y::r).length-1) aF.j:=by rfl
  show x::kU (y::r) s=_;rw[d,c,b];split;rfl;rfl
def Z8(s:aF.q):(a:List aF.q)->(kU a s).length<=a.length+1
 |[]=>by simp[kU]
 |[x]=>by unfold kU;split<;>simp
 |x::y::r=>by have:=Z8 s (y::r);simp only[kU,uda]at this |-;omega
def Lo(s:aF.q)(out:List aF.q)(a:Int):(kC s out a).length<=out.length+1:=by unfold kC;split;omega;exact Z8 _ _
def zbn{a:List aF.q}(h:a.length<=1000000):ju a=(a.length:Int)-1:=IntWalk.i64_in _ (by omega)
def Ul{s:aF.q}{out:List aF.q}{K:List aF.q->Fr α}{Q:α->Prop}(m:out.length<=1000000)(h:(K (kC s out day)).s7 Q):(Lq s out day K).s7 Q:=by
 unfold kC at h;have o:=zbn m;have k:out.length+1<=maxLen/\(out.length+1)*88<=140737488355328:=⟨by unfold maxLen;omega,by omega⟩;refine⟨λg=>?_,λg=>?_⟩;have a:=ufv g;rw[uf0 a]at h;exact h;have a:=ud5 g;rw[uf1 a]at h;refine⟨λi=>?_,λi=>?_,?_⟩;have:=ucx i;omega;have:=ucx i;omega;by_cases l:0<out.length;have c:J (ju out>=0)=true:=ueb (by omega);have n:(ju out).toNat=out.length-1:=by omega
 have f:=Z7 (m8 s day) out l;rw[c,n];refine⟨λd=>?_,λd=>?_⟩;have b:pX (out.getD (out.length-1) aF.j) (m8 s day)=true:=d;rw[uf0 b]at f;refine⟨⟨by omega,by omega⟩,by omega,?_⟩;have e:kU out ((s.1.1,day,()),s.2)=out.set (out.length-1) (m8 (out.getD (out.length-1) aF.j) day):=f;rw[e]at h;exact h;have b:¬ pX (out.getD (out.length-1) aF.j) (m8 s day)=true:=by intro p;have:pX (out.getD (out.length-1) aF.j) (m8 s day)=false:=d;rw[p]at this;cases this
 rw[uf1 b]at f;have e:kU out ((s.1.1,day,()),s.2)=out++[m8 s day]:=f;rw[e]at h;exact⟨k,h⟩;have iy:out=[]:=uaz.1 (by omega);subst iy;have c:J (ju []>=0)=false:=udw (by rw[o];decide);exact⟨λd=>(by cases d),λ_=>⟨k,h⟩⟩
def qrc{s:aF.q}{c:ay.q}{K:aF.q->Fr α}{Q:α->Prop}(m:c.2.2.2.2.1.length<=1000000)(h:(K (nZ s c)).s7 Q):(TV s c K).s7 Q:=by
 unfold nZ at h;have l:([]:List ar.q).length+c.2.2.2.2.1.length<=maxLen/\(([]:List ar.q).length+c.2.2.2.2.1.length)*40<=140737488355328:=by simp;exact⟨by unfold maxLen;omega,by omega⟩
 refine⟨λk=>?_,λk=>⟨λf=>?_,λf=>⟨λg=>?_,λg=>⟨λi=>?_,λi=>?_⟩⟩⟩⟩;have d:=ufv k;rw[uf0 d]at h;exact h;have d:=ud5 k;have a:=ufv f;rw[uf1 d,uf0 a]at h;exact⟨l,h⟩;have d:=ud5 k;have a:=ud5 f;have b:=ufv g;rw[uf1 d,uf1 a,uf0 b]at h;exact h;have d:=ud5 k;have a:=ud5 f;have b:=ud5 g;have e:=ufv i;rw[uf1 d,uf1 a,uf1 b,uf0 e]at h;exact h;have d:=ud5 k;have a:=ud5 f;have b:=ud5 g;have e:=ud5 i;rw[uf1 d,uf1 a,uf1 b,uf1 e]at h;exact h
structure InvC5 (l:List Int) (n i:Int) (h:aD.q) (out:List aF.q):Prop where
 i0:0<=i
 il:i<=n
 nl:n=l.length
 few:l.length<=500000
 inl:∀ x∈l,0<=x/\x<((aO h).length:Int)
 cov:∀ c∈aO h,c.2.2.2.2.1.length<=1000000
 outs:(out.length:Int)<=i
def Jh(x:MC.X):Fr yC.Out:=
 let l:List Int:=x.1.1;let n:Int:=x.1.2.1;let i:Int:=x.1.2.2.1;let h:aD.q:=x.2.1;let b:cK.q:=x.2.2.1;let s:aF.q:=x.2.2.2.1;let a:List aF.q:=x.2.2.2.2.1.1;let v:aU.q:=x.2.2.2.2.2.1
 Jd (InvC5 l n i h a) (Jv (Rd.out ((),(h,b,(mc ((l.drop i.toNat).map (cw h)) s a).1,((mc ((l.drop i.toNat).map (cw h)) s a).2,()),v,()))))
def zbv (l:List Int) (n i:Int) (h:aD.q) (A:cK.q) (s:aF.q) (a:List aF.q) (v:aU.q) (e:InvC5 l n i h a) (Q:yC.Out->Prop)
  (g:Q (Rd.out ((),(h,A,(mc ((l.drop i.toNat).map (cw h)) s a).1,((mc ((l.drop i.toNat).map (cw h)) s a).2,()),v,())))) :
  (Mv ((l,n,i,()),(h,A,s,(a,()),v,()))).s7 λ
   |.next c=>InvC5 c.1.1 c.1.2.1 c.1.2.2.1 c.2.1 c.2.2.2.2.1.1/\((c.1.2.1:Int)-c.1.2.2.1).toNat<(n-i).toNat/\(Jh c).s7 Q
   |.out y=>Q (.out y)
   |.back z=>Q (.back z)
   |.pan p=>Q (.pan p):=by
 obtain⟨D,E,rfl,B,r,t,F⟩:=e;obtain⟨b,rfl⟩:∃ n:Nat,i=n:=⟨i.toNat,by omega⟩;simp only[uc0]at g;dsimp only[Mv,Ty.q,PT.q];refine⟨λm=>?_,λm=>?_⟩;have f:b<l.length:=by have:(b:Int)<(l.length:Int):=ucx m;omega
 have w:I6.wrap ((b:Int)+1)=(b+1:Nat):=D0 (by omega);rw[w];have x:=r _ (eT (d:=(0:Int)) f);rw[qrf f,uel]at g;have k:cw h (l.getD b 0)∈aO h:=by exact eT (by omega)
 have G:=Lo s a (cw h (l.getD b 0)).2.1;have u:InvC5 l (l.length:Int) ((b+1:Nat):Int) h (kC s a (cw h (l.getD b 0)).2.1):=⟨by omega,by omega,rfl,B,r,t,by omega⟩;have o:((l.length:Int)-((b+1:Nat):Int)).toNat<((l.length:Int)-(b:Int)).toNat:=by omega
 refine⟨⟨by omega,by omega⟩,x,Ul (by omega) ⟨x,qrc (t _ k) ⟨u,o,u,g⟩⟩⟩;have C:¬ b<l.length:=by have:¬ (b:Int)<(l.length:Int):=uch m;omega
 rw[ua2 (by omega)]at g;exact g
def zc4:af prog (.loop (au f87 0)) MC yC Jh:=by refine af.loop zml (μ:=λx=>((x.1.2.1:Int)-x.1.2.2.1).toNat) ?_ (λx Q h=>h.1);rintro⟨⟨l,n,i,_⟩,h,d,s,⟨b,_⟩,v,_⟩ a Q c;exact zbv l n i h d s b v a Q c.2
def Jn:FuncId->Option (Func×(Nat->St->Option Tr)):=cR [(87,(f87,λ_=>yC.han IC.Γ MC Jh))]
def qkb:∀ f fn a,Jn f=U (fn,a)->prog.funcs[f]?= U fn/\∀ c d,fn.body=U c->co prog d a c 0:=λf fn a h=>by simp only[Jn,cR]at h;split at h;rename_i g;subst g;cases h;exact⟨by kernel_rfl,λc d e=>fH e (by kernel_rfl) (b:=au f87 0) (by kernel_rfl) (af.han ID rfl zc4)⟩;cases h
def COf:Cx:=dI [(85,Ke),(86,Ks),(88,AF)] [] (iJ prog IC Jn)
def Q3:CxOK prog COf:=dP (ps:=[]) aH ⟨zl9,zp2,zr6,uT⟩ trivial (jt ID qkb)
def MO:LS:=⟨[(29,.d i64),(30,.d i64)],[.o 8 213 aF,.al 28 8,.x 6 140 aU,.r 6 6 0]⟩
def EO:LS:=⟨[],[.o 8 213 aF]⟩
def yH:Pt:=⟨56,0,MO,EO,⟨[(4,.d eK),(5,.d i64)],[]⟩⟩
def jB(v:aU.q)(s:aF.q):Int×Int:=zS v s.2.2.1 s.2.2.2.1
def nw(s:aF.q)(y:Int):aF.q:=(s.1,s.2.1,s.2.2.1,s.2.2.2.1,y,())
def fO(x:MO.X):Fr yH.Out:=
 let n:Int:=x.1.1;let i:Int:=x.1.2.1;let l:List aF.q:=x.2.1;let v:aU.q:=x.2.2.1
 let s:aF.q:=l.getD i.toNat aF.j
 Jb (J (i<n))
  (Jd (0<=i/\i<(l.length:Int)) (Jd (i.toNat<l.length)
   (Jb (!s.2.1) (Jv (Rd.next ((n,I6.wrap (i+1),()),(l,v,()))))
    (Jd (0<=i/\i<(l.length:Int)) (Jd (i.toNat<l.length)
     (Jb ((AF.f (v,s.2.2.1,s.2.2.2.1,())).2.1 != 0) (Jv (Rd.back (([],(AF.f (v,s.2.2.1,s.2.2.2.1,())).2.1,()),())))
      (Jv (Rd.next ((n,I6.wrap (i+1),()),(l.set i.toNat (nw s (AF.f (v,s.2.2.1,s.2.2.2.1,())).1),v,()))))))))))
  (Jv (Rd.out ((),(l,()))))
def zms:af prog (au f60 0) MO yH fO:=af.of_run Q3 (bs:=0) rfl rfl rfl (λ_=>bm _ 0) (λx=>by kernel_rfl)
def fW(v:aU.q)(s:aF.q):aF.q:=if s.2.1=Z then nw s (jB v s).1 else s
def dJ(v:aU.q):List aF.q->Int
 |[]=>0
 |s::l=>if s.2.1=Z then (if (jB v s).2=0 then dJ v l else (jB v s).2)else dJ v l
structure InvO (n i:Int) (l:List aF.q):Prop where
 i0:0<=i
 il:i<=n
 nl:n=l.length
 few:l.length<=1000000
def cC(l:List aF.q)(e:Int):Fr yH.Out:=Jb (e != 0) (Jv (Rd.back (([],e,()),()))) (Jv (Rd.out ((),(l,()))))
def FO(x:MO.X):Fr yH.Out:=
 let n:Int:=x.1.1;let i:Int:=x.1.2.1;let l:List aF.q:=x.2.1;let v:aU.q:=x.2.2.1
 Jd (InvO n i l) (cC (l.take i.toNat++(l.drop i.toNat).map (fW v)) (dJ v (l.drop i.toNat)))
def zb3(n i:Int)(l:List aF.q)(v:aU.q)(t:InvO n i l)(Q:yH.Out->Prop)(e:(cC (l.take i.toNat++(l.drop i.toNat).map (fW v)) (dJ v (l.drop i.toNat))).s7 Q):
  (fO ((n,i,()),(l,v,()))).s7 λ
   |.next m=>InvO m.1.1 m.1.2.1 m.2.1/\((m.1.1:Int)-m.1.2.1).toNat<(n-i).toNat/\(FO m).s7 Q
   |.out y=>Q (.out y)
   |.back z=>Q (.back z)
   |.pan p=>Q (.pan p):=by
 obtain⟨O,P,rfl,F⟩:=t;obtain⟨a,rfl⟩:∃ n:Nat,i=n:=⟨i.toNat,by omega⟩;simp only[uc0]at e;dsimp only[fO,Ty.q,PT.q];simp only[uc0];refine⟨λD=>?_,λD=>?_⟩
 ·have c:a<l.length:=by have:(a:Int)<(l.length:Int):=ucx D;omega
  have w:I6.wrap ((a:Int)+1)=(a+1:Nat):=D0 (by omega);rw[w];have H:l.getD a aF.j=l[a]:=by rw[uah,uaq c];rfl
  have M:l.drop a=l.getD a aF.j::l.drop (a+1):=by rw[H];exact ual c
  have A:((l.length:Int)-((a+1:Nat):Int)).toNat<((l.length:Int)-(a:Int)).toNat:=by omega
  have G:0<=(a:Int)/\(a:Int)<(l.length:Int):=⟨by omega,by omega⟩;rw[M]at e;generalize R:l.getD a aF.j=s at *;have E:l.take (a+1)=l.take a++[s]:=by rw[H];exact(uat c).symm
  refine⟨G,c,λh=>?_,λf=>⟨G,c,λB=>?_,λB=>?_⟩⟩;have d:¬ s.2.1=true:=by intro x;rw[x]at h;cases h
  have r:InvO (l.length:Int) ((a+1:Nat):Int) l:=⟨by omega,by omega,rfl,F⟩;refine⟨r,A,r,?_⟩;have o:dJ v (s::l.drop (a+1))=dJ v (l.drop (a+1)):=uf1 d;have C:fW v s=s:=uf1 d;rw[o,uel,C]at e;show(cC (l.take (a+1)++(l.drop (a+1)).map (fW v)) (dJ v (l.drop (a+1)))).s7 Q;rw[E,ucr];exact e;have b:s.2.1=true:=by
   cases x:s.2.1 with
   |true=>rfl
   |false=>rw[x]at f;cases f
  have k:¬ (jB v s).2=0:=ufq.1 B;have o:dJ v (s::l.drop (a+1))=(jB v s).2:=by unfold dJ;rw[uf0 b,uf1 k]
  rw[o]at e;exact e.1 B
  ·have b:s.2.1=true:=by
    cases x:s.2.1 with
    |true=>rfl
    |false=>rw[x]at f;cases f
   have k:(jB v s).2=0:=by have:((jB v s).2 != 0)=false:=B;simpa using this
   have g:(l.set a (nw s (jB v s).1)).length=l.length:=udp;have r:InvO (l.length:Int) ((a+1:Nat):Int) (l.set a (nw s (jB v s).1)):=⟨by omega,by omega,by rw[g],by rw[g];exact F⟩;refine⟨r,A,r,?_⟩;have o:dJ v (s::l.drop (a+1))=dJ v (l.drop (a+1)):=by
    conv=>lhs;unfold dJ
    rw[uf0 b,uf0 k]
   have C:fW v s=nw s (jB v s).1:=uf0 b;rw[o,uel,C]at e;show(cC ((l.set a (nw s (jB v s).1)).take (a+1)++((l.set a (nw s (jB v s).1)).drop (a+1)).map (fW v)) (dJ v ((l.set a (nw s (jB v s).1)).drop (a+1)))).s7 Q;have K:(l.set a (nw s (jB v s).1)).drop (a+1)=l.drop (a+1):=List.drop_set_of_lt (by omega);have L:(l.set a (nw s (jB v s).1)).take (a+1)=l.take a++[nw s (jB v s).1]:=by rw[List.take_add_one,List.take_set_of_le (by omega)];simp[c]
   rw[K,L,ucr];exact e
 have N:¬ a<l.length:=by have:¬ (a:Int)<(l.length:Int):=uch D;omega
 rw[ua2 (by omega),ua3 (by omega)]at e;have u:=e.2 rfl;simp at u;exact u
def zdd:af prog (.loop (au f60 0)) MO yH FO:=by refine af.loop zms (μ:=λx=>((x.1.1:Int)-x.1.2.1).toNat) ?_ (λx Q h=>h.1);rintro⟨⟨n,i,_⟩,l,v,_⟩ a Q b;exact zb3 n i l v a Q b.2
def MA(v:aU.q)(l:List aF.q):Fr (aa [eK,i64]):=
 let a:=l.drop (0:Int).toNat;Jd (InvO l.length 0 l) (Jb (dJ v a != 0) (Jv ([],dJ v a,())) (Jv (l.take (0:Int).toNat++a.map (fW v),0,())))
def pU(h:aD.q):aF.q×List aF.q:=mc (((bV h).drop (0:Int).toNat).map (cw h)) ((h.2.2.1.1.1,0,()),Z,h.2.2.1.2.1,[]++h.2.2.1.2.2.1,0,()) []
def qxa(x:ap [.d aD,.d bh]):Fr (aa [eK,i64]):=
 let c:=x.1.2.2.1;let b:=([]:List ar.q);let a:=Ks.f (x.2.1,c.1.1,());Jb (!(Ke.f (x.1,())).1) (Jv ([],1,()))
  (Jd (bf x.2.1)
   (Jb (a.2.1 != 0) (Jv ([],a.2.1,()))
    (Jd (b.length+c.2.2.1.length<=maxLen/\(b.length+c.2.2.1.length)*40<=140737488355328)
     (Jd (((aO x.1).length:Int)<=1000000)
      (Jd (InvC5 (bV x.1) ((bV x.1).length:Int) 0 x.1 [])
       (Lq (pU x.1).1 (pU x.1).2 c.1.2.1 (MA a.1)))))))
def of_run:ag prog 60 (bg [.d aD,.d bh] [eK,i64] qxa):=
 cZ Q3 zdd
def cj(h:aD.q):Prop:=(aO h).length<=500000/\h.2.2.1.2.2.1.length<=1000000/\∀ c∈aO h,c.2.2.2.2.1.length<=1000000
def c9(h:aD.q)(t:bh.q):List aF.q×Int:=
 if lx h=Z then
  (if (cE h.2.2.1.1.1 t.1.reverse).2=0 then
   (if dJ (cE h.2.2.1.1.1 t.1.reverse).1 (ez h)=0 then ((ez h).map (fW (cE h.2.2.1.1.1 t.1.reverse).1),0)else ([],dJ (cE h.2.2.1.1.1 t.1.reverse).1 (ez h)))
  else ([],(cE h.2.2.1.1.1 t.1.reverse).2))
 else ([],1)
def iE:Ct:=⟨[.d aD,.d bh],[eK,i64],λx=>((c9 x.1 x.2.1).1,(c9 x.1 x.2.1).2,()),λx=>[cj x.1,bf x.2.1]⟩
def GQ(h:aD.q):(bV h).length=(aO h).length:=by unfold bV;rw[oS,OC]
def Cp{h:aD.q}(a:x∈bV h):0<=x/\x<((aO h).length:Int):=OD (zw.1 a)
def VD:(l:List ay.q)->(s:aF.q)->(a:List aF.q)->(mc l s a).2.length<=a.length+l.length
 |[],_,_=>ufd _
 |c::l,s,a=>by have b:=VD l (nZ ((c.2.1,s.1.2.1,()),s.2) c) (kC s a c.2.1);have d:=Lo s a c.2.1;simp only[mc,uda];omega
def GP:ag prog 60 iE:=
 dz of_run _ _ (λw F x v u g=>by
  obtain⟨h,t,_⟩:=x;obtain⟨⟨k,r,l⟩,m⟩:cj h/\bf t:=g;unfold c9;cases i:lx h with
  |false=>refine aV ?_ ⟨uT,rfl⟩;show(!(lx h))=Z;rw[i];rfl
  |true=>
   refine aN ?_ (aw m ?_);show(!(lx h))=Y;rw[i];rfl;by_cases f:(cE h.2.2.1.1.1 t.1.reverse).2=0;rw[uf0 f];refine aN ?_ (aw ?_ (aw ?_ (aw ?_ ?_)));show((cE h.2.2.1.1.1 t.1.reverse).2 != 0)=Y;rw[f];rfl;show([]:List ar.q).length+h.2.2.1.2.2.1.length<=maxLen/\(([]:List ar.q).length+h.2.2.1.2.2.1.length)*40<=140737488355328;simp;exact⟨by unfold maxLen;omega,by omega⟩;show((aO h).length:Int)<=1000000;omega;show InvC5 (bV h) ((bV h).length:Int) 0 h [];exact⟨ufe _,ub4 _,rfl,by rw[GQ];exact k,λx p=>Cp p,l,ufe _⟩;have n:(pU h).2.length<=500000:=by
    have:=VD (((bV h).drop (0:Int).toNat).map (cw h)) ((h.2.2.1.1.1,0,()),Z,h.2.2.1.2.1,[]++h.2.2.1.2.2.1,0,()) [];have e:(((bV h).drop (0:Int).toNat).map (cw h)).length=(aO h).length:=by rw[ud3];exact GQ h
    rw[e]at this;have s:(pU h).2.length<=0+(aO h).length:=this;omega
   have c:kC (pU h).1 (pU h).2 h.2.2.1.1.2.1=ez h:=rfl;have b:(ez h).length<=1000000:=by rw[<- c];have:=Lo (pU h).1 (pU h).2 h.2.2.1.1.2.1;omega
   have a:(MA (cE h.2.2.1.1.1 t.1.reverse).1 (ez h)).ok/\(MA (cE h.2.2.1.1.1 t.1.reverse).1 (ez h)).get=((if dJ (cE h.2.2.1.1.1 t.1.reverse).1 (ez h)=0 then ((ez h).map (fW (cE h.2.2.1.1.1 t.1.reverse).1),(0:Int))else ([],dJ (cE h.2.2.1.1.1 t.1.reverse).1 (ez h))).1,(if dJ (cE h.2.2.1.1.1 t.1.reverse).1 (ez h)=0 then ((ez h).map (fW (cE h.2.2.1.1.1 t.1.reverse).1),(0:Int))else ([],dJ (cE h.2.2.1.1.1 t.1.reverse).1 (ez h))).2,()):=by refine aw ⟨ufe _,ub4 _,rfl,b⟩ ?_;by_cases d:dJ (cE h.2.2.1.1.1 t.1.reverse).1 (ez h)=0;rw[uf0 d];refine aN ?_ ⟨uT,rfl⟩;show(dJ (cE h.2.2.1.1.1 t.1.reverse).1 (ez h) != 0)=Y;rw[d];rfl;rw[uf1 d];exact aV (ufq.2 d) ⟨uT,rfl⟩
   have o:=Ul (out:=(pU h).2) (Q:=λy=>y=((if dJ (cE h.2.2.1.1.1 t.1.reverse).1 (ez h)=0 then ((ez h).map (fW (cE h.2.2.1.1.1 t.1.reverse).1),(0:Int))else ([],dJ (cE h.2.2.1.1.1 t.1.reverse).1 (ez h))).1,(if dJ (cE h.2.2.1.1.1 t.1.reverse).1 (ez h)=0 then ((ez h).map (fW (cE h.2.2.1.1.1 t.1.reverse).1),(0:Int))else ([],dJ (cE h.2.2.1.1.1 t.1.reverse).1 (ez h))).2,())) (by omega) (by exact q9 a.1 a.2)
   exact dt o;rw[uf1 f];refine aV ?_ ⟨uT,rfl⟩;exact ufq.2 f)
abbrev dx:Ty:=.pair i64 (.pair i64 (.pair i64 (.pair i64 (.pair i64 (.pair i64 .unit)))))
def A5:Ct:=⟨[.d i64],[.bool],λx=>(J (1<=x.1/\x.1<=1000000000),()),λ_=>[]⟩
def Ey:Ct:=⟨[.d i64],[.bool],λx=>(J (1<=x.1/\x.1<=292194),()),λ_=>[]⟩
def qde(n a b:Int):(bif J (n>=a)then J (n<=b)else Y)=J (a<=n/\n<=b):=by simp
def qzk:ag prog 177 A5:=
 flat (ps:=[.d i64]) (rs:=[.bool]) (aQ (cs:=[]) (ps:=[]) aH trivial trivial) (fn:=f177) (fr:=λx=>Jv (bif J (x.1>=1)then J (x.1<=1000000000)else Y,())) (0,()) (by kernel_rfl) (λx=>by kernel_rfl) _ _
  (λ_ _ x _ _ _=>⟨uT,ufz (qde x.1 1 1000000000) rfl⟩)
def qqb:ag prog 178 Ey:=
 flat (ps:=[.d i64]) (rs:=[.bool]) (aQ (cs:=[]) (ps:=[]) aH trivial trivial) (fn:=f178) (fr:=λx=>Jv (bif J (x.1>=1)then J (x.1<=292194)else Y,())) (0,()) (by kernel_rfl) (λx=>by kernel_rfl) _ _
  (λ_ _ x _ _ _=>⟨uT,ufz (qde x.1 1 292194) rfl⟩)
def Fd(i p k l b e:Int):Bool:=J (1<=i/\i<=1000000000)&&(J (1<=p/\p<=1000000000)&&(J (0<=e/\e<=1000000000)&&(J (0<=k/\k<=7)&&(J (1<=l/\l<=292194)&&J (1<=b/\b<=292194)))))
def JT:Ct:=⟨[.d dx],[.bool],λx=>(Fd x.1.1 x.1.2.1 x.1.2.2.1 x.1.2.2.2.1 x.1.2.2.2.2.1 x.1.2.2.2.2.2.1,()),λ_=>[]⟩
def CK1:Cx:=cx [(177,A5),(178,Ey)] []
def qff:CxOK prog CK1:=aQ aH ⟨qzk,qqb,uT⟩ trivial
def qw9(x:ap [.d dx]):Fr (aa [.bool]):=
 let c:dx.q:=x.1
 Jv (bif bif bif bif bif bif (A5.f (c.1,())).1 then (A5.f (c.2.1,())).1 else Y then (bif c.2.2.2.2.2.1==0 then Z else (A5.f (c.2.2.2.2.2.1,())).1)else Y then J (c.2.2.1>=0)else Y then J (c.2.2.1<=7)else Y then (Ey.f (c.2.2.2.1,())).1 else Y then (Ey.f (c.2.2.2.2.1,())).1 else Y,())
def zg0(i p k l b e:Int):(bif bif bif bif bif bif J (1<=i/\i<=1000000000)then J (1<=p/\p<=1000000000)else Y then (bif e==0 then Z else J (1<=e/\e<=1000000000))else Y then J (k>=0)else Y then J (k<=7)else Y then J (1<=l/\l<=292194)else Y then J (1<=b/\b<=292194)else Y)=Fd i p k l b e:=by
 have a:(bif e==0 then Z else J (1<=e/\e<=1000000000))=J (0<=e/\e<=1000000000):=by rw[udy];simp;omega
 have c:J (0<=k/\k<=7)=(J (k>=0)&&J (k<=7)):=by simp
 unfold Fd;rw[a,c];cases J (1<=i/\i<=1000000000)<;>cases J (1<=p/\p<=1000000000)<;>cases J (0<=e/\e<=1000000000)<;>cases J (k>=0)<;>cases J (k<=7)<;>cases J (1<=l/\l<=292194)<;>rfl
def zgq:ag prog 128 JT:=
 flat (ps:=[.d dx]) (rs:=[.bool]) qff (fn:=f128) (fr:=qw9) (dx.j,()) (by kernel_rfl) (λx=>by kernel_rfl) _ _
  (λ_ _ x _ _ _=>by obtain⟨⟨i,p,k,l,b,e,_⟩,_⟩:=x;exact⟨uT,ufz (zg0 i p k l b e) rfl⟩)
abbrev ba:Ty:=.pair i64 (.pair i64 (.pair i64 .unit))
abbrev ah:Ty:=.pair i64 (.pair i64 (.pair cK (.pair i64 (.pair i64 (.pair i64 (.pair i64 (.pair i64 .unit)))))))
abbrev ae:Ty:=.pair i64 (.pair i64 (.pair i64 (.pair i64 (.pair i64 (.pair dF (.pair ay (.pair dx (.pair ba (.pair ah .unit)))))))))
abbrev aE:Ty:=.pair bh (.pair (.sl ae) .unit)
abbrev bn:Ty:=.pair aD (.pair i64 .unit)
abbrev aq:Ty:=.pair dx (.pair (.sl ba) .unit)
abbrev ak:Ty:=.pair bh (.pair (.sl bn) (.pair (.sl aq) (.pair (.sl ah) (.pair i64 .unit))))
def gl(g:α->Bool):List α->Int->Option Int
 |[],_=>V
 |x::r,i=>if g x=Z then U i else gl g r (i+1)
abbrev jP(T:Ty):PT:=.fn [T] [.bool]
def Am(T:Ty):LS:=⟨[(0,.d (.sl T)),(1,jP T),(7,.d i64),(8,.d i64)],[]⟩
def yF(T:Ty):Pt:=⟨19,0,Am T,⟨[],[]⟩,⟨[(4,.d i64)],[]⟩⟩
def U8(T:Ty)(x:(Am T).X):Fr (yF T).Out:=
 match x with
 |((l,g,n,i,_),_)=>Jb (J (i<n))
  (Jd (0<=i/\i<l.length)
   (Jb (g (l.getD i.toNat T.j,())).1 (Jv (Rd.back ((i,()),())))
    (Jv (Rd.next ((l,g,n,I6.wrap (i+1),()),())))))
  (Jv (Rd.out ((),())))
def wv(l:List α)(n i:Int):Prop:=0<=i/\i<=n/\n=l.length/\n<=9223372036854775807
def Ri(T:Ty)(x:(Am T).X):Fr (yF T).Out:=
 Jd (wv x.1.1 x.1.2.2.1 x.1.2.2.2.1) (Jb (gl (λn=>(x.1.2.1 (n,())).1) (x.1.1.drop x.1.2.2.2.1.toNat) x.1.2.2.2.1).isSome
   (Jv (.back (((gl (λn=>(x.1.2.1 (n,())).1) (x.1.1.drop x.1.2.2.2.1.toNat) x.1.2.2.2.1).getD (-1),()),()))) (Jv (.out ((),()))))
def zb1 (T:Ty) (l:List T.q) (g:aa [T]->aa [.bool]) (n i:Int) (c:wv l n i) (Q:(yF T).Out->Prop) (a:(Jb (gl (λn=>(g (n,())).1) (l.drop i.toNat) i).isSome (Jv (Rd.back (((gl (λn=>(g (n,())).1) (l.drop i.toNat) i).getD (-1),()),()))) (Jv (Rd.out ((),())))  : Fr (yF T).Out).s7 Q) :
  (U8 T ((l,g,n,i,()),())).s7 λ
   |.next b=>wv b.1.1 b.1.2.2.1 b.1.2.2.2.1/\(b.1.2.2.1-b.1.2.2.2.1).toNat<(n-i).toNat/\(Ri T b).s7 Q
   |.out y=>Q (.out y)
   |.back z=>Q (.back z)
   |.pan p=>Q (.pan p):=by
 obtain⟨x,A,t,u⟩:=c;subst t;refine⟨λh=>?_,λh=>?_⟩;have m:i<(l.length:Int):=ucx h;obtain⟨k,rfl⟩:∃ k:Nat,i=k:=⟨i.toNat,by omega⟩;have r:k<l.length:=by omega
 have s:l.getD (k:Int).toNat T.j=l[k]:=by rw[show(k:Int).toNat=k by omega,uah,uaq r];rfl
 have w:I6.wrap ((k:Int)+1)=k+1:=IntWalk.i64_in _ (by omega);have v:l.drop (k:Int).toNat=l[k]::l.drop (k+1):=by exact(ual r)
 rw[v]at a;dsimp only[Fr.s7];rw[s,w];refine⟨⟨by omega,by omega⟩,λd=>?_,λd=>?_⟩;have:gl (λn=>(g (n,())).1) (l[k]::l.drop (k+1)) k=U (k:Int):=uf0 d;rw[this]at a;exact a.1 rfl;have f:¬ (g (l[k],())).1=true:=by rw[d];decide
 have:gl (λn=>(g (n,())).1) (l[k]::l.drop (k+1)) k=gl (λn=>(g (n,())).1) (l.drop (k+1)) (k+1):=uf1 f;rw[this]at a;have o:wv l l.length ((k:Int)+1):=⟨by omega,by omega,rfl,u⟩;refine⟨o,by omega,o,?_⟩;exact a;have m:¬ i<(l.length:Int):=uch h;have e:l.drop i.toNat=[]:=ua2 (by omega);rw[e]at a;exact a.2 rfl
def yg{p:Program}{b:Code}(T:Ty)(c:af p b (Am T) (yF T) (U8 T)):af p (.loop b) (Am T) (yF T) (Ri T):=by refine af.loop c (μ:=λx=>(x.1.2.2.1-x.1.2.2.2.1).toNat) ?_ (λx Q h=>h.1);rintro⟨⟨l,g,n,i,_⟩,_⟩ a Q d;exact zb1 T l g n i a Q d.2
def gY(g:α->Bool)(l:List α):Int:=(gl g l 0).getD (-1)
def ge(T:Ty):Ct:=⟨[.d (.sl T),jP T],[i64],λx=>(gY (λn=>(x.2.1 (n,())).1) x.1,()),λ_=>[]⟩
def r8(T:Ty)(x:ap [.d (.sl T),jP T]):Fr (aa [i64]):=Jd (wv x.1 x.1.length 0) (Jb (gl (λn=>(x.2.1 (n,())).1) x.1 0).isSome (Jv ((gl (λn=>(x.2.1 (n,())).1) x.1 0).getD (-1),())) (Jv (-1,())))
def xT{p:Program}{T:Ty}(h:ag p f ⟨[.d (.sl T),jP T],[i64],λx=>(r8 T x).get,λx=>[(r8 T x).ok]⟩):ag p f (ge T):=
 conv h _ _ (λw F x o e _=>by
  obtain⟨l,g,_⟩:=x;obtain⟨v,m,rfl,i,_⟩:=e;have a:=pg i;have c:wv l l.length 0:=⟨by omega,by omega,rfl,a⟩;refine aw c ?_;cases b:gl (λn=>(g (n,())).1) l 0 with
  |some k=>exact aV rfl ⟨uT,by show(k,())=_;unfold gY;rw[b];rfl⟩
  |none=>exact aN rfl ⟨uT,by show((-1:Int),())=_;unfold gY;rw[b];rfl⟩)
def Vh(g:α->Bool):(l:List α)->(i:Int)->0<=i->J ((gl g l i).getD (-1)>=0)=l.any g
 |[],_,_=>rfl
 |x::r,i,h=>by unfold gl;simp;split;rename_i a;rw[a];simp[h];rename_i a;rw[Vh g r (i+1) (by omega)];simp[a]
def BR(g:α->Bool)(l:List α):J (0<=gY g l)=l.any g:=Vh g l 0 (by omega)
def Vf(g:α->Bool):(l:List α)->(i k:Int)->gl g l i=U k->i<=k/\k<i+l.length/\∃ x,l[(k-i).toNat]?= U x/\g x=Z
 |[],_,_,h=>nomatch h
 |x::r,i,k,h=>by unfold gl at h;split at h;rename_i c;cases h;exact⟨by omega,by simp;omega,x,by rw[show(i-i).toNat=0 by omega];rfl,c⟩;obtain⟨d,e,y,a,b⟩:=Vf g r (i+1) k h;refine⟨by omega,by simp;omega,y,?_,b⟩;rw[show(k-i).toNat=(k-(i+1)).toNat+1 by omega];exact a
def pY{g:α->Bool}{l:List α}(h:0<=gY g l):gY g l<l.length/\∃ x,l[(gY g l).toNat]?= U x/\g x=true:=by
 unfold gY at h |-;cases a:gl g l 0 with
 |none=>rw[a]at h;exact absurd h (by decide)
 |some k=>obtain⟨d,e,x,b,c⟩:=Vf g l 0 k a;rw[ude];exact⟨by omega,x,by simpa using b,c⟩
def Gp{g:α->Bool}{l:List α}(h:gY g l<0):∀ x∈l,g x=false:=by
 have a:=BR g l;rw[udw (by omega)]at a;intro x c;cases b:g x with
 |false=>rfl
 |true=>have:l.any g=true:=List.any_eq_true.mpr ⟨x,c,b⟩;rw[<- a]at this;exact absurd this (by decide)
def ir(T:Ty):Ct:=⟨[.d (.sl T),jP T],[.bool],λx=>(x.1.any (λn=>(x.2.1 (n,())).1),()),λ_=>[]⟩
def W7:ag prog 175 (ge bn):=
 xT (cZ (fn:=f175) aL (yg bn (af.of_run aL (bs:=0) rfl rfl rfl (λ_=>bm _ 0) (λx=>by kernel_rfl))) (ps:=[.d (.sl bn),jP bn]) (rs:=[i64]) (fr:=r8 bn))
def Nk:ag prog 230 (ge aq):=
 xT (cZ (fn:=f230) aL (yg aq (af.of_run aL (bs:=0) rfl rfl rfl (λ_=>bm _ 0) (λx=>by kernel_rfl))) (ps:=[.d (.sl aq),jP aq]) (rs:=[i64]) (fr:=r8 aq))
def W8:ag prog 164 (ge ah):=
 xT (cZ (fn:=f164) aL (yg ah (af.of_run aL (bs:=0) rfl rfl rfl (λ_=>bm _ 0) (λx=>by kernel_rfl))) (ps:=[.d (.sl ah),jP ah]) (rs:=[i64]) (fr:=r8 ah))
def qgy:Cx:=cx [(230,ge aq)] []
def qgz:CxOK prog qgy:=aQ aH ⟨Nk,uT⟩ trivial
def Sb:ag prog 210 (ir aq):=
 conv (aT qgz f210 (fr:=λx=>Jv (J (gY (λn=>(x.2.1 (n,())).1) x.1>=0),())) (ps:=[.d (.sl aq),jP aq]) (rs:=[.bool])) _ _
  (λ_ _ x _ _ _=>⟨uT,ufz (BR _ x.1) rfl⟩)
def qg4:Cx:=cx [(164,ge ah)] []
def qg5:CxOK prog qg4:=aQ aH ⟨W8,uT⟩ trivial
def Ju:ag prog 114 (ir ah):=
 conv (aT qg5 f114 (fr:=λx=>Jv (J (gY (λn=>(x.2.1 (n,())).1) x.1>=0),())) (ps:=[.d (.sl ah),jP ah]) (rs:=[.bool])) _ _
  (λ_ _ x _ _ _=>⟨uT,ufz (BR _ x.1) rfl⟩)
section
open Go.Shelf Go.Lib
def Gt:∃ i0 z,InsTy prog 55 116 3 i0 z 11 120:=
 have ⟨i0,a,b,c,d⟩:=ufr (show(prog.info? 116).map (λi=>(i.zero,i.size,i.bytes))=U (U (.agg #[.int .i64 0,.int .i64 0,.int .i64 0,.int .i64 0,.int .i64 0,.int .i64 0,.int .i64 0,.int .i64 0,.slice V 0 0,.slice V 0 0,.int .i64 0]),11,120) by kernel_rfl)
 ⟨i0,_,underlying55,underlying3,a,b,c,d,rfl,by decide⟩
def qzz:DT prog 273 116 11 120:=by
 intro w B n s v xs news hB hs hv h1 h63 hby;obtain⟨i0,z,T⟩:=Gt;obtain⟨vb,vc,v',w',rfl,hr',e3,e2,e4⟩:=T.fin hB hs hv h1 h63 hby;have hn:(n:Int)<=9223372036854775807:=by unfold maxLen at h63;omega
 go_enter func273,ntmps273
 rcases hs.2 with ⟨rfl,rfl⟩|⟨g,cap,cur,rfl,hbg,hg,hnc,hcm,hcs,htake⟩
 all_goals go_wp2_with (at_builtin;refine Lib.wpList_append_run _ rfl _ _ _ _ rfl _ _ rfl rfl _ _ (hr' _) ?_)
 all_goals (go_ret;exact⟨_,rfl,e3,e2,e4⟩)
def qz2:DV prog 273 116 11:=by
 intro w n i g b E m p xs D C B t c s d l a k u x O P r F;obtain⟨i0,z,T⟩:=Gt;have A:b<=9223372036854775807:=by unfold maxLen at s;omega
 obtain⟨R,Q,G,N,M,_,K⟩:=xS C (by omega);have H:¬ (b=i+1):=by omega
 have L:¬ (b=i):=by omega
 obtain⟨C1,C2,f,h,S,W⟩:=T.shift C B t c d a k u x r F (vc:=m);have v:∀ y o,(callFunc 275 #[.slice (U ⟨E,0,V⟩) 1 m,.slice (U ⟨g,(i+1)*11,V⟩) y o]).run prog w=.ok (.value (.bool Y)) w:=λy o=>by
  rw[run_callFunc_extern func275 (by kernel_rfl) (by kernel_rfl) (by kernel_rfl) (e:=Extern.SlicesOverlaps.overlaps #[55,55] #[4]) (by kernel_rfl),
   Lib.run_overlaps_apart w 55 4 116 T.us 11 (λw=>by kernel_rfl) ⟨E,0,V⟩ ⟨g,(i+1)*11,V⟩ 1 m y o k 116 116 l.size p.size (by simp[World.shape?,a]) (by simp[World.shape?,B]) (by omega) (by simp[World.frozen?,a]) (by simp[World.frozen?,a])]
  rfl
 go_enter func273,ntmps273
 go_wp2_with (simp only[v])
 go_region_law (refine zB rfl _ _ 55 55 rfl _ _ (by simp[Act.eval,Act.put]) (by simp[Act.eval,Act.put]) (f _ _ _) ?_)
 go_wp2_with (at_builtin;refine qy _ rfl _ _ 55 55 rfl _ _ rfl rfl (h _ _) ?_)
 go_ret
 exact⟨C2,rfl,rfl,S,W⟩
def qz0:DU prog 273 116 11 120:=by
 intro w n i g d vb E K xs D C Q p t b c F x u y l L e o;obtain⟨i0,z,T⟩:=Gt;have k:n<=9223372036854775806:=by unfold maxLen at e;omega
 obtain⟨hz2,W,N,S,R,O,_⟩:=xS C k;obtain⟨G,H,C1,C2,v,h,a,m,f,r,s,k2,k3⟩:=T.grow C Q p t b c x u y l L e o (vc:=E);have hz3:(d:Int)<(n:Int)+(1:Int):=by omega
 have M:¬ (G=i):=by omega
 have B:¬ (G=i+1):=by omega
 have P:¬ (d=i):=by omega
 have A:G<=9223372036854775807:=by unfold maxLen at f;omega
 go_enter func273,ntmps273
 go_wp2_with (first
  |(at_builtin;refine Lib.wpList_append_run _ rfl _ _ _ _ rfl _ _ rfl rfl _ _ (v _) ?_)
  |(at_builtin;refine qy _ rfl _ _ 55 55 rfl _ _ rfl rfl (h _ _) ?_)
  |(at_builtin;refine qy _ rfl _ _ 55 55 rfl _ _ rfl rfl (a _ _ _) ?_))
 go_region_law (refine zB rfl _ _ 55 55 rfl _ _ (by simp[Act.eval,Act.put]) (by simp[Act.eval,Act.put]) (a _ _ _) ?_)
 go_wp2
 go_ret
 exact⟨G,C2,rfl,r,s,m,f,k2,k3⟩
def qz1:InsOK prog 273 116 bn 120:=Nv (enters_of func273 (by kernel_rfl) rfl) qzz qz0 qz2
def qoo:CloneOK prog 274 116 bn 120:=by
 refine⟨enters_of func274 (by kernel_rfl) rfl,λw n c A t p o b g m d e=>?_⟩;obtain⟨u,z,T⟩:=Gt;have a:=T.nil w
 go_enter func274,ntmps274
 cases A with
 |none=>
  have l:=o rfl;subst l;have r:t=[]:=uab (by simpa using b);subst r
  go_wp2_with (simp only[a])
  go_ret
  exact⟨_,rfl,⟨rfl,rfl,rfl,ufd _,λ_ _ _=>rfl⟩,ucs _ _ _ _⟩
 |some h=>
  obtain⟨s,v,f,k,i⟩:=T.clone b (g h rfl) m d e (n:=n) (c:=c)
  go_wp2_with (first|(simp only[a];done)|simp only[a]|(at_builtin;refine Lib.wpList_append_run _ rfl _ _ _ _ rfl _ _ rfl rfl _ _ (f _) ?_))
  go_ret
  exact⟨s,rfl,k,i⟩
def Gu:∃ i0 z,InsTy prog 56 150 3 i0 z 7 72:=
 have ⟨i0,a,b,c,d⟩:=ufr (show(prog.info? 150).map (λi=>(i.zero,i.size,i.bytes))=U (U (.agg #[.int .i64 0,.int .i64 0,.int .i64 0,.int .i64 0,.int .i64 0,.int .i64 0,.slice V 0 0]),7,72) by kernel_rfl)
 ⟨i0,_,underlying56,underlying3,a,b,c,d,rfl,by decide⟩
def qz3:DT prog 290 150 7 72:=by
 intro w B n s v xs news hB hs hv h1 h63 hby;obtain⟨i0,z,T⟩:=Gu;obtain⟨vb,vc,v',w',rfl,hr',e3,e2,e4⟩:=T.fin hB hs hv h1 h63 hby;have hn:(n:Int)<=9223372036854775807:=by unfold maxLen at h63;omega
 go_enter func290,ntmps290
 rcases hs.2 with ⟨rfl,rfl⟩|⟨g,cap,cur,rfl,hbg,hg,hnc,hcm,hcs,htake⟩
 all_goals go_wp2_with (at_builtin;refine Lib.wpList_append_run _ rfl _ _ _ _ rfl _ _ rfl rfl _ _ (hr' _) ?_)
 all_goals (go_ret;exact⟨_,rfl,e3,e2,e4⟩)
def qz6:DV prog 290 150 7:=by
 intro w n i g b E m p xs D C B t c s d l a k u x O P r F;obtain⟨i0,z,T⟩:=Gu;have A:b<=9223372036854775807:=by unfold maxLen at s;omega
 obtain⟨R,Q,G,N,M,_,K⟩:=xS C (by omega);have H:¬ (b=i+1):=by omega
 have L:¬ (b=i):=by omega
 obtain⟨C1,C2,f,h,S,W⟩:=T.shift C B t c d a k u x r F (vc:=m);have v:∀ y o,(callFunc 292 #[.slice (U ⟨E,0,V⟩) 1 m,.slice (U ⟨g,(i+1)*7,V⟩) y o]).run prog w=.ok (.value (.bool Y)) w:=λy o=>by
  rw[run_callFunc_extern func292 (by kernel_rfl) (by kernel_rfl) (by kernel_rfl) (e:=Extern.SlicesOverlaps.overlaps #[56,56] #[4]) (by kernel_rfl),
   Lib.run_overlaps_apart w 56 4 150 T.us 7 (λw=>by kernel_rfl) ⟨E,0,V⟩ ⟨g,(i+1)*7,V⟩ 1 m y o k 150 150 l.size p.size (by simp[World.shape?,a]) (by simp[World.shape?,B]) (by omega) (by simp[World.frozen?,a]) (by simp[World.frozen?,a])]
  rfl
 go_enter func290,ntmps290
 go_wp2_with (simp only[v])
 go_region_law (refine zB rfl _ _ 56 56 rfl _ _ (by simp[Act.eval,Act.put]) (by simp[Act.eval,Act.put]) (f _ _ _) ?_)
 go_wp2_with (at_builtin;refine qy _ rfl _ _ 56 56 rfl _ _ rfl rfl (h _ _) ?_)
 go_ret
 exact⟨C2,rfl,rfl,S,W⟩
def qz4:DU prog 290 150 7 72:=by
 intro w n i g d vb E K xs D C Q p t b c F x u y l L e o;obtain⟨i0,z,T⟩:=Gu;have k:n<=9223372036854775806:=by unfold maxLen at e;omega
 obtain⟨hz2,W,N,S,R,O,_⟩:=xS C k;obtain⟨G,H,C1,C2,v,h,a,m,f,r,s,k2,k3⟩:=T.grow C Q p t b c x u y l L e o (vc:=E);have hz3:(d:Int)<(n:Int)+(1:Int):=by omega
 have M:¬ (G=i):=by omega
 have B:¬ (G=i+1):=by omega
 have P:¬ (d=i):=by omega
 have A:G<=9223372036854775807:=by unfold maxLen at f;omega
 go_enter func290,ntmps290
 go_wp2_with (first
  |(at_builtin;refine Lib.wpList_append_run _ rfl _ _ _ _ rfl _ _ rfl rfl _ _ (v _) ?_)
  |(at_builtin;refine qy _ rfl _ _ 56 56 rfl _ _ rfl rfl (h _ _) ?_)
  |(at_builtin;refine qy _ rfl _ _ 56 56 rfl _ _ rfl rfl (a _ _ _) ?_))
 go_region_law (refine zB rfl _ _ 56 56 rfl _ _ (by simp[Act.eval,Act.put]) (by simp[Act.eval,Act.put]) (a _ _ _) ?_)
 go_wp2
 go_ret
 exact⟨G,C2,rfl,r,s,m,f,k2,k3⟩
def qz5:InsOK prog 290 150 aq 72:=Nv (enters_of func290 (by kernel_rfl) rfl) qz3 qz4 qz6
def qoq:CloneOK prog 291 150 aq 72:=by
 refine⟨enters_of func291 (by kernel_rfl) rfl,λw n c A t p o b g m d e=>?_⟩;obtain⟨u,z,T⟩:=Gu;have a:=T.nil w
 go_enter func291,ntmps291
 cases A with
 |none=>
  have l:=o rfl;subst l;have r:t=[]:=uab (by simpa using b);subst r
  go_wp2_with (simp only[a])
  go_ret
  exact⟨_,rfl,⟨rfl,rfl,rfl,ufd _,λ_ _ _=>rfl⟩,ucs _ _ _ _⟩
 |some h=>
  obtain⟨s,v,f,k,i⟩:=T.clone b (g h rfl) m d e (n:=n) (c:=c)
  go_wp2_with (first|(simp only[a];done)|simp only[a]|(at_builtin;refine Lib.wpList_append_run _ rfl _ _ _ _ rfl _ _ rfl rfl _ _ (f _) ?_))
  go_ret
  exact⟨s,rfl,k,i⟩
def Gv:∃ i0 z,InsTy prog 57 44 3 i0 z 9 72:=
 have ⟨i0,a,b,c,d⟩:=ufr (show(prog.info? 44).map (λi=>(i.zero,i.size,i.bytes))=U (U (.agg #[.int .i64 0,.int .i64 0,.int .i64 0,.int .i64 0,.int .i64 0,.int .i64 0,.int .i64 0,.int .i64 0,.int .i64 0]),9,72) by kernel_rfl)
 ⟨i0,_,underlying57,underlying3,a,b,c,d,rfl,by decide⟩
def zaa:DT prog 306 44 9 72:=by
 intro w B n s v xs news hB hs hv h1 h63 hby;obtain⟨i0,z,T⟩:=Gv;obtain⟨vb,vc,v',w',rfl,hr',e3,e2,e4⟩:=T.fin hB hs hv h1 h63 hby;have hn:(n:Int)<=9223372036854775807:=by unfold maxLen at h63;omega
 go_enter func306,ntmps306
 rcases hs.2 with ⟨rfl,rfl⟩|⟨g,cap,cur,rfl,hbg,hg,hnc,hcm,hcs,htake⟩
 all_goals go_wp2_with (at_builtin;refine Lib.wpList_append_run _ rfl _ _ _ _ rfl _ _ rfl rfl _ _ (hr' _) ?_)
 all_goals (go_ret;exact⟨_,rfl,e3,e2,e4⟩)
def zad:DV prog 306 44 9:=by
 intro w n i g b E m p xs D C B t c s d l a k u x O P r F;obtain⟨i0,z,T⟩:=Gv;have A:b<=9223372036854775807:=by unfold maxLen at s;omega
 obtain⟨R,Q,G,N,M,_,K⟩:=xS C (by omega);have H:¬ (b=i+1):=by omega
 have L:¬ (b=i):=by omega
 obtain⟨C1,C2,f,h,S,W⟩:=T.shift C B t c d a k u x r F (vc:=m);have v:∀ y o,(callFunc 309 #[.slice (U ⟨E,0,V⟩) 1 m,.slice (U ⟨g,(i+1)*9,V⟩) y o]).run prog w=.ok (.value (.bool Y)) w:=λy o=>by
  rw[run_callFunc_extern func309 (by kernel_rfl) (by kernel_rfl) (by kernel_rfl) (e:=Extern.SlicesOverlaps.overlaps #[57,57] #[4]) (by kernel_rfl),
   Lib.run_overlaps_apart w 57 4 44 T.us 9 (λw=>by kernel_rfl) ⟨E,0,V⟩ ⟨g,(i+1)*9,V⟩ 1 m y o k 44 44 l.size p.size (by simp[World.shape?,a]) (by simp[World.shape?,B]) (by omega) (by simp[World.frozen?,a]) (by simp[World.frozen?,a])]
  rfl
 go_enter func306,ntmps306
 go_wp2_with (simp only[v])
 go_region_law (refine zB rfl _ _ 57 57 rfl _ _ (by simp[Act.eval,Act.put]) (by simp[Act.eval,Act.put]) (f _ _ _) ?_)
 go_wp2_with (at_builtin;refine qy _ rfl _ _ 57 57 rfl _ _ rfl rfl (h _ _) ?_)
 go_ret
 exact⟨C2,rfl,rfl,S,W⟩
def zab:DU prog 306 44 9 72:=by
 intro w n i g d vb E K xs D C Q p t b c F x u y l L e o;obtain⟨i0,z,T⟩:=Gv;have k:n<=9223372036854775806:=by unfold maxLen at e;omega
 obtain⟨hz2,W,N,S,R,O,_⟩:=xS C k;obtain⟨G,H,C1,C2,v,h,a,m,f,r,s,k2,k3⟩:=T.grow C Q p t b c x u y l L e o (vc:=E);have hz3:(d:Int)<(n:Int)+(1:Int):=by omega
 have M:¬ (G=i):=by omega
 have B:¬ (G=i+1):=by omega
 have P:¬ (d=i):=by omega
 have A:G<=9223372036854775807:=by unfold maxLen at f;omega
 go_enter func306,ntmps306
 go_wp2_with (first
  |(at_builtin;refine Lib.wpList_append_run _ rfl _ _ _ _ rfl _ _ rfl rfl _ _ (v _) ?_)
  |(at_builtin;refine qy _ rfl _ _ 57 57 rfl _ _ rfl rfl (h _ _) ?_)
  |(at_builtin;refine qy _ rfl _ _ 57 57 rfl _ _ rfl rfl (a _ _ _) ?_))
 go_region_law (refine zB rfl _ _ 57 57 rfl _ _ (by simp[Act.eval,Act.put]) (by simp[Act.eval,Act.put]) (a _ _ _) ?_)
 go_wp2
 go_ret
 exact⟨G,C2,rfl,r,s,m,f,k2,k3⟩
def zac:InsOK prog 306 44 ah 72:=Nv (enters_of func306 (by kernel_rfl) rfl) zaa zab zad
def qot:CloneOK prog 307 44 ah 72:=by
 refine⟨enters_of func307 (by kernel_rfl) rfl,λw n c A t p o b g m d e=>?_⟩;obtain⟨u,z,T⟩:=Gv;have a:=T.nil w
 go_enter func307,ntmps307
 cases A with
 |none=>
  have l:=o rfl;subst l;have r:t=[]:=uab (by simpa using b);subst r
  go_wp2_with (simp only[a])
  go_ret
  exact⟨_,rfl,⟨rfl,rfl,rfl,ufd _,λ_ _ _=>rfl⟩,ucs _ _ _ _⟩
 |some h=>
  obtain⟨s,v,f,k,i⟩:=T.clone b (g h rfl) m d e (n:=n) (c:=c)
  go_wp2_with (first|(simp only[a];done)|simp only[a]|(at_builtin;refine Lib.wpList_append_run _ rfl _ _ _ _ rfl _ _ rfl rfl _ _ (f _) ?_))
  go_ret
  exact⟨s,rfl,k,i⟩
end
def gr(g:α->Int)(l:List α)(x:α):Int:=gY (λy=>J (g y>g x)) l
def gt(g:α->Int)(l:List α)(x:α):List α:=je (if gr g l x<0 then (l.length:Int)else gr g l x) l [x]
abbrev w6(T:Ty):List PT:=[.d (.sl T),.d T,.fn [T] [i64]]
def Bv(T:Ty)(n:Nat)(x:ap (w6 T)):Fr (aa [.sl T]):=
 let b:=x.2.2.1;let a:=(x.1.length:Int);Jd (∀ y:aa [T],gN [T] y->az ([]:List Prop)) (Jb (J (gr (λy=>(b (y,())).1) x.1 x.2.1<0))
  (Jd (x.1.length<=maxLen) (Jd (x.1.length*n<=140737488355328) (Jd (0<=a/\a<=x.1.length) (Jd ([x.2.1].length=1) (Jd (x.1.length+1<=maxLen/\(x.1.length+1)*n<=140737488355328)
   (Jv (je a x.1 [x.2.1],())))))))
  (Jd (x.1.length<=maxLen) (Jd (x.1.length*n<=140737488355328) (Jd (0<=gr (λy=>(b (y,())).1) x.1 x.2.1/\gr (λy=>(b (y,())).1) x.1 x.2.1<=x.1.length) (Jd ([x.2.1].length=1) (Jd (x.1.length+1<=maxLen/\(x.1.length+1)*n<=140737488355328)
   (Jv (je (gr (λy=>(b (y,())).1) x.1 x.2.1) x.1 [x.2.1],()))))))))
def wP(T:Ty):Ct:=⟨w6 T,[.sl T],λx=>(gt (λy=>(x.2.2.1 (y,())).1) x.1 x.2.1,()),λx=>[x.1.length<=100000]⟩
def O5(T:Ty)(e:n<=1000)(x:ap (w6 T))(f:x.1.length<=100000):(Bv T n x).ok/\(Bv T n x).get=(gt (λy=>(x.2.2.1 (y,())).1) x.1 x.2.1,()):=by
 have b:x.1.length<=maxLen:=by unfold maxLen;omega
 have c:x.1.length*n<=140737488355328:=by have:x.1.length*n<=100000*1000:=uef f e;omega
 have d:x.1.length+1<=maxLen/\(x.1.length+1)*n<=140737488355328:=by refine⟨by unfold maxLen;omega,?_⟩;have:(x.1.length+1)*n<=100001*1000:=uef (by omega) e;omega
 refine aw (λ_ _=>uT) ?_;by_cases a:gr (λy=>(x.2.2.1 (y,())).1) x.1 x.2.1<0;exact aV (ueb a) (aw b (aw c (aw ⟨by omega,by omega⟩ (aw rfl (aw d ⟨uT,by unfold gt;rw[uf0 a];rfl⟩)))));refine aN (udw a) (aw b (aw c (aw ⟨by omega,?_⟩ (aw rfl (aw d ⟨uT,by unfold gt;rw[uf1 a];rfl⟩)))));exact uev (pY (by unfold gr at a;omega)).1
def zqd{i:Int}(a:0<=i)(b:i<(n:Int)):i.toNat<n:=by omega
abbrev Ao(T:Ty):List PT:=[.d (.sl T),.d i64,.d T]
def FX(T:Ty)(n:Nat)(x:ap (Ao T)):Fr (aa [.sl T]):=
 Jd (x.1.length<=maxLen) (Jd (x.1.length*n<=140737488355328) (Jd (0<=x.2.1/\x.2.1<(x.1.length:Int)) (Jd (x.2.1.toNat<x.1.length) (Jv (x.1.set x.2.1.toNat x.2.2.1,())))))
def EF(T:Ty):Ct:=⟨Ao T,[.sl T],λx=>(x.1.set x.2.1.toNat x.2.2.1,()),λx=>[x.1.length<=100000,0<=x.2.1/\x.2.1<(x.1.length:Int)]⟩
def qdy(T:Ty)(f:n<=1000)(x:ap (Ao T))(b:x.1.length<=100000)(a:0<=x.2.1/\x.2.1<(x.1.length:Int)):(FX T n x).ok/\(FX T n x).get=(x.1.set x.2.1.toNat x.2.2.1,()):=by
 obtain⟨l,i,y,_⟩:=x;have c:l.length<=maxLen:=by unfold maxLen;exact ueq b (by decide)
 have d:l.length*n<=140737488355328:=by have:l.length*n<=100000*1000:=uef b f;omega
 have e:i.toNat<l.length:=zqd a.1 a.2;exact aw c (aw d (aw a (aw e ⟨uT,rfl⟩)))
def lP(T:Ty):Ct:=⟨[.d T,.pfn [T] [i64],.ptr T],[.bool],λx=>(J ((x.2.1 (x.1,())).1>(x.2.1 (x.2.2.1,())).1),()),λ_=>[]⟩
def zjn:ag prog 272 (lP bn):=
 conv (aT aL f272 (fr:=λx=>Jv (J ((x.2.1 (x.1,())).1>(x.2.1 (x.2.2.1,())).1),())) (ps:=(lP bn).ps) (rs:=[.bool])) _ _ (λ_ _ _ _ _ _=>⟨uT,rfl⟩)
def qg6:Cx:=nV [(175,ge bn),(272,lP bn)] [] [(274,.clone 116 bn 120),(273,.ins 116 bn 120)] (λ_ _ _ _=>V)
def Q8:CxOK prog qg6:=pE (cs:=[(175,ge bn),(272,lP bn)]) (ps:=[]) (rs:=[(274,.clone 116 bn 120),(273,.ins 116 bn 120)]) aH ⟨W7,zjn,uT⟩ trivial ⟨qoo,qz1,uT⟩ (λ_ _ _ _ _ h=>(nomatch h))
def zjr:ag prog 269 (wP bn):=
 conv (aT Q8 f269 (fr:=Bv bn 120) (ps:=w6 bn) (rs:=[.sl bn])) _ _ (λ_ _ x _ _ h=>O5 bn (by decide) x h)
def zrx:ag prog 282 (EF bn):=
 conv (aT Q8 f282 (fr:=FX bn 120) (ps:=Ao bn) (rs:=[.sl bn])) _ _ (λ_ _ x _ _ h=>qdy bn (by decide) x h.1 h.2)
def zjo:ag prog 289 (lP aq):=
 conv (aT aL f289 (fr:=λx=>Jv (J ((x.2.1 (x.1,())).1>(x.2.1 (x.2.2.1,())).1),())) (ps:=(lP aq).ps) (rs:=[.bool])) _ _ (λ_ _ _ _ _ _=>⟨uT,rfl⟩)
def qg7:Cx:=nV [(230,ge aq),(289,lP aq)] [] [(291,.clone 150 aq 72),(290,.ins 150 aq 72)] (λ_ _ _ _=>V)
def Q9:CxOK prog qg7:=pE (cs:=[(230,ge aq),(289,lP aq)]) (ps:=[]) (rs:=[(291,.clone 150 aq 72),(290,.ins 150 aq 72)]) aH ⟨Nk,zjo,uT⟩ trivial ⟨qoq,qz5,uT⟩ (λ_ _ _ _ _ h=>(nomatch h))
def zjs:ag prog 286 (wP aq):=
 conv (aT Q9 f286 (fr:=Bv aq 72) (ps:=w6 aq) (rs:=[.sl aq])) _ _ (λ_ _ x _ _ h=>O5 aq (by decide) x h)
def zrz:ag prog 297 (EF aq):=
 conv (aT Q9 f297 (fr:=FX aq 72) (ps:=Ao aq) (rs:=[.sl aq])) _ _ (λ_ _ x _ _ h=>qdy aq (by decide) x h.1 h.2)
def zjp:ag prog 305 (lP ah):=
 conv (aT aL f305 (fr:=λx=>Jv (J ((x.2.1 (x.1,())).1>(x.2.1 (x.2.2.1,())).1),())) (ps:=(lP ah).ps) (rs:=[.bool])) _ _ (λ_ _ _ _ _ _=>⟨uT,rfl⟩)
def qg8:Cx:=nV [(164,ge ah),(305,lP ah)] [] [(307,.clone 44 ah 72),(306,.ins 44 ah 72)] (λ_ _ _ _=>V)
def qg9:CxOK prog qg8:=pE (cs:=[(164,ge ah),(305,lP ah)]) (ps:=[]) (rs:=[(307,.clone 44 ah 72),(306,.ins 44 ah 72)]) aH ⟨W8,zjp,uT⟩ trivial ⟨qot,zac,uT⟩ (λ_ _ _ _ _ h=>(nomatch h))
def zjt:ag prog 302 (wP ah):=
 conv (aT qg9 f302 (fr:=Bv ah 72) (ps:=w6 ah) (rs:=[.sl ah])) _ _ (λ_ _ x _ _ h=>O5 ah (by decide) x h)
abbrev bW(s:ak.q):List bn.q:=s.2.1
abbrev aJ(s:ak.q):List aq.q:=s.2.2.1
abbrev bT(s:ak.q):List ah.q:=s.2.2.2.1
abbrev kg(s:ak.q):Int:=s.2.2.2.2.1
abbrev bF(f:ae.q):Int:=f.1
abbrev aM(f:ae.q):Int:=f.2.1
abbrev iw(f:ae.q):Int:=f.2.2.1
abbrev ej(f:ae.q):Int:=f.2.2.2.1
abbrev dA(f:ae.q):Int:=f.2.2.2.2.1
abbrev ma(f:ae.q):dF.q:=f.2.2.2.2.2.1
abbrev iv(f:ae.q):ay.q:=f.2.2.2.2.2.2.1
abbrev dk(f:ae.q):dx.q:=f.2.2.2.2.2.2.2.1
abbrev lu(f:ae.q):ba.q:=f.2.2.2.2.2.2.2.2.1
abbrev dB(f:ae.q):ah.q:=f.2.2.2.2.2.2.2.2.2.1
abbrev ev(a:bn.q):Int:=a.1.1
abbrev kK(g:aq.q):Int:=g.1.1
def dw(s:ak.q)(id:Int):Int:=gY (λa=>ev a==id) (bW s)
def eS(s:ak.q)(id:Int):Int:=gY (λg=>kK g==id) (aJ s)
def gO(s:ak.q)(id:Int):bn.q×Bool:=if dw s id>=0 then ((bW s).getD (dw s id).toNat bn.j,Z)else (bn.j,Y)
def JJ:Ct:=⟨[.d bn,.ptr i64],[.bool],λx=>(ev x.1==x.2.1,()),λ_=>[]⟩
def Kc:Ct:=⟨[.d aq,.ptr i64],[.bool],λx=>(kK x.1==x.2.1,()),λ_=>[]⟩
def qkf:ag prog 176 JJ:=
 conv (aT aL f176 (fr:=λx=>Jv (ev x.1==x.2.1,())) (ps:=JJ.ps) (rs:=[.bool])) _ _ (λ_ _ _ _ _ _=>⟨uT,rfl⟩)
def qv8:ag prog 288 Kc:=
 conv (aT aL f288 (fr:=λx=>Jv (kK x.1==x.2.1,())) (ps:=Kc.ps) (rs:=[.bool])) _ _ (λ_ _ _ _ _ _=>⟨uT,rfl⟩)
def CS7:Cx:=cx [(175,ge bn),(230,ge aq),(176,JJ),(288,Kc)] []
def QA:CxOK prog CS7:=aQ aH ⟨W7,Nk,qkf,qv8,uT⟩ trivial
abbrev w7:List PT:=[.d ak,.d i64]
def JK:Ct:=⟨w7,[i64],λx=>(dw x.1 x.2.1,()),λ_=>[]⟩
def Kd:Ct:=⟨w7,[i64],λx=>(eS x.1 x.2.1,()),λ_=>[]⟩
def RT:ag prog 125 JK:=
 conv (aT QA f125 (fr:=λx=>Jd (∀ y:aa [bn],gN [bn] y->az ([]:List Prop)) (Jv (dw x.1 x.2.1,()))) (ps:=w7) (rs:=[i64])) _ _ (λ_ _ _ _ _ _=>aw (λ_ _=>uT) ⟨uT,rfl⟩)
def UW:ag prog 285 Kd:=
 conv (aT QA f285 (fr:=λx=>Jd (∀ y:aa [aq],gN [aq] y->az ([]:List Prop)) (Jv (eS x.1 x.2.1,()))) (ps:=w7) (rs:=[i64])) _ _ (λ_ _ _ _ _ _=>aw (λ_ _=>uT) ⟨uT,rfl⟩)
def qhb:Cx:=cx [(125,JK),(285,Kd)] []
def qhc:CxOK prog qhb:=aQ aH ⟨RT,UW,uT⟩ trivial
def wI:Ct:=⟨w7,[bn,.bool],λx=>((gO x.1 x.2.1).1,(gO x.1 x.2.1).2,()),λ_=>[]⟩
def RV:ag prog 78 wI:=
 conv (aT qhc f78 (fr:=λx=>Jb (J (dw x.1 x.2.1>=0)) (Jd (0<=dw x.1 x.2.1/\dw x.1 x.2.1<((bW x.1).length:Int)) (Jv ((bW x.1).getD (dw x.1 x.2.1).toNat bn.j,Z,()))) (Jv (bn.j,Y,()))) (ps:=w7) (rs:=[bn,.bool])) _ _ (λ_ _ x _ _ _=>by by_cases h:dw x.1 x.2.1>=0;refine aV (ueb h) (aw ⟨h,(pY h).1⟩ ⟨uT,?_⟩);show _=((gO x.1 x.2.1).1,(gO x.1 x.2.1).2,());unfold gO;rw[uf0 h];rfl;refine aN (udw h) ⟨uT,?_⟩;show _=((gO x.1 x.2.1).1,(gO x.1 x.2.1).2,());unfold gO;rw[uf1 h];rfl)
def hZ(t:bh.q):ak.q:=(t,[],[],[],0,())
def A7:Ct:=⟨[.d bh],[ak],λx=>(hZ x.1,()),λ_=>[]⟩
def Yo:ag prog 35 A7:=
 conv (aT aL f35 (fr:=λx=>Jv (hZ x.1,())) (ps:=[.d bh]) (rs:=[ak])) _ _ (λ_ _ _ _ _ _=>⟨uT,rfl⟩)
def jA(n a b:Int):Bool:=bif J (n>=a)then J (n<=b)else Y
def zry{n b:Int}:jA n a b=Z↔a<=n/\n<=b:=by unfold jA;by_cases h:a<=n<;>simp[h]
abbrev RM:List PT:=[.d i64,.d i64,.d i64]
def jJ:Ct:=⟨RM,[.bool],λx=>(jA x.1 x.2.1 x.2.2.1,()),λ_=>[]⟩
def qd0:ag prog 109 jJ:=
 conv (aT aL f109 (fr:=λx=>Jv (jA x.1 x.2.1 x.2.2.1,())) (ps:=RM) (rs:=[.bool])) _ _ (λ_ _ _ _ _ _=>⟨uT,rfl⟩)
def E9:Ct:=⟨[.d dx],[aq],λx=>((x.1,[],()),()),λ_=>[]⟩
def YN:ag prog 228 E9:=
 conv (aT aL f228 (fr:=λx=>Jv ((x.1,[],()),())) (ps:=[.d dx]) (rs:=[aq])) _ _ (λ_ _ _ _ _ _=>⟨uT,rfl⟩)
def qb(g:aq.q):Int:=match g.2.1.getLast? with
 |some a=>a.1
 |none=>g.1.2.2.2.2.1
def FU(g:aq.q):Fr (aa [i64]):=let a:=((List.length g.2.1):Int);Jb (J (a>0)) (Jd (0<=I6.wrap (a-1)/\I6.wrap (a-1)<a) (Jv ((List.getD g.2.1 (I6.wrap (a-1)).toNat ba.j).1,()))) (Jv (g.1.2.2.2.2.1,()))
def zbo{c:dx.q}{l:List ba.q}(b:(l.length:Int)<=9223372036854775807):(FU (c,l,())).ok/\(FU (c,l,())).get=(qb (c,l,()),()):=by
 cases l with
 |nil=>exact aN rfl ⟨uT,rfl⟩
 |cons a r=>
  have d:I6.wrap (((a::r).length:Int)-1)=r.length:=by rw[IntWalk.i64_in _ (by simp only[uda]at b |-;omega)];simp
  unfold FU;refine aV (by simp) ?_;dsimp only;rw[d];refine aw ⟨by omega,by simp only[uda];omega⟩ ⟨uT,?_⟩;show((List.getD (a::r) ((r.length:Int)).toNat ba.j).1,())=_;unfold qb;rw[uao,uah];have:((r.length:Int)).toNat=(a::r).length-1:=by simp
  rw[this,uaq (by simp)];rfl
def E8:Ct:=⟨[.d aq],[i64],λx=>(qb x.1,()),λ_=>[]⟩
def zbm:ag prog 238 E8:=
 conv (aT aL f238 (fr:=λx=>FU x.1) (ps:=[.d aq]) (rs:=[i64])) _ _ (λw F x h e _=>by
  obtain⟨⟨c,l,_⟩,_⟩:=x;obtain⟨v,g,rfl,f,_⟩:=e;have b:l.length<=maxLen:=(aG.wf f.2.2).2.1.1;have a:(l.length:Int)<=9223372036854775807:=by unfold maxLen at b;omega
  exact zbo a)
abbrev CJ:Ty:=.pair i64 (.pair i64 .unit)
abbrev oF:Pt:=⟨24,0,⟨[(9,.d i64),(8,.d i64),(7,.d aP)],[.x 2 241 CJ,.r 2 2 0]⟩,⟨[],[]⟩,⟨[(4,.d .bool)],[]⟩⟩
abbrev zy:Type:=ap []×dj [.x 2 241 CJ,.r 2 2 0]
def zJ(e:i64.q)(s:zy):Fr (zy ⊕ oF.R.X):=
 Jb (bif J (e<s.2.1.1)then Z else J (e>s.2.1.2.1)) (Jv (.inr ((Y,()),()))) (Jv (.inl ((),(s.2.1.1,s.2.1.2.1,()),())))
def sF(x:oF.M.X):Int×List i64.q×zy:=(x.1.1,x.1.2.2.1,x.1.2.2.2,x.2)
def Wc(x:oF.M.X):Prop:=x.1.2.1=(x.1.2.2.1.length:Int)
def zii(s:zy):oF.E.X:=((),())
def qp6:zy:=(aY _,cf _)
def KY:oF.R.X:=(aY _,cf _)
def zfc:af prog (.loop (au f110 0)) oF.M oF (FL zJ sF Wc zii Rd.back qp6 KY):=
 sQ aL (λ_ _=>.n .o) i64.j (λx=>x.1.2.1) (λx s=>((I6.wrap (x.1.1+1),x.1.2.1,x.1.2.2.1,s.1),s.2)) (λ_ h=>h)
def zm(y:oF.M.X):zy ⊕ oF.R.X:=eC zJ ((sF y).2.1.drop (sF y).1.toNat) (sF y).2.2
def zhu(y:oF.M.X):Prop:=l6 zJ ((sF y).2.1.drop (sF y).1.toNat) (sF y).2.2
def Oi{step:T->σ->Fr (σ ⊕ ρ)}:(l:List T)->(∀ e∈l,∀ s,(step e s).ok)->(s:σ)->l6 step l s
 |[],_,_=>trivial
 |e::l,h,s=>⟨h e ucc s,by split;exact Oi l (λe a=>h e (ubj _ a)) _;trivial⟩
def MR{step:T->σ->Fr (σ ⊕ ρ)}{I:σ->Prop}{p:T->Bool}{c:ρ}(h:∀ e s,I s->(step e s).get=if p e=Z then .inl s else .inr c):(l:List T)->(s:σ)->I s->eC step l s=if l.all p=Z then .inl s else .inr c
 |[],_,_=>rfl
 |e::l,s,a=>by by_cases b:p e=Z;simp only[eC,h e s a,b,if_true,uek,uem];exact MR h l s a;simp only[eC,h e s a,b,ufx,uek,Bool.false_and,ub3]
def LZ(x:ap [.d CJ,.d aP]):Fr (aa [.bool]):=
 let a:=((0,((List.length x.2.1):Int),x.2.1,()),(x.1.1,x.1.2.1,()),());Jd (InL (Wc a) (sF a)) (Jd (zhu a) (Jb (dV (zm a)) (Jv (Z,())) (Jv ((e9 KY (zm a)).1.1,()))))
def qvg:ag prog 110 (bg [.d CJ,.d aP] [.bool] LZ):=
 cZ aL zfc
def iI(a b:Int)(l:List Int):Bool:=l.all λx=>J (a<=x)&&J (x<=b)
def fj:Ct:=⟨[.d CJ,.d aP],[.bool],λx=>(iI x.1.1 x.1.2.1 x.2.1,()),λ_=>[]⟩
def qzh(a b:Int)(l:List Int):eC zJ l ((),(a,b,()),())=if iI a b l=Z then .inl ((),(a,b,()),())else .inr ((Y,()),()):=
 MR (I:=λs=>s=((),(a,b,()),())) (λe s f=>by subst f;by_cases c:e<a;rw[uf1 (by simp;omega)];exact uf0 (by simp[c]);by_cases d:e>b;rw[uf1 (by simp;omega)];exact uf0 (by simp[d]);rw[uf0 (by simp;omega)];exact uf1 (by simp;omega)) l _ rfl
def qzi:ag prog 110 fj:=
 conv qvg _ _ (λw F x p k _=>by
  obtain⟨⟨a,b,_⟩,l,_⟩:=x;obtain⟨v,m,rfl,n,f⟩:=k;obtain⟨o,i,rfl,g,_⟩:=f;have d:((List.length (α:=Int) l:Nat):Int)<=9223372036854775807:=pg g;show(LZ ((a,b,()),l,())).ok/\(LZ ((a,b,()),l,())).get=(iI a b l,());refine aw ⟨rfl,ufe _,ub4 _,d⟩ (aw (Oi (step:=zJ) _ (λe _ s=>⟨λ_=>uT,λ_=>uT⟩) _) ?_);have c:zm ((0,((List.length (α:=Int) l:Nat):Int),l,()),(a,b,()),())=if iI a b l=Z then .inl ((),(a,b,()),())else .inr ((Y,()),()):=by show eC zJ (List.drop 0 l) ((),(a,b,()),())=_;rw[ueg,qzh]
  cases h:iI a b l;rw[h,uf1 (by decide)]at c;refine aN (by show dV (zm ((0,((List.length (α:=Int) l:Nat):Int),l,()),(a,b,()),()))=Y;rw[c];rfl) ⟨uT,?_⟩;show((e9 KY (zm ((0,((List.length (α:=Int) l:Nat):Int),l,()),(a,b,()),()))).1.1,())=_;rw[c];rfl;rw[h,uf0 rfl]at c;exact aV (by show dV (zm ((0,((List.length (α:=Int) l:Nat):Int),l,()),(a,b,()),()))=Z;rw[c];rfl) ⟨uT,rfl⟩)
def qf0:Cx:=cx [(110,fj),(102,qV),(140,iD),(109,jJ)] []
def wb:CxOK prog qf0:=aQ aH ⟨qzi,XW,rC,qd0,uT⟩ trivial
abbrev ax:Ty:=.pair i64 (.pair i64 (.pair i64 (.pair i64 (.pair i64 .unit))))
def ub(x:ap [.d ah]):Fr (aa [.bool]):=
 let l:=x.1.2.1;let g:=x.1.2.2.2;let m:=fj.f ((1,10000,()),[g.1],());let k:=J (g.2.2.1>0);let h:=((fj.f ((0,0,()),[g.2.1,g.2.2.1,g.2.2.2.1],())).1,());let c:=((fj.f ((0,100,()),[g.2.2.2.1],())).1,());let b:=(Y,());let a:=fj.f ((0,1000000000000000,()),[g.2.1,g.2.2.1],());Jb (!(fj.f ((1,1000000000,()),[x.1.1],())).1) (Jb Z (Jv b) (Jb (l==1) (Jb m.1 (Jv h) (Jv b)) (Jb (l==2) (Jb (l==2) (Jb (g.1==0) (Jb a.1 (Jb k (Jv c) (Jv b)) (Jv b)) (Jv b)) (Jv b)) (Jb (l==3) (Jb (g.1==0) (Jb a.1 (Jb k (Jv c) (Jv b)) (Jv b)) (Jv b)) (Jv b))))) (Jb ((qV.f ((x.1.2.2.1.1,x.1.2.2.1.2.1,()),())).1==0) (Jb Z (Jv b) (Jb (l==1) (Jb m.1 (Jv h) (Jv b)) (Jb (l==2) (Jb (l==2) (Jb (g.1==0) (Jb a.1 (Jb k (Jv c) (Jv b)) (Jv b)) (Jv b)) (Jv b)) (Jb (l==3) (Jb (g.1==0) (Jb a.1 (Jb k (Jv c) (Jv b)) (Jv b)) (Jv b)) (Jv b))))) (Jb (!(fj.f ((1,255,()),[g.2.2.2.2.1],())).1) (Jv b) (Jb (l==1) (Jb m.1 (Jv h) (Jv b)) (Jb (l==2) (Jb (l==2) (Jb (g.1==0) (Jb a.1 (Jb k (Jv c) (Jv b)) (Jv b)) (Jv b)) (Jv b)) (Jb (l==3) (Jb (g.1==0) (Jb a.1 (Jb k (Jv c) (Jv b)) (Jv b)) (Jv b)) (Jv b))))))
def qvf:ag prog 70 (bg [.d ah] [.bool] ub):=
 aT wb f70
def xE(x:ap [.d ax]):Fr (aa [.bool]):=
 let a:=(Y,());Jb (fj.f ((1,1000000000,()),[x.1.1],())).1 (Jb (fj.f ((0,1000000000,()),[x.1.2.1],())).1 (Jb (fj.f ((1,292194,()),[x.1.2.2.1],())).1 (Jb (fj.f ((0,7,()),[x.1.2.2.2.1],())).1 (Jv ((fj.f ((0,1000000000000000,()),[x.1.2.2.2.2.1],())).1,())) (Jv a)) (Jv a)) (Jv a)) (Jv a)
def qve:ag prog 113 (bg [.d ax] [.bool] xE):=
 aT wb f113
def UJ(x:ap [.d dx]):Fr (aa [.bool]):=
 let a:=x.1.2.2;Jv (bif bif bif bif (jJ.f (x.1.1,1,1000000000,())).1 then (jJ.f (x.1.2.1,1,1000000000,())).1 else Y then (jJ.f (a.2.2.2.1,0,1000000000,())).1 else Y then bif (jJ.f (a.2.1,1,292194,())).1 then (jJ.f (a.2.2.1,1,292194,())).1 else Y else Y then (jJ.f (a.1,0,7,())).1 else Y,())
def qto:ag prog 68 (bg [.d dx] [.bool] UJ):=
 aT wb f68
def Fx(x:ap [.d ba]):Fr (aa [.bool]):=
 let b:=jJ.f (x.1.2.1,1,5,());let a:=jJ.f (x.1.1,1,292194,());Jb (bif x.1.2.1==4 then Z else x.1.2.1==5) (Jv (bif bif a.1 then b.1 else Y then (jJ.f (x.1.2.2.1,0,0,())).1 else Y,())) (Jv (bif bif a.1 then b.1 else Y then (jJ.f (x.1.2.2.1,0,1000000000000000,())).1 else Y,()))
def qtp:ag prog 69 (bg [.d ba] [.bool] Fx):=
 aT wb f69
def LD(x:ap [.d ae]):Fr (aa [.bool]):=
 let a:=x.1.2.2.2.2.2;let h:=a.1.2.1;let g:=a.2.2;let k:=g.1.2.2;let c:=a.2.1.2.2.2;let b:=g.2.2.1.2;let l:=b.2.2.2;Jv (bif bif bif bif bif bif bif bif bif bif bif bif bif bif ((List.length c.2.1):Int)==0 then ((List.length a.1.2.2.1):Int)==0 else Y then x.1.2.2.1==0 else Y then x.1.2.2.2.1==0 else Y then x.1.2.2.2.2.1==0 else Y then a.1.1.1==0&&(a.1.1.2.1==0&&Z)else Y then h.1==0&&(h.2.1==0&&(h.2.2.1==0&&(h.2.2.2.1==0&&Z)))else Y then a.2.1.1==0 else Y then a.2.1.2.1==0 else Y then a.2.1.2.2.1==0 else Y then c.2.2.1==0 else Y then c.1.1==0&&(c.1.2.1==0&&(c.1.2.2.1==0&&(c.1.2.2.2.1==0&&Z)))else Y then g.1.1==0&&(g.1.2.1==0&&(k.1==0&&(k.2.1==0&&(k.2.2.1==0&&(k.2.2.2.1==0&&Z)))))else Y then g.2.1.1==0&&(g.2.1.2.1==0&&(g.2.1.2.2.1==0&&Z))else Y then g.2.2.1.1==0&&(b.1==0&&(b.2.1.1==0&&(b.2.1.2.1==0&&Z)&&(b.2.2.1==0&&(l.1==0&&(l.2.1==0&&(l.2.2.1==0&&(l.2.2.2.1==0&&Z)))))))else Y,())
def qtl:ag prog 65 (bg [.d ae] [.bool] LD):=
 aT wb f65
def LW(x:ap [.d ah,.d i64,.d i64]):Fr (aa [i64]):=
 let a:=iD.f ((x.1.2.2.1.1,x.1.2.2.1.2.1,()),x.2.1,());Jd ((bif x.1.2.1 != 1 then Z else !a.1)=Y->¬x.2.2.1<0) (Jb (bif bif x.1.2.1 != 1 then Z else !a.1 then Z else I6.wrap ((Bvo I6.bits (Int.fdiv x.1.2.2.2.2.2.2.2.1 (2 ^ min (Int.toNat x.2.2.1) I6.bits)) &&& Bvo I6.bits 1).toNat:Int)==0) (Jv (0,())) (Jv (x.1.2.2.2.1,())))
def qu5:ag prog 308 (bg [.d ah,.d i64,.d i64] [i64] LW):=
 aT wb f308
def gG(t:ah.q):Bool:=(ub (t,())).get.1
def l8(l:ax.q):Bool:=(xE (l,())).get.1
def nN(c:dx.q):Bool:=(UJ (c,())).get.1
def lc(a:ba.q):Bool:=(Fx (a,())).get.1
def wE(f:ae.q):Bool:=(LD (f,())).get.1
def cS(t:ah.q)(b a:Int):Int:=(LW (t,b,a,())).get.1
def kw:Ct:=⟨[.d ah],[.bool],λx=>(gG x.1,()),λ_=>[]⟩
def nO:Ct:=⟨[.d ax],[.bool],λx=>(l8 x.1,()),λ_=>[]⟩
def Ay:Ct:=⟨[.d dx],[.bool],λx=>(nN x.1,()),λ_=>[]⟩
def wK:Ct:=⟨[.d ba],[.bool],λx=>(lc x.1,()),λ_=>[]⟩
def Ev:Ct:=⟨[.d ae],[.bool],λx=>(wE x.1,()),λ_=>[]⟩
def Ko:Ct:=⟨[.d ah,.d i64,.d i64],[i64],λx=>(cS x.1 x.2.1 x.2.2.1,()),λx=>[¬ x.2.2.1<0]⟩
def zh:ag prog 70 kw:=conv qvf _ _ (λ_ _ x _ _ _=>⟨by show(ub x).ok;unfold ub;(repeat' first|exact trivial|(refine⟨λ_=>?_,λ_=>?_⟩)),rfl⟩)
def CH:ag prog 113 nO:=conv qve _ _ (λ_ _ x _ _ _=>⟨by show(xE x).ok;unfold xE;(repeat' first|exact trivial|(refine⟨λ_=>?_,λ_=>?_⟩)),rfl⟩)
def SG:ag prog 68 Ay:=conv qto _ _ (λ_ _ x _ _ _=>⟨uT,rfl⟩)
def SN:ag prog 69 wK:=conv qtp _ _ (λ_ _ x _ _ _=>⟨by show(Fx x).ok;unfold Fx;(repeat' first|exact trivial|(refine⟨λ_=>?_,λ_=>?_⟩)),rfl⟩)
def ql4:ag prog 65 Ev:=conv qtl _ _ (λ_ _ x _ _ _=>⟨uT,rfl⟩)
def zjc:ag prog 308 Ko:=conv qu5 _ _ (λ_ _ x _ _ h=>⟨⟨λ_=>h,by (repeat' first|exact trivial|(refine⟨λ_=>?_,λ_=>?_⟩))⟩,rfl⟩)
section
open Go.Shelf Go.Lib
abbrev aC:Ty:=.pair i64 (.pair i64 (.pair i64 (.pair i64 (.pair i64 (.pair .bool .unit)))))
def C4{x:aC.q}(g:arr.size=aC.size)(h:aG w F aC x (λj u=>arr[j]?= U u)):
  arr = #[.int .i64 x.1,.int .i64 x.2.1,.int .i64 x.2.2.1,.int .i64 x.2.2.2.1,.int .i64 x.2.2.2.2.1,.bool x.2.2.2.2.2.1]:=by
 obtain⟨a,b,c,d,e,f,_⟩:=h;refine uci λj=>?_
 match j with
 |0=>exact a.1
 |1=>exact b.1
 |2=>exact c.1
 |3=>exact d.1
 |4=>exact e.1
 |5=>exact f
 |j+6=>rw[ua1 (by rw[g];show 6<=j+6;omega)];simp
def jZ{x:aC.q}(a:inR .i64 x.1)(b:inR .i64 x.2.1)(c:inR .i64 x.2.2.1)(d:inR .i64 x.2.2.2.1)(e:inR .i64 x.2.2.2.2.1):
  aG w F aC x (λj u=>[Value.int .i64 x.1,.int .i64 x.2.1,.int .i64 x.2.2.1,.int .i64 x.2.2.2.1,.int .i64 x.2.2.2.2.1,.bool x.2.2.2.2.2.1][j]?= U u):=
 ⟨⟨rfl,a⟩,⟨rfl,b⟩,⟨rfl,c⟩,⟨rfl,d⟩,⟨rfl,e⟩,rfl,uT⟩
def rB{y:aa [i64]}(h:fi w F [i64] y vs):vs=[.int .i64 y.1]/\inR .i64 y.1:=by
 obtain⟨v,g,rfl,⟨_,f,b⟩,c⟩:=h;subst c;obtain⟨a,d⟩:v.cells[0]?= U (Value.int .i64 y.1)/\inR .i64 y.1:=b;have e:v.cells = #[v]:=by cases v<;>first|rfl|(exact absurd (f.2 ⟨_,rfl⟩) (by decide))
 rw[e]at a;cases a;exact⟨rfl,d⟩
def tE(a:w.heap[b]?= U (.cells arr ty (0,0)))(k:Nat):w.cell? ⟨b,k,V⟩=arr[k]? := by simp[World.cell?,a]
def BH(a:w.heap[b]?= U (.cells arr ty (0,0)))(k:Nat):w.frozen? ⟨b,k,V⟩=false:=by simp[World.frozen?,a]
def qyz:UpdOK prog 183 aC [i64] (λx y=>(y.1,x.2.1,x.2.2.1,x.2.2.2.1,x.2.2.2.2.1,x.2.2.2.2.2.1,())):=by
 refine⟨enters_of func183 (by kernel_rfl) rfl,λw F b a k x y u c o t i p=>?_⟩;obtain⟨rfl,h⟩:=rB p;have l:=C4 o i;subst l
 go_enter func183,ntmps183
 have m:=tE c;have n:=BH c;obtain⟨r,d,e,f,g,s,_⟩:=i
 go_wp2_with (simp only[m,n])
 first
  |exact⟨⟨_,rfl⟩,[.int .i64 y.1,.int .i64 x.2.1,.int .i64 x.2.2.1,.int .i64 x.2.2.2.1,.int .i64 x.2.2.2.2.1,.bool x.2.2.2.2.2.1],rfl,(uc2 w b 0 _ a (0,0) _ c).trans (by simp[wrap64,udg]),jZ (x:=(y.1,x.2.1,x.2.2.1,x.2.2.2.1,x.2.2.2.2.1,x.2.2.2.2.2.1,())) (h) (d.2) (e.2) (f.2) (g.2)⟩
  |exact⟨.tuple #[],[.int .i64 y.1,.int .i64 x.2.1,.int .i64 x.2.2.1,.int .i64 x.2.2.2.1,.int .i64 x.2.2.2.2.1,.bool x.2.2.2.2.2.1],rfl,rfl,(uc2 w b 0 _ a (0,0) _ c).trans (by simp[wrap64,udg]),jZ (x:=(y.1,x.2.1,x.2.2.1,x.2.2.2.1,x.2.2.2.2.1,x.2.2.2.2.2.1,())) (h) (d.2) (e.2) (f.2) (g.2)⟩
  |exact ufc (v:=.tuple #[]) (ue5 rfl _ _ _) rfl ⟨⟨_,rfl⟩,[.int .i64 y.1,.int .i64 x.2.1,.int .i64 x.2.2.1,.int .i64 x.2.2.2.1,.int .i64 x.2.2.2.2.1,.bool x.2.2.2.2.2.1],rfl,(uc2 w b 0 _ a (0,0) _ c).trans (by simp[wrap64,udg]),jZ (x:=(y.1,x.2.1,x.2.2.1,x.2.2.2.1,x.2.2.2.2.1,x.2.2.2.2.2.1,())) (h) (d.2) (e.2) (f.2) (g.2)⟩
def zjd:UpdOK prog 184 aC [i64] (λx y=>(x.1,I6.wrap (x.2.1+y.1),x.2.2.1,x.2.2.2.1,x.2.2.2.2.1,x.2.2.2.2.2.1,())):=by
 refine⟨enters_of func184 (by kernel_rfl) rfl,λw F b a i x y u c n s h o=>?_⟩;obtain⟨rfl,t⟩:=rB o;have k:=C4 n h;subst k
 go_enter func184,ntmps184
 have l:=tE c;have m:=BH c;obtain⟨d,p,e,f,g,r,_⟩:=h
 go_wp2_with (simp only[l,m])
 first
  |exact⟨⟨_,rfl⟩,[.int .i64 x.1,.int .i64 (I6.wrap (x.2.1+y.1)),.int .i64 x.2.2.1,.int .i64 x.2.2.2.1,.int .i64 x.2.2.2.2.1,.bool x.2.2.2.2.2.1],rfl,(uc2 w b 1 _ a (0,0) _ c).trans (by simp[wrap64,udg]),jZ (x:=(x.1,I6.wrap (x.2.1+y.1),x.2.2.1,x.2.2.2.1,x.2.2.2.2.1,x.2.2.2.2.2.1,())) (d.2) (iQ .i64 _) (e.2) (f.2) (g.2)⟩
  |exact⟨.tuple #[],[.int .i64 x.1,.int .i64 (I6.wrap (x.2.1+y.1)),.int .i64 x.2.2.1,.int .i64 x.2.2.2.1,.int .i64 x.2.2.2.2.1,.bool x.2.2.2.2.2.1],rfl,rfl,(uc2 w b 1 _ a (0,0) _ c).trans (by simp[wrap64,udg]),jZ (x:=(x.1,I6.wrap (x.2.1+y.1),x.2.2.1,x.2.2.2.1,x.2.2.2.2.1,x.2.2.2.2.2.1,())) (d.2) (iQ .i64 _) (e.2) (f.2) (g.2)⟩
  |exact ufc (v:=.tuple #[]) (ue5 rfl _ _ _) rfl ⟨⟨_,rfl⟩,[.int .i64 x.1,.int .i64 (I6.wrap (x.2.1+y.1)),.int .i64 x.2.2.1,.int .i64 x.2.2.2.1,.int .i64 x.2.2.2.2.1,.bool x.2.2.2.2.2.1],rfl,(uc2 w b 1 _ a (0,0) _ c).trans (by simp[wrap64,udg]),jZ (x:=(x.1,I6.wrap (x.2.1+y.1),x.2.2.1,x.2.2.2.1,x.2.2.2.2.1,x.2.2.2.2.2.1,())) (d.2) (iQ .i64 _) (e.2) (f.2) (g.2)⟩
def zki:UpdOK prog 185 aC [i64] (λx y=>(x.1,x.2.1,x.2.2.1,I6.wrap (x.2.2.2.1+y.1),x.2.2.2.2.1,x.2.2.2.2.2.1,())):=by
 refine⟨enters_of func185 (by kernel_rfl) rfl,λw F b a i x y u c n s h o=>?_⟩;obtain⟨rfl,t⟩:=rB o;have k:=C4 n h;subst k
 go_enter func185,ntmps185
 have l:=tE c;have m:=BH c;obtain⟨d,e,f,p,g,r,_⟩:=h
 go_wp2_with (simp only[l,m])
 first
  |exact⟨⟨_,rfl⟩,[.int .i64 x.1,.int .i64 x.2.1,.int .i64 x.2.2.1,.int .i64 (I6.wrap (x.2.2.2.1+y.1)),.int .i64 x.2.2.2.2.1,.bool x.2.2.2.2.2.1],rfl,(uc2 w b 3 _ a (0,0) _ c).trans (by simp[wrap64,udg]),jZ (x:=(x.1,x.2.1,x.2.2.1,I6.wrap (x.2.2.2.1+y.1),x.2.2.2.2.1,x.2.2.2.2.2.1,())) (d.2) (e.2) (f.2) (iQ .i64 _) (g.2)⟩
  |exact⟨.tuple #[],[.int .i64 x.1,.int .i64 x.2.1,.int .i64 x.2.2.1,.int .i64 (I6.wrap (x.2.2.2.1+y.1)),.int .i64 x.2.2.2.2.1,.bool x.2.2.2.2.2.1],rfl,rfl,(uc2 w b 3 _ a (0,0) _ c).trans (by simp[wrap64,udg]),jZ (x:=(x.1,x.2.1,x.2.2.1,I6.wrap (x.2.2.2.1+y.1),x.2.2.2.2.1,x.2.2.2.2.2.1,())) (d.2) (e.2) (f.2) (iQ .i64 _) (g.2)⟩
  |exact ufc (v:=.tuple #[]) (ue5 rfl _ _ _) rfl ⟨⟨_,rfl⟩,[.int .i64 x.1,.int .i64 x.2.1,.int .i64 x.2.2.1,.int .i64 (I6.wrap (x.2.2.2.1+y.1)),.int .i64 x.2.2.2.2.1,.bool x.2.2.2.2.2.1],rfl,(uc2 w b 3 _ a (0,0) _ c).trans (by simp[wrap64,udg]),jZ (x:=(x.1,x.2.1,x.2.2.1,I6.wrap (x.2.2.2.1+y.1),x.2.2.2.2.1,x.2.2.2.2.2.1,())) (d.2) (e.2) (f.2) (iQ .i64 _) (g.2)⟩
def qov:UpdOK prog 186 aC [i64] (λx y=>(x.1,x.2.1,x.2.2.1,x.2.2.2.1,x.2.2.2.2.1,Y,())):=by
 refine⟨enters_of func186 (by kernel_rfl) rfl,λw F b a k x y u c o s i p=>?_⟩;obtain⟨rfl,t⟩:=rB p;have l:=C4 o i;subst l
 go_enter func186,ntmps186
 have m:=tE c;have n:=BH c;obtain⟨d,e,f,g,h,r,_⟩:=i
 go_wp2_with (simp only[m,n])
 first
  |exact⟨⟨_,rfl⟩,[.int .i64 x.1,.int .i64 x.2.1,.int .i64 x.2.2.1,.int .i64 x.2.2.2.1,.int .i64 x.2.2.2.2.1,.bool Y],rfl,(uc2 w b 5 _ a (0,0) _ c).trans (by simp[wrap64,udg]),jZ (x:=(x.1,x.2.1,x.2.2.1,x.2.2.2.1,x.2.2.2.2.1,Y,())) (d.2) (e.2) (f.2) (g.2) (h.2)⟩
  |exact⟨.tuple #[],[.int .i64 x.1,.int .i64 x.2.1,.int .i64 x.2.2.1,.int .i64 x.2.2.2.1,.int .i64 x.2.2.2.2.1,.bool Y],rfl,rfl,(uc2 w b 5 _ a (0,0) _ c).trans (by simp[wrap64,udg]),jZ (x:=(x.1,x.2.1,x.2.2.1,x.2.2.2.1,x.2.2.2.2.1,Y,())) (d.2) (e.2) (f.2) (g.2) (h.2)⟩
  |exact ufc (v:=.tuple #[]) (ue5 rfl _ _ _) rfl ⟨⟨_,rfl⟩,[.int .i64 x.1,.int .i64 x.2.1,.int .i64 x.2.2.1,.int .i64 x.2.2.2.1,.int .i64 x.2.2.2.2.1,.bool Y],rfl,(uc2 w b 5 _ a (0,0) _ c).trans (by simp[wrap64,udg]),jZ (x:=(x.1,x.2.1,x.2.2.1,x.2.2.2.1,x.2.2.2.2.1,Y,())) (d.2) (e.2) (f.2) (g.2) (h.2)⟩
def zkq:UpdOK prog 187 aC [i64] (λx y=>(x.1,x.2.1,x.2.2.1,x.2.2.2.1,x.2.2.2.2.1,Z,())):=by
 refine⟨enters_of func187 (by kernel_rfl) rfl,λw F b a k x y u c o s i p=>?_⟩;obtain⟨rfl,t⟩:=rB p;have l:=C4 o i;subst l
 go_enter func187,ntmps187
 have m:=tE c;have n:=BH c;obtain⟨d,e,f,g,h,r,_⟩:=i
 go_wp2_with (simp only[m,n])
 first
  |exact⟨⟨_,rfl⟩,[.int .i64 x.1,.int .i64 x.2.1,.int .i64 x.2.2.1,.int .i64 x.2.2.2.1,.int .i64 x.2.2.2.2.1,.bool Z],rfl,(uc2 w b 5 _ a (0,0) _ c).trans (by simp[wrap64,udg]),jZ (x:=(x.1,x.2.1,x.2.2.1,x.2.2.2.1,x.2.2.2.2.1,Z,())) (d.2) (e.2) (f.2) (g.2) (h.2)⟩
  |exact⟨.tuple #[],[.int .i64 x.1,.int .i64 x.2.1,.int .i64 x.2.2.1,.int .i64 x.2.2.2.1,.int .i64 x.2.2.2.2.1,.bool Z],rfl,rfl,(uc2 w b 5 _ a (0,0) _ c).trans (by simp[wrap64,udg]),jZ (x:=(x.1,x.2.1,x.2.2.1,x.2.2.2.1,x.2.2.2.2.1,Z,())) (d.2) (e.2) (f.2) (g.2) (h.2)⟩
  |exact ufc (v:=.tuple #[]) (ue5 rfl _ _ _) rfl ⟨⟨_,rfl⟩,[.int .i64 x.1,.int .i64 x.2.1,.int .i64 x.2.2.1,.int .i64 x.2.2.2.1,.int .i64 x.2.2.2.2.1,.bool Z],rfl,(uc2 w b 5 _ a (0,0) _ c).trans (by simp[wrap64,udg]),jZ (x:=(x.1,x.2.1,x.2.2.1,x.2.2.2.1,x.2.2.2.2.1,Z,())) (d.2) (e.2) (f.2) (g.2) (h.2)⟩
def jb:List (Int×TypeId):=[(1,169),(2,171),(3,173),(4,174),(5,176),(6,178),(7,229)]
def yw(k:Int):Value:=match dd jb k with
 |some a=>.iface a (.agg #[])
 |none=>.nilIface
def Ni{k:Int}(h:k<1\/k>7):dd jb k=none:=by
 have:jb.find? (λx=>x.1==k)=none:=by rw[List.find?_eq_none];intro x a;simp only[jb,uej,List.not_mem_nil,or_false]at a;rcases a with rfl|rfl|rfl|rfl|rfl|rfl|rfl<;>simp<;>omega
 unfold dd;rw[this];rfl
def qs{k:Int}(h:1<=k/\k<=7):k=1\/k=2\/k=3\/k=4\/k=5\/k=6\/k=7:=by omega
def qwq(k:Int)(R:Ending->World->Prop)(w:World)(a:∀ o,R (.returned (yw k)) (w.alloc o)):Calls prog 64 #[.int .i64 k] w R:=by
 go_enter func64,ntmps64
 by_cases c:k<1
 ·have b:yw k=.nilIface:=by unfold yw;rw[Ni (.inl c)]
  rw[b]at a
  go_wp2
  exact a _
 ·by_cases d:k>7
  ·have b:yw k=.nilIface:=by unfold yw;rw[Ni (.inr d)]
   rw[b]at a
   go_wp2
   exact a _
  ·rcases qs (k:=k) (by omega)with rfl|rfl|rfl|rfl|rfl|rfl|rfl
   all_goals
    go_wp2
    exact a _
def W9{a:List (Int×TypeId)}{t:Ty}{x:Int×t.q}(h:dd a x.1=U ty)(b:bJ w F t x.2 u):bJ w F (.ic a t) x (.iface ty u):=
 ⟨rfl,⟨λh=>(by cases h),λh=>(by obtain⟨_,h⟩:=h;cases h)⟩,.inl ⟨ty,u,h,rfl,b⟩⟩
def Yq{a:List (Int×TypeId)}{t:Ty}{x:Int×t.q}(h:dd a x.1=V):bJ w F (.ic a t) x .nilIface:=
 ⟨rfl,⟨λh=>(by cases h),λh=>(by obtain⟨_,h⟩:=h;cases h)⟩,.inr ⟨h,rfl⟩⟩
def Z2{t:Ty}{y:t.q}{o:Obj}(c:∀ b,F b->b<w.heap.size)(h:bJ w F t y v):iB w F [t] (y,()) (.returned v) (w.alloc o):=
 ⟨v,F,rfl,(ufn _ w).alloc (ufd _) _,λ_ h=>h,λb a=>⟨.inl a,by have:=c b a;simp;omega⟩,h.mono (λ_ h=>h) (λb a=>udc _ _ _ (c b a))⟩
def W5{k:Int}{u:Unit}(h:dm prog w F [.d i64] (k,u) vs):vs=[.int .i64 k]/\inR .i64 k:=by obtain⟨v,a,rfl,b,c⟩:=h;exact rB (w:=w) (F:=F) (y:=(k,())) ⟨v,a,rfl,b,c⟩
def Kl:Ct:=⟨[.d i64],[.ic jb .unit],λx=>((x.1,()),()),λ_=>[]⟩
def qwp:ag prog 64 Kl:=by refine⟨enters_of func64 (by kernel_rfl) rfl,λw F c e a b _=>?_⟩;obtain⟨k,_⟩:=c;obtain⟨rfl,_⟩:=W5 b;refine qwq k _ w λo=>Z2 a ?_;unfold yw;split;rename_i d h;exact W9 h ⟨rfl,⟨λ_=>⟨_,rfl⟩,λ_=>rfl⟩,uT⟩;rename_i h;exact Yq h
end
abbrev tf:Ty:=.pair (.fc V) (.pair (.fc (U 183)) (.pair (.fc (U 184)) (.pair (.fc (U 185)) (.pair (.fc (U 186)) (.pair (.fc (U 187)) .unit)))))
def qal:List (FuncId×Row):=[(183,.upd aC [i64] (λx y=>(y.1,x.2.1,x.2.2.1,x.2.2.2.1,x.2.2.2.2.1,x.2.2.2.2.2.1,()))),(184,.upd aC [i64] (λx y=>(x.1,I6.wrap (x.2.1+y.1),x.2.2.1,x.2.2.2.1,x.2.2.2.2.1,x.2.2.2.2.2.1,()))),(185,.upd aC [i64] (λx y=>(x.1,x.2.1,x.2.2.1,I6.wrap (x.2.2.2.1+y.1),x.2.2.2.2.1,x.2.2.2.2.2.1,()))),(186,.upd aC [i64] (λx _=>(x.1,x.2.1,x.2.2.1,x.2.2.2.1,x.2.2.2.2.1,Y,()))),(187,.upd aC [i64] (λx _=>(x.1,x.2.1,x.2.2.1,x.2.2.2.1,x.2.2.2.2.1,Z,())))]
def qgb:Cx:=nV [(109,jJ)] [] qal (λ_ _ _ _=>V)
def Q5:CxOK prog qgb:=pE (cs:=[(109,jJ)]) (ps:=[]) (rs:=qal) aH ⟨qd0,uT⟩ trivial ⟨qyz,zjd,zki,qov,zkq,uT⟩ (λ_ _ _ _ _ h=>(nomatch h))
abbrev vw:Pt:=⟨28,0,⟨[(12,.d i64),(11,.d i64),(10,.d (.sl ba))],[.x 2 276 aC,.r 2 2 0,.x 3 334 tf,.r 3 3 0,.x 4 276 aC,.r 4 4 0]⟩,⟨[],[.x 2 276 aC,.r 2 2 0,.x 4 276 aC,.r 4 4 0]⟩,⟨[],[]⟩⟩
abbrev Df:Type:=ap []×dj [.x 2 276 aC,.r 2 2 0,.x 3 334 tf,.r 3 3 0,.x 4 276 aC,.r 4 4 0]
def oY(e:ba.q)(s:Df):Fr Df:=
 let d:=((),(),(),(),(),(),());let c:=s.2.2.2.1;let a:=c.2;let b:=a.2.2;Jb (jJ.f (e.2.1,1,5,())).1 (Jd (0<=e.2.1/\e.2.1<(6:Int)) (Jd ((List.find? (λg=>g.1==e.2.1) (lv 0 (List.take 6 (List.drop 0 (List.drop 0 (enc tf s.2.2.1)))))).isSome=Z) (Jd (e.2.1≠0+1->az [e.2.1≠0+1+1->az [e.2.1≠0+1+1+1->az [e.2.1≠0+1+1+1+1->az [e.2.1=0+1+1+1+1+1]]]]) (Jv ((),s.2.1,d,(bif e.2.1==0+1 then (e.2.2.1,a.1,a.2.1,b.1,b.2.1,b.2.2.1,())else bif e.2.1==0+1+1 then (c.1,I6.wrap (a.1+e.2.2.1),a.2.1,b.1,b.2.1,b.2.2.1,())else bif e.2.1==0+1+1+1 then (c.1,a.1,a.2.1,I6.wrap (b.1+e.2.2.1),b.2.1,b.2.2.1,())else bif e.2.1==0+1+1+1+1 then (c.1,a.1,a.2.1,b.1,b.2.1,Y,())else (c.1,a.1,a.2.1,b.1,b.2.1,Z,())),()))))) (Jv ((),s.2.1,d,c,()))
def sK(x:vw.M.X):Int×List ba.q×Df:=(x.1.1,x.1.2.2.1,x.1.2.2.2,x.2)
def Wj(x:vw.M.X):Prop:=x.1.2.1=(x.1.2.2.1.length:Int)
def YY(s:Df):vw.E.X:=((),s.2.1,s.2.2.2.1,())
def zfm:af prog (.loop (au f135 0)) vw.M vw (FF oY sK Wj YY):=
 zT Q5 (λ_ _=>.n .o) ba.j (λx=>x.1.2.1) (λx s=>((I6.wrap (x.1.1+1),x.1.2.1,x.1.2.2.1,s.1),s.2)) (λ_ h=>h)
def zk4(y:vw.M.X):Df:=ft oY ((sK y).2.1.drop (sK y).1.toNat) (sK y).2.2
def zhy(y:vw.M.X):Prop:=kQ oY ((sK y).2.1.drop (sK y).1.toNat) (sK y).2.2
def qvu(x:ap [.d aq]):Fr (aa [aC]):=
 let a:=((0,((List.length x.1.2.1):Int),x.1.2.1,()),(0,0,0,0,0,Y,()),((),(),(),(),(),(),()),(0,0,0,0,0,Z,()),());Jd (InL (Wj a) (sK a)) (Jd (zhy a) (Jv ((YY (zk4 a)).2.2.1,())))
def qvv:ag prog 135 (bg [.d aq] [aC] qvu):=
 cZ Q5 zfm
def lN(p:aC.q)(a:ba.q):aC.q:=
 bif jA a.2.1 1 5 then (bif a.2.1==1 then (a.2.2.1,p.2)else bif a.2.1==2 then (p.1,I6.wrap (p.2.1+a.2.2.1),p.2.2)else bif a.2.1==3 then (p.1,p.2.1,p.2.2.1,I6.wrap (p.2.2.2.1+a.2.2.1),p.2.2.2.2)
  else bif a.2.1==4 then (p.1,p.2.1,p.2.2.1,p.2.2.2.1,p.2.2.2.2.1,Y,())else (p.1,p.2.1,p.2.2.1,p.2.2.2.1,p.2.2.2.2.1,Z,()))else p
def m9(g:aq.q):aC.q:=g.2.1.foldl lN (0,0,0,0,0,Z,())
def zh4{k:Int}(h:1<=k/\k<=5):k=1\/k=2\/k=3\/k=4\/k=5:=by omega
def P1(e:ba.q)(q p:aC.q)(u:tf.q):(oY e ((),q,u,p,())).ok/\(oY e ((),q,u,p,())).get=((),q,u,lN p e,()):=by
 obtain⟨b,k,m,_⟩:=e;cases a:jA k 1 5;have d:lN p (b,k,m,())=p:=by unfold lN;rw[show jA (b,k,m,()).2.1 1 5=Y from a];rfl
 rw[d];exact aN a ⟨uT,rfl⟩;have c:=zry.1 a;have f:=zh4 c;have d:∀ z,(lN p (b,k,m,())=z)=((bif k==1 then (m,p.2)else bif k==2 then (p.1,I6.wrap (p.2.1+m),p.2.2)else bif k==3 then (p.1,p.2.1,p.2.2.1,I6.wrap (p.2.2.2.1+m),p.2.2.2.2)
 else bif k==4 then (p.1,p.2.1,p.2.2.1,p.2.2.2.1,p.2.2.2.2.1,Y,())else (p.1,p.2.1,p.2.2.1,p.2.2.2.1,p.2.2.2.2.1,Z,()):aC.q)=z):=λz=>by unfold lN;rw[show jA (b,k,m,()).2.1 1 5=Z from a];rfl
 refine aV a ?_;rcases f with rfl|rfl|rfl|rfl|rfl <;>
  exact aw (by first|exact(by decide:(0:Int)<=1/\(1:Int)<6)|exact(by decide:(0:Int)<=2/\(2:Int)<6)|exact(by decide:(0:Int)<=3/\(3:Int)<6)|exact(by decide:(0:Int)<=4/\(4:Int)<6)|exact(by decide:(0:Int)<=5/\(5:Int)<6)) (aw (by kernel_rfl) (aw (by simp[az]) ⟨uT,by rw[ueh];exact⟨rfl,by rw[eq_comm] ; rfl⟩⟩))
def qbs(q:aC.q)(u:tf.q):(l:List ba.q)->(p:aC.q)->ft oY l ((),q,u,p,())=((),q,u,l.foldl lN p,())
 |[],_=>rfl
 |e::l,p=>by show ft oY l (oY e ((),q,u,p,())).get=_;rw[(P1 e q p u).2];exact qbs q u l (lN p e)
def qbu(q:aC.q)(u:tf.q):(l:List ba.q)->(p:aC.q)->kQ oY l ((),q,u,p,())
 |[],_=>trivial
 |e::l,p=>⟨(P1 e q p u).1,by rw[(P1 e q p u).2];exact qbu q u l (lN p e)⟩
def qwg{g:aq.q}(h:bJ w F aq g v):((List.length (α:=ba.q) g.2.1:Nat):Int)<=9223372036854775807:=by
 have h1:List.length g.2.1<=maxLen:=(aG.wf h.2.2).2.1.1;unfold maxLen at h1;omega
def nP:Ct:=⟨[.d aq],[aC],λx=>(m9 x.1,()),λ_=>[]⟩
abbrev TJ:aC.q:=(0,0,0,0,0,Y,())
abbrev qdg:tf.q:=((),(),(),(),(),(),())
def qbt:ag prog 135 nP:=
 conv qvv _ _ (λw F x e b _=>by obtain⟨g,_⟩:=x;obtain⟨v,d,rfl,c,_⟩:=b;have a:=qwg c;refine aw ⟨rfl,ufe _,ub4 _,a⟩ (aw ?_ ⟨uT,?_⟩);exact qbu TJ qdg (List.drop 0 g.2.1) _;show((ft oY (List.drop 0 g.2.1) ((),TJ,qdg,(0,0,0,0,0,Z,()),())).2.2.2.1,())=(m9 g,());rw[ueg,qbs];rfl)
section
open Go.Shelf Go.Lib
def qzx:(prog.info? 42).map (λi=>(i.zero,i.size,i.bytes))=U (U (.agg #[.int .i64 0,.int .i64 0,.int .i64 0]),3,24):=by kernel_rfl
def qop:CloneOK prog 239 42 ba 24:=by
 refine⟨enters_of func239 (by kernel_rfl) rfl,λw n c A x O H f r i l m=>?_⟩;obtain⟨R,o,s,t,v⟩:=ufr qzx;have a:∀ (A:Option Addr) (n c:Nat),(binOp .eql 148 (.slice A n c) (.slice V 0 0)).run prog w=.ok (.bool A.isNone) w:=λA n c=>by have i:binOp .eql 148 (.slice A n c) (.slice V 0 0)=(do pure (.bool (<- Op.equal 148 (.slice A n c) (.slice V 0 0)))):=rfl;have G:Op.equal 148 (.slice A n c) (.slice V 0 0)=Op.equalIn (9999+1) 148 (.slice A n c) (.slice V 0 0):=rfl;rw[i,G];simp[NZ underlying148]
 go_enter func239,ntmps239
 cases A with
 |none=>
  have F:=H rfl;subst F;have Q:x=[]:=uab (by simpa using f);subst Q
  go_wp2_with (simp only[a])
  go_ret
  exact⟨_,rfl,⟨rfl,rfl,rfl,ufd _,λ_ _ _=>rfl⟩,ucs _ _ _ _⟩
 |some g=>
  have K:(w.alloc (.cells #[] 42)).ownsRow w.heap.size 42 3 (.slice (U ⟨w.heap.size,0,V⟩) 0 0) 0 []:=World.ownsRow_lit w #[] 0 (ufd _) (by unfold maxLen;omega) rfl;have b:∀ (j:Nat) u,x[j]?= U u->(w.alloc (.cells #[] 42)).cell? (g.add j)=U u:=λj u M=>by have h:=r g rfl j u M;have L:=block_lt_of_cell h;rw[ubd (qM w _ _ L)];exact h
  obtain⟨D,S,z,y,d,T⟩:=tk (P:=prog) (w:=w.alloc (.cells #[] 42)) (B:=w.heap.size) 148 148 42 R _ 3 underlying148 o s t rfl (by decide) _ 0 [] K (U g) n c x (λh=>by cases h) f (λE e=>by cases e;exact b) i (by rw[uez];exact l) (by rw[v,uez];exact m) (by simp);have p:∀ C,(Builtin.append_ #[148,148] C #[.slice (U ⟨w.heap.size,0,V⟩) 0 0,.slice (U g) n c]).run prog (w.alloc (.cells #[] 42))=.ok D S:=λC=>z;clear z
  go_wp2_with (first|(simp only[a];done)|simp only[a]|(at_builtin;refine Lib.wpList_append_run _ rfl _ _ _ _ rfl _ _ rfl rfl _ _ (p _) ?_))
  go_ret
  rw[uez,udn]at y;refine⟨D,rfl,⟨d.os,d.tape,d.output,ueq (by simp) d.size,λk N _=>(d.block k (by simp;omega) (λe=>?_)).trans (qM w _ k N)⟩,y⟩;have:k=w.heap.size:=by simpa[Value.ownBlock]using e
  omega
end
def qgc:Cx:=nV [(135,nP),(69,wK),(238,E8)] [] [(239,.clone 42 ba 24)] (λ_ _ _ _=>none)
def qgd:CxOK prog qgc:=pE (cs:=[(135,nP),(69,wK),(238,E8)]) (ps:=[]) (rs:=[(239,.clone 42 ba 24)]) aH ⟨qbt,SN,zbm,uT⟩ trivial ⟨qop,uT⟩ (λ_ _ _ _ _ h=>(nomatch h))
def LL(x:ap [.d aq,.d ba]):Fr (aa [aq,i64]):=
 let h:=nP.f (x.1,());let c:=x.1.2.1;let g:=((x.1.1,c++[x.2.1],()),0,());let b:=((0,0,0,0,0,0,()),[],());let a:=bif x.2.1.2.1==2 then J (x.2.1.2.2.1>I6.wrap (1000000000000000-h.1.2.1))else Y;Jb (!(wK.f (x.2.1,())).1) (Jv (b,1,())) (Jb (J (((List.length c):Int)>=2000)) (Jv (b,2,())) (Jb (J (x.2.1.1<(E8.f (x.1,())).1)) (Jv (b,4,())) (Jb (h.1.2.2.2.2.2.1==(x.2.1.2.1==5)) (Jv (b,10,())) (Jb a (Jb a (Jv (b,5,())) (Jd (List.length c<=maxLen) (Jd (List.length c*24<=140737488355328) (Jd (List.length c + [x.2.1].length<=maxLen/\(List.length c + [x.2.1].length)*24<=140737488355328) (Jv g))))) (Jb (bif x.2.1.2.1==3 then J (x.2.1.2.2.1>I6.wrap (1000000000000000-h.1.2.2.2.1))else Y) (Jv (b,5,())) (Jd (List.length c<=maxLen) (Jd (List.length c*24<=140737488355328) (Jd (List.length c + [x.2.1].length<=maxLen/\(List.length c + [x.2.1].length)*24<=140737488355328) (Jv g)))))))))
def qt1:ag prog 229 (bg [.d aq,.d ba] [aq,i64] LL):=
 aT qgd f229
abbrev BJ:aq.q:=((0,0,0,0,0,0,()),[],())
def A8(g:aq.q)(a:ba.q):Bool:=
 (bif a.2.1==2 then J (a.2.2.1>I6.wrap (1000000000000000-(m9 g).2.1))else Y) || (bif a.2.1==3 then J (a.2.2.1>I6.wrap (1000000000000000-(m9 g).2.2.2.1))else Y)
def eX(g:aq.q)(a:ba.q):aq.q×Int:=
 bif !(lc a)then (BJ,1)else bif J (((List.length (α:=ba.q) g.2.1:Nat):Int)>=2000)then (BJ,2)else bif J (a.1<qb g)then (BJ,4)
  else bif (m9 g).2.2.2.2.2.1==(a.2.1==5)then (BJ,10)else bif A8 g a then (BJ,5)else ((g.1,g.2.1++[a],()),0)
def tw:Ct:=⟨[.d aq,.d ba],[aq,i64],λx=>((eX x.1 x.2.1).1,(eX x.1 x.2.1).2,()),λ_=>[]⟩
def qpr(g:aq.q)(a:ba.q):(LL (g,a,())).ok/\(LL (g,a,())).get=((eX g a).1,(eX g a).2,()):=by
 unfold eX;cases c:lc a;exact aV (by show(!(lc a))=Z;rw[c];rfl) ⟨uT,rfl⟩;refine aN (by show(!(lc a))=Y;rw[c];rfl) ?_;cases h:J (((List.length g.2.1:Nat):Int)>=2000)
 rotate_left
 exact aV rfl ⟨uT,rfl⟩;refine aN rfl ?_;have m:List.length g.2.1<2000:=by have:=uch h;omega
 have i:List.length g.2.1<=maxLen:=by unfold maxLen;omega
 have k:List.length g.2.1*24<=140737488355328:=by omega
 have l:List.length g.2.1 + [a].length<=maxLen/\(List.length (α:=ba.q) g.2.1 + [a].length)*24<=140737488355328:=by rw[ua7];exact⟨by unfold maxLen;omega,by omega⟩
 cases d:J (a.1<qb g)
 rotate_left
 exact aV d ⟨uT,rfl⟩;refine aN d ?_;cases e:(m9 g).2.2.2.2.2.1==(a.2.1==5)
 rotate_left
 exact aV e ⟨uT,rfl⟩;refine aN e ?_;unfold A8;cases b:(bif a.2.1==2 then J (a.2.2.1>I6.wrap (1000000000000000-(m9 g).2.1))else Y)
 rotate_left
 exact aV b (aV (by first|rfl|exact b) ⟨uT,rfl⟩);refine aN b ?_;cases f:(bif a.2.1==3 then J (a.2.2.1>I6.wrap (1000000000000000-(m9 g).2.2.2.1))else Y)
 rotate_left
 exact aV f ⟨uT,rfl⟩;exact aN f (aw i (aw k (aw l ⟨uT,rfl⟩)))
def T4:ag prog 229 tw:=conv qt1 _ _ (λ_ _ x _ _ _=>qpr x.1 x.2.1)
def X0:dF.q:=((1,101,()),(0,36500,0,0,()),[(1,1000,1000,0,10000,())],())
def zid(h:aD.q):(bV h).Pairwise λx y=>kz h x<=kz h y:=
 (oT (key:=kz h) (lt:=NG h) (λ_ _ _ _=>rfl)).1
def qn5(h:aD.q):(rg h).Pairwise λx y=>x.2.1<=y.2.1:=by unfold rg;rw[List.pairwise_map];exact zid h
def qnw{h:aD.q}{i:Int}(a:0<=i/\i<((aO h).length:Int)):cw h i∈aO h:=by unfold cw;exact eT (by omega)
def KC{h:aD.q}{c:ay.q}(a:c∈rg h):c∈aO h:=by obtain⟨i,b,rfl⟩:=ufa.1 a;exact qnw (Cp b)
structure HistOk (h:aD.q):Prop where
 terms:i9 h.2.2.1=true
 a1:1<=h.2.2.1.1.1
 ab:h.2.2.1.1.1<h.2.2.1.1.2.1
 b1:h.2.2.1.1.2.1<=292195
 wide:h.2.2.1.1.2.1-h.2.2.1.1.1<=1100
 chs:∀ c∈aO h,fk c=true/\h.2.2.1.1.1<=c.2.1/\c.2.1<h.2.2.1.1.2.1
def qzj{h:aD.q}:lx h=Z↔i9 h.2.2.1=Z/\h.2.2.2.1.length<=2000/\∀ c∈aO h,fk c=Z/\eH h.2.2.1.1.1 h.2.2.1.1.2.1 c.2.1=true:=by unfold lx;simp only[udd,ucu,uc9,and_assoc]
def zp8{t:dF.q}(h:i9 t=Z):1<=t.1.1/\t.1.1<t.1.2.1/\t.1.2.1<=292195/\t.1.2.1-t.1.1<=1100:=by obtain⟨⟨a,b,_⟩,r,i,_⟩:=t;unfold i9 at h;rw[udd,udd]at h;obtain⟨c,d,_⟩:=h;obtain⟨e,f,g⟩:=oe.1 c;exact⟨e,f,g,ucx d⟩
def Wv{h:aD.q}(f:lx h=Z):HistOk h:=by obtain⟨a,_,d⟩:=qzj.1 f;obtain⟨g,i,k,l⟩:=zp8 a;refine⟨a,g,i,k,l,λc e=>?_⟩;obtain⟨m,n⟩:=d c e;have b:=ucx n;exact⟨m,b.2.2.1,b.2.2.2⟩
def qp2{h:aD.q}(f:lx h=Z):dv (qbq h) h.2.2.1.1.2.1 h.2.2.1.1.1 (ez h):=by
 have e:=Wv f;exact VE (k0:=(Z,h.2.2.1.2.1,h.2.2.1.2.2.1)) (a:=h.2.2.1.1.1) (b:=h.2.2.1.1.2.1) (λc d=>uev (e.chs c (KC d)).2.2) (rg h) [] rfl (qn5 h) (Oe h) [] (λc d=>(by cases d)) (λc d=>(e.chs c (KC d)).2.1)
  (uev e.ab) rfl rfl rfl
def Si{v:aU.q}(d:Int):(l:List aF.q)->(cz (l.map (fW v)) d).2=(cz l d).2/\((cz l d).2=Z->(cz (l.map (fW v)) d).1=fW v (cz l d).1)
 |[]=>⟨rfl,λh=>(by cases h)⟩
 |s::l=>by
  have a:(fW v s).1=s.1:=by unfold fW;split<;>rfl
  simp only[uel,cz];rw[a];split;exact⟨rfl,λ_=>rfl⟩;exact Si d l
def dv.at_day{r:Int->gb}{b:Int}(o:b<=292195):{a:Int} -> {l:List aF.q}->1<=a->dv r b a l->(d:Int)->((cz l d).2=J (a<=d/\d<b))/\((cz l d).2=Z->iu (cz l d).1=r d/\(cz l d).1∈l/\(cz l d).1.1.1<=d/\d<(cz l d).1.1.2.1)
 |a,[],_,h,d=>by
  have t:a=b:=h;refine⟨?_,λh=>(by cases h)⟩;show Y=_
  symm
  rw[uav];rintro⟨g,u⟩;rw[t]at g;exact absurd (Int.lt_of_lt_of_le u g) (uep _)
 |a,s::l,v,h,d=>by
  have m:a<s.1.2.1:=h.2.1;have k:s.1.2.1<=b:=dv.le h.2.2.2.2.2;have g:s.1.1=a:=h.1;have p:=dv.at_day o (a:=s.1.2.1) (l:=l) (by omega) h.2.2.2.2.2 d;have i:eH s.1.1 s.1.2.1 d=J (a<=d/\d<s.1.2.1):=by unfold eH;rw[g];rw[udy,ucu,ucu];constructor;rintro⟨_,_,e,f⟩;exact⟨e,f⟩;rintro⟨e,f⟩;exact⟨v,ue6 k o,e,f⟩
  unfold cz;by_cases c:a<=d/\d<s.1.2.1;rw[i,uf0 (ueb c)];refine⟨?_,λ_=>⟨h.2.2.2.1 d c.1 c.2,by simp,?_,c.2⟩⟩
  symm
  rw[ucu];exact⟨c.1,Int.lt_of_lt_of_le c.2 k⟩;rw[g];exact c.1;rw[i,uf1 (by rw[ucu];exact c)];refine⟨?_,λw=>?_⟩;rw[p.1,udy,ucu,ucu];constructor;rintro⟨e,f⟩;exact⟨ue6 (uev m) e,f⟩;rintro⟨e,f⟩;refine⟨ufp.1 λn=>c ⟨e,n⟩,f⟩;obtain⟨e,f,n⟩:=p.2 w;exact⟨e,by simp[f],n⟩
def cA.filter{a:α->Int}{l:List α}(h:cA a l)(p:α->Bool):cA a (l.filter p):=List.Pairwise.sublist List.filter_sublist h
def Good.all{p:List Int×List Int}{m:Int}(h:Good p m):∀ x∈p.1,x<=m:=by
 intro x c;have e:=(OU h.up h.len).1;have d:=h.le;have a:p.1 ≠ []:=List.ne_nil_of_mem c;rw[List.getLast?_eq_some_getLast a]at d;have b:p.1.getLast a<=m:=d;have f:p.1=p.1.dropLast++[p.1.getLast a]:=(List.dropLast_concat_getLast a).symm;rw[f]at c e;rcases udt.1 c with c|c
 have:=(ubp.1 e).2.2 x c _ (ucf.2 rfl);exact uev (Int.lt_of_lt_of_le this b);rw[ucf.1 c];exact b
def qdr{l:List aF.q}(h:(eq l 292195).2=0):(iY l).isNone=Y/\Pos (cB l)/\Sd (cB l) 292195<=4000000000000000000/\∀ d,eq l d=((Sd (cB l) d+182)/365,0):=by
 have c:(iY l).isNone=false:=by
  cases e:(iY l).isNone with
  |false=>rfl
  |true=>unfold eq at h;rw[uf0 e]at h;cases h
 have b:=TH c;have f:∀ d,eq l d=cu (cB l) d:=λd=>uf1 (by rw[c];decide);have a:Sd (cB l) 292195<=4000000000000000000:=by apply Classical.byContradiction;intro e;rw[f,PZ b,uf1 e]at h;cases h
 refine⟨c,b,a,λd=>?_⟩;rw[f,PZ b,uf0 (ue6 (qj1 b d) a)]
def qrn(l:List aF.q)(d:Int):Int:=(Sd (cB l) d+182)/365
def qsy{h:aD.q}{t:bh.q}(a:pP h t=Z):cj h/\bf t:=by unfold pP at a;simp only[udd,ucu,uc9]at a;obtain⟨⟨g,i,k⟩,b,d⟩:=a;refine⟨⟨by show h.2.2.2.1.length<=500000;omega,by omega,λc e=>?_⟩,by omega,λv f=>?_⟩;have:c.2.2.2.2.1.length<=50:=ucx (b c e);omega;have:=d v f;unfold xz at this;simp only[udd,ucu]at this;exact⟨by omega,by omega,by omega⟩
def zjw(v:aU.q)(s:aF.q):iu (fW v s)=iu s/\(fW v s).1=s.1:=by unfold fW;split<;>exact⟨rfl,rfl⟩
def zR(h:aD.q)(t:bh.q):aU.q×Int:=cE h.2.2.1.1.1 t.1.reverse
def zg3{h:aD.q}{t:bh.q}(a:(c9 h t).2=0):lx h=Z/\(zR h t).2=0/\dJ (zR h t).1 (ez h)=0/\(c9 h t).1=(ez h).map (fW (zR h t).1):=by unfold c9 at a |-;by_cases d:lx h=Z;rw[uf0 d]at a |-;by_cases b:(cE h.2.2.1.1.1 t.1.reverse).2=0;rw[uf0 b]at a |-;by_cases c:dJ (cE h.2.2.1.1.1 t.1.reverse).1 (ez h)=0;rw[uf0 c];exact⟨d,b,c,rfl⟩;rw[uf1 c]at a;exact absurd a c;rw[uf1 b]at a;exact absurd a b;rw[uf1 d]at a;cases a
def pm(h:aD.q)(c:ay.q):aD.q:=(h.1,h.2.1,h.2.2.1,([]++h.2.2.2.1)++[c],())
def H4(n m:Nat):Prop:=n+m<=maxLen/\(n+m)*prog.types[38].bytes<=140737488355328
def Ti:prog.types[38].bytes<=1000:=by decide
def dv.mem{g:Int->gb}{b:Int}:{a:Int} -> {l:List aF.q}->dv g b a l->∀ s∈l,a<=s.1.1/\s.1.1<s.1.2.1/\s.1.2.1<=b/\∀ d,s.1.1<=d->d<s.1.2.1->iu s=g d
 |_,[],_,_,c=>by cases c
 |a,t::l,h,s,c=>by
  obtain⟨i,e,o,k,p,f⟩:=h;rcases uej.1 c with rfl|c
  rw[i];exact⟨ufe _,e,f.le,k⟩;obtain⟨m,n⟩:=dv.mem f s c;exact⟨ue6 (uev e) m,n⟩
def qfm:Cx:=cx [(71,mK ar)] []
def qfn:CxOK prog qfm:=aQ aH ⟨AW,uT⟩ trivial
def EA:Ct:=⟨[.d dF],[dF],λx=>(x.1,()),λx=>[x.1.2.2.1.length<=1000000]⟩
def Zd:ag prog 271 EA:=
 dz (aT qfn f271 (fr:=λx=>Jd (x.1.2.2.1.length<=1000000) (Jv (x.1,()))) (ps:=[.d dF])) _ _
  (λ_ _ _ _ _ a=>aw a ⟨uT,rfl⟩)
def iy:aD.q:=(0,0,((0,0,()),(0,0,0,0,()),[],()),[],())
def yc(h:aD.q):Int:=if (aO h).length=0 then h.2.1 else ((aO h).getD ((aO h).length-1) ay.j).1
def kV(h:aD.q)(c:ay.q):aD.q×Int:=
 if fk c=Z/\eH h.2.2.1.1.1 h.2.2.1.1.2.1 c.2.1=Z then
  (if c.1<yc h then (iy,4)else if 2000<=(aO h).length then (iy,2)else (pm h c,0))
 else (iy,1)
def SM:Ct:=⟨[.d aD,.d ay],[aD,i64],λx=>((kV x.1 x.2.1).1,(kV x.1 x.2.1).2,()),λx=>[cj x.1]⟩
def qfo:Cx:=cx [(71,mK ar),(67,qS),(140,iD),(271,EA)] []
def qfp:CxOK prog qfo:=aQ aH ⟨AW,KA,rC,Zd,uT⟩ trivial
def FV(h:aD.q)(c:ay.q)(last:Int):Fr (aa [aD,i64]):=
 let b:=(none:Option Int);let d:=List.drop (b.getD 0).toNat (aO h);let a:=((aO h).length:Int);Jb (bif !(qS.f (c,())).1 then Z else !(iD.f (h.2.2.1.1,c.2.1,())).1) (Jv (iy,1,()))
  (Jb (J (c.1<last)) (Jv (iy,4,()))
   (Jb (J (a>=2000)) (Jv (iy,2,()))
    (Jd (c.2.2.2.2.1.length<=1000000) (Jd (h.2.2.1.2.2.1.length<=1000000)
     (Jd (0<=b.getD 0/\b.getD 0<=a/\a<=a/\a=a)
      (Jd (0 < [c].length/\H4 (List.take (a-b.getD 0).toNat d).length [c].length)
       (Jv ((h.1,h.2.1,h.2.2.1,List.take (a-b.getD 0).toNat d++[c],()),0,()))))))))
def qxb(x:ap [.d aD,.d ay]):Fr (aa [aD,i64]):=
 let a:=((aO x.1).length:Int);Jb (J (a>0))
  (Jd (0<=I6.wrap (a-1)/\I6.wrap (a-1)<a)
   (FV x.1 x.2.1 (List.getD (aO x.1) (I6.wrap (a-1)).toNat ay.j).1))
  (FV x.1 x.2.1 x.1.2.1)
def zj3:ag prog 281 (bg [.d aD,.d ay] [aD,i64] qxb):=
 aT qfp f281
def zlp(a:n<=2000):H4 n 1:=by refine⟨by unfold maxLen;omega,ueq (uef (show n+1<=2001 by omega) Ti) (by decide)⟩
def Su{a b:Bool}:(bif !a then Z else !b)=Y↔a=Z/\b=true:=by cases a<;>cases b<;>simp
def zpy(l:List ay.q):List.take ((l.length:Int)-(none:Option Int).getD 0).toNat (List.drop ((none:Option Int).getD 0).toNat l)=l:=by show List.take ((l.length:Int)-0).toNat l=l;rw[uet,uc0,List.take_length]
def qP{a b:Bool}(h:(bif a then b else Y)=Z):a=Z/\b=true:=by
 cases a with
 |false=>cases h
 |true=>exact⟨rfl,h⟩
def N9(h:((n:Int)==0)=Z):n<=1000000:=by have:(n:Int)=0:=ufv h;omega
def Th{c:ay.q}(h:fk c=Z):c.2.2.2.2.1.length<=1000000:=by unfold fk G8 at h;rw[udd,udd]at h;have a:=h.2.2;split at a;exact N9 (qP (qP a).1).2;split at a;have b:ky c.2.2.2.2.1=true:=(qP (qP a).1).1;unfold ky at b;rw[udd]at b;have:=ucx b.1;exact ueq this.2 (by decide);split at a;exact N9 (qP (qP a).1).2;split at a;exact N9 (qP (qP a).1).2;cases a
def Vt{h:aD.q}{c:ay.q}{last:Int}(k:last=yc h)(g:cj h):
  (FV h c last).ok/\(FV h c last).get=((kV h c).1,(kV h c).2,()):=by
 subst k;unfold kV;cases d:(bif !(qS.f (c,())).1 then Z else !(iD.f (h.2.2.1.1,c.2.1,())).1)with
 |true=>
  refine aV d ⟨uT,?_⟩;have a:¬ (fk c=Z/\eH h.2.2.1.1.1 h.2.2.1.1.2.1 c.2.1=Z):=λi=>by have b:(bif !fk c then Z else !eH h.2.2.1.1.1 h.2.2.1.1.2.1 c.2.1)=true:=d;rw[Su.2 i]at b;cases b
  rw[uf1 a];rfl
 |false=>refine aN d ?_;have a:fk c=Z/\eH h.2.2.1.1.1 h.2.2.1.1.2.1 c.2.1=true:=Su.1 d;rw[uf0 a];by_cases b:c.1<yc h;rw[uf0 b];exact aV (ueb b) ⟨uT,rfl⟩;rw[uf1 b];refine aN (udw b) ?_;by_cases e:2000<=(aO h).length;rw[uf0 e];exact aV (ueb (by omega)) ⟨uT,rfl⟩;rw[uf1 e];refine aN (udw (by omega)) (aw (Th a.1) (aw g.2.1 (aw ⟨ufe _,ub4 _,ufe _,rfl⟩ ?_)));rw[zpy];have l:=zlp (n:=(aO h).length) (by omega);refine aw ⟨udv,l⟩ ⟨uT,?_⟩;rfl
def zj2:ag prog 281 SM:=
 dz zj3 _ _ (λw F x l f a=>by obtain⟨h,c,_⟩:=x;obtain⟨v,k,rfl,g,_⟩:=f;have e:((aO h).length:Int)<=9223372036854775807:=yf (aG.wf g.2.2).2.2.2.1.1;have d:=a;by_cases b:(aO h).length=0;refine aN (udw (by show ¬ ((aO h).length:Int)>0;omega)) (Vt ?_ d);unfold yc;rw[uf0 b];have i:I6.wrap (((aO h).length:Int)-1)=((aO h).length:Int)-1:=cV (by omega);refine aV (ueb (by show((aO h).length:Int)>0;omega)) (aw ?_ (Vt ?_ d));show 0<=I6.wrap (((aO h).length:Int)-1)/\I6.wrap (((aO h).length:Int)-1)<((aO h).length:Int);omega;show(List.getD (aO h) (I6.wrap (((aO h).length:Int)-1)).toNat ay.j).1=yc h;unfold yc;rw[uf1 b,i,show(((aO h).length:Int)-1).toNat=(aO h).length-1 by omega])
section
open Go.Shelf
attribute [local go_sem] Oper.semAt_some
def qy7(w:World)(m:Nat)(z:Array Value)(g:z.size=9)(c:m<=maxLen)(e:TypeId):
  w.grownBy ((w.alloc (.cells (Builtin.zeroCells z m++Builtin.zeroCells z (grownCap w m 0 e-m)) e)).drew) V /\
   ((w.alloc (.cells (Builtin.zeroCells z m++Builtin.zeroCells z (grownCap w m 0 e-m)) e)).drew).ownsRow w.heap.size e 9 (.slice (U ⟨w.heap.size,0,V⟩) 0 (grownCap w m 0 e)) 0 []:=by
 have f:=grownCap_ge w m 0 e;have a:grownCap w m 0 e<=maxLen:=ub7 w m 0 e c;refine⟨⟨rfl,rfl,rfl,by simp,λb d _=>qM w.drew _ b d⟩,rfl,.inr ⟨w.heap.size,_,_,rfl,ufd _,ud8 w.drew _,ufj _,a,?_,?_⟩⟩;simp only[ucp,size_zeroCells,g,<- uff];congr 1;omega;rfl
def qy2:prog.types[38].bytes=88:=by decide
def zn6(m:Nat)(h:0<m):Builtin.nextslicecap m 0=m:=by unfold Builtin.nextslicecap;rw[uf0 (by omega)]
def qy5(n:Nat)(m:Nat)(b:m<=maxLen)(d:m*88<=140737488355328)(w:World):
  CallsIn Fence.wide n prog 153 #[.slice V 0 0,.int .i64 m] w λe w'=>∃ v,e=.returned v/\w.grownBy w' V/\w'.ownsRow w.heap.size 38 9 v 0 []:=by
 have a:t38.bytes=88:=qy2;refine callsIn_of_wp func153 rfl trivial ?_ rfl;simp only[ntmps153,ucq,uda,udm,Nat.reduceAdd,Nat.reduceSub,ubn,ubo,ucy,ubx,udn,uc5]
 gi_wp2
 all_goals first
  |(exfalso;simp only[a]at *;omega)
  |(exfalso;rename_i c _ _ _ _ _ ; rw[zn6 _ (by omega),a]at *;omega)
  |(go_ret;exact⟨_,rfl,ub8 _ _,ucs _ _ _ _⟩)
  |(go_ret;exact⟨_,rfl,qy7 w m _ rfl b _⟩)
def qy3:GrowOK prog 153 38 ay 88:=
 ⟨enters (fn:=f153) (by kernel_rfl) rfl rfl,λw n a b=>(callsIn_wide.1 (qy5 1 n a b w))⟩
end
abbrev rK:Ty:=.sl (.sl ay)
def CCc:Cx:=dI [] [] (Nc 153 38 ay 88)
def IF:CxOK prog CCc:=dP (cs:=[]) (ps:=[]) aH trivial trivial (qy4 qy3)
abbrev qh:Pt:=⟨36,0,⟨[(0,.d rK),(9,.d rK),(10,.d i64),(11,.d i64),(3,.d i64)],[]⟩,⟨[(0,.d rK),(3,.d i64)],[]⟩,⟨[],[]⟩⟩
abbrev qj:Pt:=⟨36,2,⟨[(25,.d rK),(26,.d i64),(27,.d i64)],[.o 6 38 ay]⟩,⟨[],[.o 6 38 ay]⟩,⟨[],[]⟩⟩
def Mw(x:qh.M.X):Fr qh.Out:=
 let a:List (List ay.q):=x.1.1;let l:List (List ay.q):=x.1.2.1;let n:Int:=x.1.2.2.1;let i:Int:=x.1.2.2.2.1;let s:Int:=x.1.2.2.2.2.1
 Jb (J (i<n))
  (Jd (0<=i/\i<(l.length:Int))
   (Jb (J (I6.wrap (s+((List.length (α:=ay.q) (l.getD i.toNat []):Nat):Int))<0)) (Jd False (Jv (Rd.back ((),()))))
    (Jv (Rd.next ((a,l,n,I6.wrap (i+1),I6.wrap (s+((List.length (α:=ay.q) (l.getD i.toNat []):Nat):Int)),()),())))))
  (Jv (Rd.out ((a,s,()),())))
def zmm:af prog (au f93 0) qh.M qh Mw:=
 ep IF
def Mx(x:qj.M.X):Fr qj.Out:=
 let l:List (List ay.q):=x.1.1;let n:Int:=x.1.2.1;let i:Int:=x.1.2.2.1;let o:List ay.q:=x.2.1
 Jb (J (i<n))
  (Jd (0<=i/\i<(l.length:Int))
   (Jd (H4 o.length (List.length (α:=ay.q) (l.getD i.toNat [])))
    (Jv (Rd.next ((l,n,I6.wrap (i+1),()),(o++l.getD i.toNat [],()))))))
  (Jv (Rd.out ((),(o,()))))
def zmn:af prog (au f93 1) qj.M qj Mx:=
 ep IF
structure InvCc1 (l:List (List ay.q)) (n i s:Int):Prop where
 i0:0<=i
 il:i<=n
 nl:n=l.length
 big:(l.length:Int)<=9223372036854775807
 few:l.flatten.length<=1000000
 s0:s=((l.take i.toNat).flatten.length:Nat)
def Rf(x:qh.M.X):Fr qh.Out:=Jd (x.1.1=x.1.2.1/\InvCc1 x.1.2.1 x.1.2.2.1 x.1.2.2.2.1 x.1.2.2.2.2.1) (Jv (Rd.out ((x.1.1,((List.flatten (α:=ay.q) x.1.2.1).length:Int),()),())))
def qcm(l:List (List ay.q)){k:Nat}(a:k<l.length):(l.take (k+1)).flatten=(l.take k).flatten++l.getD k []:=by rw[List.take_add_one,List.flatten_append,uaq a,uah,uaq a];simp
def qcn(l:List (List ay.q))(k:Nat):(l.take k).flatten.length<=l.flatten.length:=by
 conv=>rhs;rw[<- uba k l]
 rw[List.flatten_append,ub6];omega
def zbw (a l:List (List ay.q)) (n i s:Int) (c:a=l/\InvCc1 l n i s) (Q:qh.Out->Prop) (m:Q (Rd.out ((a,(l.flatten.length:Int),()),()))):(Mw ((a,l,n,i,s,()),())).s7 λ
   |.next b=>(b.1.1=b.1.2.1/\InvCc1 b.1.2.1 b.1.2.2.1 b.1.2.2.2.1 b.1.2.2.2.2.1)/\(b.1.2.2.1-b.1.2.2.2.1).toNat<(n-i).toNat/\(Rf b).s7 Q
   |.out y=>Q (.out y)
   |.back z=>Q (.back z)
   |.pan p=>Q (.pan p):=by
 obtain⟨rfl,B,C,o,r,t,e⟩:=c;obtain⟨k,rfl⟩:∃ k:Nat,i=k:=⟨i.toNat,by omega⟩;subst o;dsimp only[Mw,Fr.s7];rw[uc0]at e |-;refine⟨λf=>?_,λf=>?_⟩;have h:k<a.length:=by have:(k:Int)<(a.length:Int):=ucx f;omega
 have u:=qcm a h;have v:=qcn a (k+1);have d:=ufy List.length u;rw[ub6]at d;have x:I6.wrap ((k:Int)+1)=((k+1:Nat):Int):=by rw[cV (by omega)];omega
 have A:I6.wrap (s+((a.getD k []).length:Int))=(((a.take (k+1)).flatten.length:Nat):Int):=by rw[cV (by omega)];omega
 rw[x,A];refine⟨⟨by omega,by omega⟩,λw=>?_,λ_=>?_⟩;have:((((a.take (k+1)).flatten.length:Nat):Int)<0):=ucx w;omega;have g:InvCc1 a a.length ((k+1:Nat):Int) (((a.take (k+1)).flatten.length:Nat):Int):=⟨by omega,by omega,rfl,r,t,by rw[uc0]⟩;exact⟨⟨rfl,g⟩,by omega,⟨rfl,g⟩,m⟩;have h:¬ (k:Int)<(a.length:Int):=uch f;rw[ua3 (by omega)]at e;rw[e];exact m
def zc5:af prog (.loop (au f93 0)) qh.M qh Rf:=by refine af.loop (n:=36) (id:=0) zmm (inv:=λx=>x.1.1=x.1.2.1/\InvCc1 x.1.2.1 x.1.2.2.1 x.1.2.2.2.1 x.1.2.2.2.2.1) (μ:=λx=>(x.1.2.2.1-x.1.2.2.2.1).toNat) ?_ (λx Q h=>h.1);rintro⟨⟨c,l,n,i,s,_⟩,_⟩ a Q b;exact zbw c l n i s a Q b.2
structure InvCc2 (l:List (List ay.q)) (n i:Int) (o:List ay.q):Prop where
 i0:0<=i
 il:i<=n
 nl:n=l.length
 big:(l.length:Int)<=9223372036854775807
 few:l.flatten.length<=1000000
 o0:o=(l.take i.toNat).flatten
def Rg(x:qj.M.X):Fr qj.Out:=Jd (InvCc2 x.1.1 x.1.2.1 x.1.2.2.1 x.2.1) (Jv (Rd.out ((),(List.flatten (α:=ay.q) x.1.1,()))))
def zlq(h:n+m<=1000000):H4 n m:=by refine⟨by unfold maxLen;omega,ueq (uef h Ti) (by decide)⟩
def zbx (l:List (List ay.q)) (n i:Int) (o:List ay.q) (b:InvCc2 l n i o) (Q:qj.Out->Prop) (m:Q (Rd.out ((),(l.flatten,())))):(Mx ((l,n,i,()),(o,()))).s7 λ
   |.next a=>InvCc2 a.1.1 a.1.2.1 a.1.2.2.1 a.2.1/\(a.1.2.1-a.1.2.2.1).toNat<(n-i).toNat/\(Rg a).s7 Q
   |.out y=>Q (.out y)
   |.back z=>Q (.back z)
   |.pan p=>Q (.pan p):=by
 obtain⟨w,x,r,s,t,e⟩:=b;obtain⟨k,rfl⟩:∃ k:Nat,i=k:=⟨i.toNat,by omega⟩;subst r;dsimp only[Mx,Fr.s7];rw[uc0]at e |-;subst e;refine⟨λd=>?_,λd=>?_⟩;have h:k<l.length:=by have:(k:Int)<(l.length:Int):=ucx d;omega
 have g:=qcm l h;have u:=qcn l (k+1);have c:=ufy List.length g;rw[ub6]at c;have v:I6.wrap ((k:Int)+1)=((k+1:Nat):Int):=by rw[cV (by omega)];omega
 rw[v,<- g];have f:InvCc2 l l.length ((k+1:Nat):Int) (l.take (k+1)).flatten:=⟨by omega,by omega,rfl,s,t,by rw[uc0]⟩;exact⟨⟨by omega,by omega⟩,zlq (by omega),f,by omega,f,m⟩;have h:¬ (k:Int)<(l.length:Int):=uch d;rw[ua3 (by omega)];exact m
def zc6:af prog (.loop (au f93 1)) qj.M qj Rg:=by refine af.loop (n:=36) (id:=2) zmn (inv:=λx=>InvCc2 x.1.1 x.1.2.1 x.1.2.2.1 x.2.1) (μ:=λx=>(x.1.2.1-x.1.2.2.1).toNat) ?_ (λx Q h=>h.1);rintro⟨⟨l,n,i,_⟩,o,_⟩ a Q b;exact zbx l n i o a Q b.2
def Ew:Ct:=⟨[.d rK],[.sl ay],λx=>(List.flatten (α:=ay.q) x.1,()),λx=>[(List.flatten (α:=ay.q) x.1).length<=1000000]⟩
def Vp(x:ap [.d rK]):Fr (aa [.sl ay]):=
 let l:List (List ay.q):=x.1
 Jd (l=l/\InvCc1 l l.length 0 0)
  (Jd (0<=((l.flatten.length:Nat):Int)/\((l.flatten.length:Nat):Int)<=maxLen/\((l.flatten.length:Nat):Int)*(88:Nat)<=140737488355328)
   (Jd (InvCc2 l l.length 0 []) (Jv (l.flatten,()))))
def qpc:ag prog 93 (bg [.d rK] [.sl ay] Vp):=
 oc IF zc5 zc6 (fr:=Vp) (ps:=[.d rK]) (rs:=[.sl ay])
def qpb:ag prog 93 Ew:=
 dz qpc _ _ (λw F x g d b=>by obtain⟨l,_⟩:=x;obtain⟨v,f,rfl,e,_⟩:=d;have a:(List.length (α:=List ay.q) l:Int)<=9223372036854775807:=yf (aG.wf e.2.2).1;have c:(List.flatten (α:=ay.q) l).length<=1000000:=b;refine aw ⟨rfl,⟨ufe _,ub4 _,rfl,a,c,rfl⟩⟩ (aw ⟨by omega,?_,?_⟩ (aw ⟨ufe _,ub4 _,rfl,a,c,rfl⟩ ⟨uT,rfl⟩));show((List.flatten (α:=ay.q) l).length:Int)<=(maxLen:Int);unfold maxLen;omega;show((List.flatten (α:=ay.q) l).length:Int)*((88:Nat):Int)<=140737488355328;omega)
def Is:Code:=(f92.body.map qa4).getD .skip
def tnA:Code:=(f92.body.map Wt).getD .skip
def tnR:Code:=(findLabel Is 0).getD .skip
def IM:Cx:=cx [(97,Km)] []
def DL:CxOK prog IM:=aQ aH ⟨Ox,uT⟩ trivial
def qI:LS:=⟨[],[.x 1 114 aD,.r 1 1 0]⟩
def DW:LS:=⟨[(4,.d (.sl i64)),(5,.d i64)],[.x 1 114 aD,.r 1 1 0]⟩
def GZ:Pt:=⟨34,0,DW,⟨[],[]⟩,⟨[(2,.d i64),(3,.d .bool)],[]⟩⟩
def C7:Pt:=⟨34,0,qI,⟨[],[]⟩,⟨[(2,.d i64),(3,.d .bool)],[]⟩⟩
def Ft(x:DW.X):Fr GZ.Out:=
 let l:List Int:=x.1.1;let k:Int:=x.1.2.1;let h:aD.q:=x.2.1
 let v:Int:=l.getD (I6.wrap (k-1)).toNat 0
 Jb (k==0) (Jv (Rd.back ((0,Y,()),())))
  (Jd (0<=I6.wrap (k-1)/\I6.wrap (k-1)<(l.length:Int))
   (Jd (0<=v/\v<((aO h).length:Int))
    (Jb (bif ((aO h).getD v.toNat ay.j).2.2.1 != 3 then ((aO h).getD v.toNat ay.j).2.2.1 != 4 else Y)
     (Jv (Rd.next ((l,I6.wrap (k-1),()),(h,()))))
     (Jd (0<=I6.wrap (k-1)/\I6.wrap (k-1)<(l.length:Int)) (Jv (Rd.back ((v,Z,()),())))))))
def qsh(x:qI.X):Fr GZ.Out:=
 let h:aD.q:=x.2.1
 Jd (((aO h).length:Int)<=1000000) (Ft ((bV h,((bV h).length:Int),()),(h,())))
def zmw:iU prog 0 Is qI GZ qsh:=iU.of_run DL (bs:=0) rfl rfl rfl (λ_=>bm _ 0) (λx=>by kernel_rfl)
def zmv:iU prog 0 tnR DW GZ Ft:=iU.of_run DL (bs:=0) rfl rfl rfl (λ_=>bm _ 0) (λx=>by kernel_rfl)
def mX(c:ay.q):Bool:=c.2.2.1==3 || c.2.2.1==4
def j8(h:aD.q)(l:List Int):Nat->Option Int
 |0=>V
 |k+1=>if mX (cw h (l.getD k 0))=Z then U (l.getD k 0)else j8 h l k
structure InvTn (l:List Int) (k:Int) (h:aD.q):Prop where
 k0:0<=k
 kl:k<=l.length
 big:l.length<=1000000
 mem:∀ v∈l,0<=v/\v<((aO h).length:Int)
def GR(o:Option Int):Rd qI.X (LS.X ⟨[],[]⟩) (LS.X ⟨[(2,.d i64),(3,.d .bool)],[]⟩):=Rd.back ((o.getD 0,o.isSome,()),())
def Rm(x:DW.X):Fr C7.Out:=Jd (InvTn x.1.1 x.1.2.1 x.2.1) (Jv (GR (j8 x.2.1 x.1.1 (x.1.2.1:Int).toNat)))
def Rn(x:qI.X):Fr C7.Out:=Jd (((aO x.2.1).length:Int)<=1000000) (Jv (GR (j8 x.2.1 (bV x.2.1) (bV x.2.1).length)))
def za9(c:ay.q):(bif c.2.2.1 != 3 then c.2.2.1 != 4 else Y)=!mX c:=by unfold mX;show(bif !(c.2.2.1==3)then !(c.2.2.1==4)else Y)=!(c.2.2.1==3 || c.2.2.1==4);cases c.2.2.1==3<;>cases c.2.2.1==4<;>rfl
def Xy(l:List Int)(k:Int)(h:aD.q)(b:InvTn l k h)(Q:C7.Out->Prop)(f:Q (GR (j8 h l k.toNat))):(Ft ((l,k,()),(h,()))).s7 λ
   |.next g=>InvTn g.1.1 g.1.2.1 g.2.1/\(g.1.2.1:Int).toNat<k.toNat/\(Rm g).s7 Q
   |.out y=>Q (.out y)
   |.back z=>Q (.back z)
   |.pan p=>Q (.pan p):=by
 obtain⟨B,C,v,s⟩:=b;obtain⟨n,rfl⟩:∃ n:Nat,k=n:=⟨k.toNat,by omega⟩;rw[uc0]at f |-;cases n with
 |zero=>exact⟨λ_=>f,λi=>(by cases i)⟩
 |succ m=>
  have A:I6.wrap (((m+1:Nat):Int)-1)=(m:Int):=by rw[cV (by omega)];omega
  have u:m<l.length:=by omega
  dsimp only[Ft,Fr.s7];rw[A,uc0];have w:l.getD m 0=l[m]:=by rw[uah,uaq u];rfl
  have d:=s (l.getD m 0) (by rw[w];exact udj u);have i:0<=(m:Int)/\(m:Int)<(l.length:Int):=⟨by omega,by omega⟩;have c:=za9 (cw h (l.getD m 0));refine⟨λx=>?_,λ_=>⟨i,d,λo=>?_,λo=>⟨i,?_⟩⟩⟩;exfalso;have:((m+1:Nat):Int)=0:=ufv x;omega;have r:mX (cw h (l.getD m 0))=false:=by have a:(bif (cw h (l.getD m 0)).2.2.1 != 3 then (cw h (l.getD m 0)).2.2.1 != 4 else Y)=true:=o;rw[c]at a;simpa using a
  have t:InvTn l (m:Int) h:=⟨by omega,by omega,v,s⟩;refine⟨t,Nat.lt_succ_self m,t,?_⟩;show Q (GR (j8 h l (m:Int).toNat));rw[uc0];have e:j8 h l (m+1)=j8 h l m:=uf1 (by rw[r];decide);rw[<- e];exact f;have r:mX (cw h (l.getD m 0))=true:=by have a:(bif (cw h (l.getD m 0)).2.2.1 != 3 then (cw h (l.getD m 0)).2.2.1 != 4 else Y)=false:=o;rw[c]at a;simpa using a
  have e:j8 h l (m+1)=U (l.getD m 0):=uf0 r;rw[e]at f;exact f
def zmc:af prog (.scope Is) qI C7 Rn:=
 zr8 (n:=34) (id:=0) (N:=qI) (rest:=tnR) (by kernel_rfl) zmw zmv (F:=Rm) (inv:=λx=>InvTn x.1.1 x.1.2.1 x.2.1) (μ:=λx=>(x.1.2.1:Int).toNat)
  (by
   rintro⟨_,h,_⟩ Q c;have d:(bV h).length=(aO h).length:=GQ h;have e:((aO h).length:Int)<=1000000:=c.1;have f:InvTn (bV h) ((bV h).length:Int) h:=⟨ub4 _,ufe _,by omega,λv g=>Cp g⟩;refine⟨e,Fr.satP_mono ?_ (Xy (bV h) ((bV h).length:Int) h f Q ?_)⟩
   ·intro r b;cases r with
    |next i=>exact⟨b.1,b.2.2⟩
    |out y=>exact b
    |back z=>exact b
    |pan p=>exact b
   rw[uc0];exact c.2)
  (by rintro⟨⟨l,k,_⟩,h,_⟩ a Q c;exact Xy l k h a Q c.2)
def pb(h:aD.q):Option Int:=j8 h (bV h) (bV h).length
def t8:Ct:=⟨[.d aD],[i64,.bool],λx=>((pb x.1).getD 0,(pb x.1).isSome,()),λx=>[((aO x.1).length:Int)<=1000000]⟩
def zq1:ag prog 92 t8:=
 dz (VA (run:=vS (cQ prog IM 0 bK tnA 0) (C7.han IM.Γ qI Rn)) (fn:=f92) (c:=.seq tnA (.scope Is)) (ps:=[.d aD]) (rs:=[i64,.bool])
  (fr:=λx=>Jd (((aO x.1).length:Int)<=1000000) (Jv ((pb x.1).getD 0,(pb x.1).isSome,()))) (aD.j,()) (by kernel_rfl) (by kernel_rfl)
  (λE=>D6 (xl DL (bm _ 0)) (af.run DL rfl zmc)) (λx=>by kernel_rfl)) _ _ (λ_ _ _ _ _ a=>aw a ⟨uT,rfl⟩)
def mC:Code->Code
 |.seq _ c=>c
 |_=>.skip
def ur:Code->Code
 |.seq c _=>c
 |_=>.skip
def Oq:Code->Array Oper
 |.region _ a _=>a
 |_=>#[]
def wH:Code:=(f94.body.map λc=>mC (mC c)).getD .skip
def Ac:Cx:=cx [(100,lg)] [(91,fy),(149,gg),(90,iF)]
def Ad:CxOK prog Ac:=aQ aH ⟨OQ,uT⟩ ⟨TG,NU,qdq,uT⟩
def qas:St->Option Tr:=
 vS (cQ prog Ac 0 bK (ur wH) 0) (vS (cQ prog Ac 0 bK (ur (mC wH)) 0)
  (vS (OG prog Ac 0 (Oq (ur (mC (mC wH)))).toList) (cQ prog Ac 0 bK (mC (mC (mC wH))) 0)))
def Mu(a b:Bool)(c d:PV)(v:Int):Fr (aa [i64,i64]):=
 Jb a (Jd (a=Y->a=Y) (Jd (a=Z->True/\c=c) (Jd (b=Y->b=Y) (Jd (b=Z->True/\d=c) (Jd (inR .i64 c.n) (Jv (0,c.n,())))))))
  (Jb b (Jd (a=Y->a=Y) (Jd (a=Z->True/\c=d) (Jd (b=Y->b=Y) (Jd (b=Z->True/\d=d) (Jd (inR .i64 d.n) (Jv (0,d.n,())))))))
   (Jd (a=Y) (Jd (b=Y) (Jv (v,0,())))))
def Vn(f:bG.q)(a b:Int):Fr (aa [i64,i64]):=
 Mu (iF.bad (f,b,())) (iF.bad (f,a,())) (iF.pv (f,b,())) (iF.pv (f,a,())) (I6.wrap ((iF.f (f,b,())).1-(iF.f (f,a,())).1))
def Vm(x:ap [.d eK,.d cK]):Fr (aa [i64,i64]):=
 let c:=gg.pv (1,());let b:=fy.pv (x.1,());let a:=Vn (fy.f (x.1,())).1 x.2.1.1 x.2.1.2.1;Jb (fy.bad (x.1,())) (Jd (inR .i64 b.n) (Jv (0,b.n,())))
  (Jb (!(lg.f (x.2.1,())).1)
   (Jb (gg.bad (1,())) (Jd (inR .i64 c.n) (Jv (0,c.n,()))) a)
   a)
def zly(E:Env):nI prog E wH qas:=
 D6 (xl Ad (bm _ 0)) (D6 (xl Ad (bm _ 0))
  (D6 (zkl Ad) (xl Ad (bm _ 0))))
def qel:ag prog 94 (bg [.d eK,.d cK] [i64,i64] Vm):=
 qrk Ad (run:=qas) (fn:=f94) (A:=ur (f94.body.getD .skip)) (c:=wH) (rid:=1) (ops:=Oq (ur (mC (f94.body.getD .skip)))) (tp:=5) (fr:=Vm) (ps:=[.d eK,.d cK]) (rs:=[i64,i64]) ([],(0,0,()),()) (by kernel_rfl) (by kernel_rfl) (by kernel_rfl) qc2 zly (λx=>by kernel_rfl)
def zjh{a b:Int×Int}{d e:Bool}{v:Int}(g:d=!(a.2==0))(h:e=!(b.2==0)):
  (if d=Z then ((0:Int),a.2,())else if e=Z then ((0:Int),b.2,())else (v,(0:Int),())) =
   ((if a.2≠0 then ((0:Int),a.2)else if b.2≠0 then ((0:Int),b.2)else (v,(0:Int))).1,(if a.2≠0 then ((0:Int),a.2)else if b.2≠0 then ((0:Int),b.2)else (v,(0:Int))).2,()):=by
 subst g;subst h;by_cases c:a.2=0;by_cases f:b.2=0;simp[c,f];simp[c,f];simp[c]
def ql7{b:Int}(c:0<=a/\a<=4000000000000000000)(d:0<=b/\b<=4000000000000000000): -9223372036854775808<=a-b/\a-b<=9223372036854775807:=by omega
def qw0{a b:Bool}{c d:PV}{v:Int}(h:a=Z->b=Z->d=c)(e:inR .i64 c.n)(f:inR .i64 d.n):
  (Mu a b c d v).ok/\(Mu a b c d v).get=if a=Z then (0,c.n,())else if b=Z then (0,d.n,())else (v,0,()):=by
 cases a with
 |true=>exact⟨⟨λ_=>⟨λh=>(by cases h),λ_=>⟨uT,rfl⟩,λh=>h,λg=>⟨uT,h rfl g⟩,e,uT⟩,λh=>(by cases h)⟩,rfl⟩
 |false=>
  cases b with
  |true=>exact⟨⟨λh=>(by cases h),λ_=>⟨λ_=>⟨λh=>h,λh=>(by cases h),λh=>(by cases h),λ_=>⟨uT,rfl⟩,f,uT⟩,λh=>(by cases h)⟩⟩,rfl⟩
  |false=>exact⟨⟨λh=>(by cases h),λ_=>⟨λh=>(by cases h),λ_=>⟨rfl,rfl,uT⟩⟩⟩,rfl⟩
def gM(l:List aF.q)(s:cK.q):Int×Int:=
 if (iY l).isNone=Z\/mw s=Y then (0,1)
 else if (cu (cB l) s.2.1).2≠0 then (0,(cu (cB l) s.2.1).2)
 else if (cu (cB l) s.1).2≠0 then (0,(cu (cB l) s.1).2)
 else ((cu (cB l) s.2.1).1-(cu (cB l) s.1).1,0)
def JO:Ct:=⟨[.d eK,.d cK],[i64,i64],λx=>((gM x.1 x.2.1).1,(gM x.1 x.2.1).2,()),λ_=>[]⟩
def ql6:ag prog 94 JO:=
 conv qel _ _ λw F A D B _=>by
  obtain⟨l,s,_⟩:=A;by_cases k:(iY l).isNone=Z;have b:fy.bad (l,())=true:=k;refine⟨⟨λ_=>⟨xx Lv,uT⟩,λh=>(by have a:fy.bad (l,())=false:=h;rw[b]at a;cases a)⟩,?_⟩;show(if fy.bad (l,())=Z then ((0:Int),(1:Int),())else _)=((gM l s).1,(gM l s).2,());unfold gM;rw[b,uf0 rfl,uf0 (.inl k)];have e:=ucz.2 k;have b:fy.bad (l,())=false:=e;have x:=TH e;by_cases m:mw s=Z;have g:(!(lg.f (s,())).1)=false:=by show(!(mw s))=Y;rw[m];rfl
  have o:iF.bad (cB l,s.2.1,())=Z->iF.bad (cB l,s.1,())=Z->iF.pv (cB l,s.1,())=iF.pv (cB l,s.2.1,()):=by
   intro p r;have i:∀ d,iF.bad (cB l,d,())=Z->(cu (cB l) d).2=5:=λd v=>by have c:(!((cu (cB l) d).2==0))=true:=v;rw[PZ x]at c |-;split;rename_i n;rw[uf0 n]at c;cases c;rfl
   show(⟨_,_,(cu (cB l) s.1).2⟩:PV)=⟨_,_,(cu (cB l) s.2.1).2⟩;rw[i _ p,i _ r]
  obtain⟨z,C⟩:=qw0 o (xx (Qa (cB l) s.2.1)) (xx (Qa (cB l) s.1));refine⟨⟨λh=>(by have a:fy.bad (l,())=true:=h;rw[b]at a;cases a),λ_=>⟨λh=>(by have a:(!(lg.f (s,())).1)=true:=h;rw[g]at a;cases a),λ_=>z⟩⟩,?_⟩;show(if fy.bad (l,())=Z then _ else if (!(lg.f (s,())).1)=Z then _ else (Vn (cB l) s.1 s.2.1).get)=((gM l s).1,(gM l s).2,());rw[b,uf1 (by decide),g,uf1 (by decide)];have y:=cV (ql7 (Qb (cB l) s.2.1) (Qb (cB l) s.1));have u:gM l s=if (cu (cB l) s.2.1).2≠0 then (0,(cu (cB l) s.2.1).2)else if (cu (cB l) s.1).2≠0 then (0,(cu (cB l) s.1).2)else ((cu (cB l) s.2.1).1-(cu (cB l) s.1).1,0):=uf1 (λh=>h.elim k (λh=>by rw[m]at h;cases h))
  rw[u,<- y];exact zjh rfl rfl;have g:(!(lg.f (s,())).1)=true:=by show(!(mw s))=Z;simpa using m
  refine⟨⟨λh=>(by have a:fy.bad (l,())=true:=h;rw[b]at a;cases a),λ_=>⟨λ_=>⟨λ_=>⟨xx Lv,uT⟩,λh=>(by cases h)⟩,λh=>(by have a:(!(lg.f (s,())).1)=false:=h;rw[g]at a;cases a)⟩⟩,?_⟩;show(if fy.bad (l,())=Z then _ else if (!(lg.f (s,())).1)=Z then ((0:Int),(1:Int),())else _)=((gM l s).1,(gM l s).2,());have t:gM l s=(0,1):=uf0 (.inr (by simpa using m));rw[b,uf1 (by decide),g,uf0 rfl,t]
end Go.Proofs.YtdokapnnagbehaaGreat
