/-
  Parts of the proof, one behind the other.
-/
import Derived.Test.YtdadnmgajcfkfaaGreatMf
import Derived.Defers
set_option linter.all false
set_option maxRecDepth 100000
set_option maxHeartbeats 4000000
noncomputable section
open Option renaming some->U,none->V
open Bool renaming true->Z,false->Y
open Decidable renaming decide->J
open List renaming replicate->Lrp
open BitVec renaming ofInt->Bvo
open Go Go.RowKit
variable {T α σ ρ β:Type} {P:Program} {ad:Addr} {arr cs cur:Array Value} {f:FuncId} {x a y day:Int} {k:IntKind} {l:List Int} {xs vs news:List Value} {off i n b c d B m len:Nat} {F F' K:Nat->Prop} {R g R':Nat->Value->Prop} {o:Oper} {p:Prop} {e ety t ty el:TypeId} {v u vx:Value} {w w' W' W:World}
namespace Go.Proofs.YtdadnmgajcfkfaaGreat
open Go Go.Ab Go.RowKit Go.Proofs Tryz
open Go.Ab.Fr renaming val->Jv,need->Jd,br->Jb
structure SymOk {T:Ty} (n:Nat) (a m b:Int) (g:(aZ T).q) (l:List T.q):Prop where
 a0:0<=a
 am:a<m
 mb:m<b
 bl:b<=l.length
 big:(l.length:Int)<=4611686018427387903
 size:b-a<=n
 dom:lI g l
 key:∃ key:T.q->Int,dY (aR g) key l/\cA key (bz a.toNat m.toNat l)/\cA key (bz m.toNat b.toNat l)
def kN(e:TypeId)(T:Ty)(n:Nat):Mt:=⟨e,T,[.d i64,.d i64,.d i64,(aZ T)],[],λl x=>(bP (aR x.2.2.2.1) x.1.toNat x.2.2.1.toNat l,()),λl x=>[SymOk n x.1 x.2.1 x.2.2.1 x.2.2.2.1 l]⟩
def wG{T:Ty}(c i j:Int)(g:(aZ T).q)(l:List T.q):Int:=(cM (λh=>aR g (l.getD h T.j) (l.getD c.toNat T.j)) (j.toNat-i.toNat) i.toNat j.toNat:Nat)
def JF{T:Ty}(c i j:Int)(g:(aZ T).q)(l:List T.q):Int:=(cM (λh=>!aR g (l.getD c.toNat T.j) (l.getD h T.j)) (j.toNat-i.toNat) i.toNat j.toNat:Nat)
def Ep{T:Ty}(p i j:Int)(g:(aZ T).q)(l:List T.q):Int:=(cM (λh=>!aR g (l.getD (p.toNat-h) T.j) (l.getD h T.j)) (j.toNat-i.toNat) i.toNat j.toNat:Nat)
def D4(e:TypeId)(T:Ty)(n:Nat)(bc a b:Int)(g:(aZ T).q)(l:List T.q):Fr (List T.q×aa []):=
 Jb (bif J (bc<a)then J (a<b)else Y) (Jd (SymOk n bc a b (g.1,g.2) l) (Jv ((((kN e T) n).f l (bc,a,b,(g.1,g.2),())).1,()))) (Jv (l,()))
def D3(e:TypeId)(T:Ty)(n:Nat)(a c bc d b:Int)(g:(aZ T).q)(l:List T.q):Fr (List T.q×aa []):=
 Jb (bif J (a<c)then J (c<bc)else Y) (Jd (SymOk n a c bc (g.1,g.2) l) ((D4 e T) n bc d b g (((kN e T) n).f l (a,c,bc,(g.1,g.2),())).1)) ((D4 e T) n bc d b g l)
def Io(e:TypeId)(T:Ty)(n:Nat)(a m b d bc c:Int)(g:(aZ T).q)(l:List T.q):Fr (List T.q×aa []):=
 Jb (bif J (d<m)then J (m<c)else Y)
  (Jd (0<=d) (Jd (d<m) (Jd (m<c) (Jd (c<=(l.length:Int)) (Jd ((l.length:Int)<=4611686018427387903) ((D3 e T) n a d bc c b g ((rN e T).f l (d,m,c,(g.1,g.2),())).1))))))
  ((D3 e T) n a d bc c b g l)
def D2(e:TypeId)(T:Ty)(n:Nat)(a m b bc i j:Int)(g:(aZ T).q)(l:List T.q):Fr (List T.q×aa []):=
 let p:=I6.wrap (I6.wrap (bc+m)-1)
 Jd (InvS4 p i j (g.1,g.2) l) ((Io e T) n a m b (Ep p i j (g.1,g.2) l) bc (I6.wrap (I6.wrap (bc+m)-Ep p i j (g.1,g.2) l)) g l)
def ue(e:TypeId)(T:Ty)(n:Nat)(l:List T.q)(x:ap [.d i64,.d i64,.d i64,(aZ T)]):Fr (List T.q×aa []):=
 let a:=x.1;let m:=x.2.1;let b:=x.2.2.1;let g:=x.2.2.2.1
 Jb (I6.wrap (m-a)==1)
  (Jd (InvS0 a m b (g.1,g.2) l) (Jd (InvS1 (wG a m b (g.1,g.2) l) a l) (Jv (qx T.j (wG a m b (g.1,g.2) l-1-a).toNat a.toNat l,()))))
  (Jb (I6.wrap (b-m)==1)
   (Jd (InvS2 m a m (g.1,g.2) l) (Jd (InvS3 (JF m a m (g.1,g.2) l) m l) (Jv (pJ T.j (m-JF m a m (g.1,g.2) l).toNat m.toNat l,()))))
   (Jd (¬(1:Int)<0)
    (Jb (J (m>de a b))
     ((D2 e T) n a m b (de a b) (I6.wrap (I6.wrap (de a b+m)-b)) (de a b) g l)
     ((D2 e T) n a m b (de a b) a m g l))))
def Es{Q:Nat->Bool}:(f i j:Nat)->i<=j->i<=cM Q f i j/\cM Q f i j<=j
 |0,i,j,h=>⟨ufb _,h⟩
 |f+1,i,j,h=>by
  simp only[cM];split;cases Q ((i+j)/2)with
  |true=>have:=Es (Q:=Q) f ((i+j)/2+1) j (by omega);simp;omega
  |false=>have:=Es (Q:=Q) f i ((i+j)/2) (by omega);simp;omega
  exact⟨ufb _,h⟩
structure Sym3 {T:Ty} (lt:T.q->T.q->Bool) (key:T.q->Int) (a m b st:Nat) (l:List T.q):Prop where
 s1:a<=st
 s2:st<=m
 s3:st<=(a+b)/2
 s4:(a+b)/2<=b
 e1:m+st<=(a+b)/2+m
 e2:(a+b)/2+m<=b+st
 len1:(dE T.j m st ((a+b)/2+m-st) l).length=l.length
 same1:bA key l (dE T.j m st ((a+b)/2+m-st) l)
 sA1:cA key (bz a st (dE T.j m st ((a+b)/2+m-st) l))
 sB1:cA key (bz st ((a+b)/2) (dE T.j m st ((a+b)/2+m-st) l))
 len2:(if a<st/\st<(a+b)/2 then bP lt a ((a+b)/2) (dE T.j m st ((a+b)/2+m-st) l)else dE T.j m st ((a+b)/2+m-st) l).length=l.length
 same2:bA key l (if a<st/\st<(a+b)/2 then bP lt a ((a+b)/2) (dE T.j m st ((a+b)/2+m-st) l)else dE T.j m st ((a+b)/2+m-st) l)
 sA2:cA key (bz ((a+b)/2) ((a+b)/2+m-st) (if a<st/\st<(a+b)/2 then bP lt a ((a+b)/2) (dE T.j m st ((a+b)/2+m-st) l)else dE T.j m st ((a+b)/2+m-st) l))
 sB2:cA key (bz ((a+b)/2+m-st) b (if a<st/\st<(a+b)/2 then bP lt a ((a+b)/2) (dE T.j m st ((a+b)/2+m-st) l)else dE T.j m st ((a+b)/2+m-st) l))
def zpq{T:Ty}{lt:T.q->T.q->Bool}{k:T.q->Int}{a:Nat}{l:List T.q}(W:a<m)(h2:m<b)(h3:b<=l.length)(hl:dY lt k l)(N:cA k (bz a m l))(O:cA k (bz m b l)):
  Sym3 lt k a m b (eL lt T.j a m b l) l:=by
 obtain⟨p,q,A,H,C,E,hq⟩:=qa8 (ue7 W) (ue7 h2) h3;have D:=hl.sub λz K=>by
  rw[A];rcases udt.1 K with h|h
  exact ua6 _ (ubk _ h);exact ua6 _ (ua6 _ (ubk _ h))
 obtain⟨g,c,e,f,R,S,P,Q,f1,f2⟩:=qch (d:=T.j) H C E W h2 D N O;rw[<- A]at P Q;rw[R]at N C;rw[S]at O E;rw[R,S]at A;generalize eL lt T.j a m b l=n at P Q |-;subst A;simp at C E h3;have L:=ubp.1 N;have M:=ubp.1 O;have F:(a+b)/2+m-n=m+e.length:=by omega
 have t:dE T.j m n ((a+b)/2+m-n) (p++(g++c++(e++f++q)))=p++(g++(e++(c++(f++q)))):=by rw[F];unfold dE;split;rename_i v;have:=qad (d:=T.j) (a:=n) (m:=m) (x:=c) (y:=e) (p:=p++g) (q:=f++q) (by omega) (by omega) (by simp;omega) (by omega) rfl;simpa using this;rename_i v;by_cases w:e=[];subst w;simp;have:=ubz.2 w;have:c=[]:=uaz.1 (by omega);subst this;simp
 have i:bA k (p++(g++c++(e++f++q))) (p++(g++(e++(c++(f++q))))):=by have h:=(bA.refl p).app (((bA.refl g).app (bA.swap λx hx y hy=>by have:=f2 y hy x hx;omega:bA k (c++e) (e++c))).app (bA.refl (f++q)));simpa using h
 have G:=hl.sub λz K=>i.mem.1 K;have g1:bz a n (p++(g++(e++(c++(f++q)))))=g:=vE H (by omega);have g2:bz n ((a+b)/2) (p++(g++(e++(c++(f++q)))))=e:=by have:=vE (p:=p++g) (s:=e) (q:=c++(f++q)) (a:=n) (b:=(a+b)/2) (by simp;omega) (by omega);simpa using this
 have B:∀ u:List T.q,u.length=g.length+e.length->bz ((a+b)/2) ((a+b)/2+m-n) (p++(u++(c++(f++q))))=c/\bz ((a+b)/2+m-n) b (p++(u++(c++(f++q))))=f:=λu hT=>by have k1:=vE (p:=p++u) (s:=c) (q:=f++q) (a:=(a+b)/2) (b:=(a+b)/2+m-n) (by simp;omega) (by omega);have k2:=vE (p:=p++u++c) (s:=f) (q:=q) (a:=(a+b)/2+m-n) (b:=b) (by simp;omega) (by omega);exact⟨by simpa using k1,by simpa using k2⟩
 have o:(p++(g++(e++(c++(f++q))))).length=(p++(g++c++(e++f++q))).length:=by simp;omega
 have r:a<n/\n<(a+b)/2->bP lt a ((a+b)/2) (p++(g++(e++(c++(f++q)))))=p++(dp lt (g++e)++(c++(f++q))):=λv=>by have:=uS (lt:=lt) (b:=(a+b)/2) (s:=g++e) (q:=c++(f++q)) H (by simp;omega);simpa using this
 refine⟨by omega,by omega,by omega,by omega,by omega,by omega,by rw[t];exact o,by rw[t];exact i,by rw[t,g1];exact L.1,by rw[t,g2];exact M.1,?_,?_,?_,?_⟩;rw[t];split;rw[uU (by omega) (by simp;omega)];exact o;exact o;rw[t];split;exact i.trans (O0 (by omega) (by simp;omega) G);exact i;rw[t];split;rename_i v;rw[r v,(B _ (by rw[oS];simp)).1];exact L.2.1;have:=(B (g++e) (by simp)).1;rw[show p++(g++(e++(c++(f++q))))=p++((g++e)++(c++(f++q))) by simp,this];exact L.2.1;rw[t];split;rename_i v;rw[r v,(B _ (by rw[oS];simp)).2];exact M.2.1;have:=(B (g++e) (by simp)).2;rw[show p++(g++(e++(c++(f++q))))=p++((g++e)++(c++(f++q))) by simp,this];exact M.2.1
def zpt{T:Ty}{lt:T.q->T.q->Bool}{c:T.q->Int}{a:Nat}{l:List T.q}(f:a<m)(g:m<b)(t:b<=l.length)(u:dY lt c l)(o:cA c (bz a m l))(r:cA c (bz m b l)):
  sx lt T.j a m b l=bP lt a b l:=by
 obtain⟨p,q,e,n,i,k,w⟩:=qa8 (ue7 f) (ue7 g) t;generalize bz a m l=A at e i o;generalize bz m b l=B at e k r;subst e;have d:=u.sub λz v=>by
  rcases udt.1 v with h|h
  exact ua6 _ (ubk _ h);exact ua6 _ (ua6 _ (ubk _ h))
 rw[zps n i k f g d o r];have:=uS (lt:=lt) (b:=b) (s:=A++B) (q:=q) n (by simp;omega);rw[<- this];simp
def J3(p q:Prop)[Decidable p][Decidable q]:(bif decide p then decide q else Y)=J (p/\q):=by by_cases p<;>by_cases q<;>simp_all
def qcf{T:Ty}{bc a:Nat}{g:(aZ T).q}{l:List T.q}(h:bc<a/\a<b->SymOk n bc a b g l):
  ((D4 e T) n bc a b g l).ok/\((D4 e T) n bc a b g l).get=((if bc<a/\a<b then bP (aR g) bc b l else l),()):=by
 unfold D4;have f:(bif J ((bc:Int)<a)then J ((a:Int)<b)else Y)=J (bc<a/\a<b):=by rw[J3,udh];omega
 rw[f];by_cases c:bc<a/\a<b;rw[ueb c,ufw c];exact⟨⟨λ_=>⟨h c,uT⟩,λd=>by cases d⟩,rfl⟩;rw[udw c,ufx c];exact⟨⟨λd=>(by cases d),λ_=>uT⟩,rfl⟩
def qce{T:Ty}{a c bc d:Nat}{g:(aZ T).q}{l:List T.q}(h:a<c/\c<bc->SymOk n a c bc g l)(k:bc<d/\d<b->SymOk n bc d b g (if a<c/\c<bc then bP (aR g) a bc l else l)):
  ((D3 e T) n a c bc d b g l).ok/\((D3 e T) n a c bc d b g l).get=((if bc<d/\d<b then bP (aR g) bc b (if a<c/\c<bc then bP (aR g) a bc l else l)else (if a<c/\c<bc then bP (aR g) a bc l else l)),()):=by
 unfold D3;have p:(bif J ((a:Int)<c)then J ((c:Int)<bc)else Y)=J (a<c/\c<bc):=by rw[J3,udh];omega
 rw[p];by_cases f:a<c/\c<bc;rw[ufw f]at k |-;rw[ueb f];obtain⟨i,m⟩:=qcf k;exact⟨⟨λ_=>⟨h f,i⟩,λo=>by cases o⟩,m⟩;rw[ufx f]at k |-;rw[udw f];obtain⟨i,m⟩:=qcf k;exact⟨⟨λo=>(by cases o),λ_=>i⟩,m⟩
def zpr{T:Ty}{a c bc d:Nat}{g:(aZ T).q}{l:List T.q}(t:d<=l.length)(f:(l.length:Int)<=4611686018427387903)(h:a<c/\c<bc->SymOk n a c bc g (dE T.j m c d l))(k:bc<d/\d<b->SymOk n bc d b g (if a<c/\c<bc then bP (aR g) a bc (dE T.j m c d l)else dE T.j m c d l)):
  ((Io e T) n a m b c bc d g l).ok/\((Io e T) n a m b c bc d g l).get=((if bc<d/\d<b then bP (aR g) bc b (if a<c/\c<bc then bP (aR g) a bc (dE T.j m c d l)else dE T.j m c d l)else (if a<c/\c<bc then bP (aR g) a bc (dE T.j m c d l)else dE T.j m c d l)),()):=by
 unfold Io;have s:(bif J ((c:Int)<m)then J ((m:Int)<d)else Y)=J (c<m/\m<d):=by rw[J3,udh];omega
 rw[s];by_cases i:c<m/\m<d;have e:dE T.j m c d l=sg T.j c m d l:=by unfold dE;rw[ufw i]
 rw[e]at h k |-;rw[ueb i];obtain⟨o,p⟩:=qce h k;exact⟨⟨λ_=>⟨by omega,by omega,by omega,by omega,f,o⟩,λr=>by cases r⟩,p⟩;have e:dE T.j m c d l=l:=by unfold dE;rw[ufx i]
 rw[e]at h k |-;rw[udw i];obtain⟨o,p⟩:=qce h k;exact⟨⟨λr=>(by cases r),λ_=>o⟩,p⟩
def qci{T:Ty}(n a m b:Nat)(g:(aZ T).q)(l:List T.q)(h:SymOk (n+1) a m b g l):((ue e T) n l ((a:Int),(m:Int),(b:Int),g,())).ok/\((ue e T) n l ((a:Int),(m:Int),(b:Int),g,())).get=(bP (aR g) a b l,()):=by
 obtain⟨_,h1,h2,h3,c,G,f,A,C,sA,sB⟩:=h;have v:a<m:=by omega
 have w:m<b:=by omega
 have x:b<=l.length:=by omega
 have hX:=zpt v w x C sA sB;rw[<- hX];have w1:I6.wrap ((m:Int)-a)=(m-a:Nat):=Dz (by omega) (by omega);have w2:I6.wrap ((b:Int)-m)=(b-m:Nat):=Dz (by omega) (by omega);have y:de (a:Int) b=((a+b)/2:Nat):=GL (by omega);dsimp only[ue];rw[w1,w2,y];by_cases B:m-a=1;have p:(((m-a:Nat):Int)==1)=true:=by rw[B];rfl
 rw[p];unfold sx;rw[ufw B];obtain⟨L,M⟩:=Es (b-m) m b (by omega);have t:wG (a:Int) m b g l=(cM (λh=>aR g (l.getD h T.j) (l.getD a T.j)) (b-m) m b:Nat):=rfl;have e:(g.1,g.2)=g:=rfl;rw[t];generalize cM (λh=>aR g (l.getD h T.j) (l.getD a T.j)) (b-m) m b=r at L M |-;refine⟨⟨λ_=>⟨⟨by omega,by omega,by omega,by omega,by omega,c,f⟩,⟨by omega,by omega,by omega,c⟩,uT⟩,λd=>by cases d⟩,?_⟩;rw[show((r:Int)-1-a).toNat=r-1-a by omega];rfl
 ·have p:(((m-a:Nat):Int)==1)=false:=by rw[ubw];omega
  rw[p];by_cases D:b-m=1;have p:(((b-m:Nat):Int)==1)=true:=by rw[D];rfl
  rw[p];unfold sx;rw[ufx B,ufw D];obtain⟨L,M⟩:=Es (m-a) a m (by omega);have t:JF (m:Int) a m g l=(cM (λh=>!aR g (l.getD m T.j) (l.getD h T.j)) (m-a) a m:Nat):=rfl;have e:(g.1,g.2)=g:=rfl;rw[t];generalize cM (λh=>!aR g (l.getD m T.j) (l.getD h T.j)) (m-a) a m=r at L M |-;refine⟨⟨λd=>(by cases d),λ_=>⟨λ_=>⟨⟨by omega,by omega,by omega,by omega,by omega,c,f⟩,⟨by omega,by omega,by omega,c⟩,uT⟩,λd=>by cases d⟩⟩,?_⟩;rw[show((m:Int)-r).toNat=m-r by omega];rfl
  ·have p:(((b-m:Nat):Int)==1)=false:=by rw[ubw];omega
   rw[p];have N:=zpq v w x C sA sB;have s:∀ i j:Nat,(i=if (a+b)/2<m then (a+b)/2+m-b else a)->(j=if (a+b)/2<m then (a+b)/2 else m) ->
     ((D2 e T) n a m b ((a+b)/2:Nat) i j g l).ok/\((D2 e T) n a m b ((a+b)/2:Nat) i j g l).get=(sx (aR g) T.j a m b l,()):=λi j S W=>by
    have wp:I6.wrap (I6.wrap ((((a+b)/2:Nat):Int)+m)-1)=((a+b)/2+m-1:Nat):=by rw[Jq (by omega),Z4 (by omega) (by omega)]
    have hS:Ep (((a+b)/2+m-1:Nat):Int) i j g l=(eL (aR g) T.j a m b l:Nat):=by unfold Ep eL;simp;rw[<- S,<- W]
    dsimp only[D2];have e:(g.1,g.2)=g:=rfl;rw[wp,e,hS];have we:I6.wrap (I6.wrap ((((a+b)/2:Nat):Int)+m)-(eL (aR g) T.j a m b l:Nat))=((a+b)/2+m-eL (aR g) T.j a m b l:Nat):=by have:=N.s3;rw[Jq (by omega),Dz (by omega) (by omega)]
    rw[we];have E:sx (aR g) T.j a m b l=(if (a+b)/2<(a+b)/2+m-eL (aR g) T.j a m b l/\(a+b)/2+m-eL (aR g) T.j a m b l<b then bP (aR g) ((a+b)/2) b (if a<eL (aR g) T.j a m b l/\eL (aR g) T.j a m b l<(a+b)/2 then bP (aR g) a ((a+b)/2) (dE T.j m (eL (aR g) T.j a m b l) ((a+b)/2+m-eL (aR g) T.j a m b l) l)else dE T.j m (eL (aR g) T.j a m b l) ((a+b)/2+m-eL (aR g) T.j a m b l) l)else (if a<eL (aR g) T.j a m b l/\eL (aR g) T.j a m b l<(a+b)/2 then bP (aR g) a ((a+b)/2) (dE T.j m (eL (aR g) T.j a m b l) ((a+b)/2+m-eL (aR g) T.j a m b l) l)else dE T.j m (eL (aR g) T.j a m b l) ((a+b)/2+m-eL (aR g) T.j a m b l) l)):=by
     conv=>lhs;unfold sx
     rw[ufx B,ufx D]
    rw[E];generalize eL (aR g) T.j a m b l=st at N |-;obtain⟨q1,q2,q3,q4,q5,q6,len1,k,O,Q,len2,o,P,R⟩:=N;obtain⟨o1,o2⟩:=zpr (n:=n) (by omega) c
     (λp=>⟨by omega,by omega,by omega,by omega,by omega,by omega,f.sub λz u=>k.mem.1 u,A,C.sub λz u=>k.mem.1 u,O,Q⟩)
     (λp=>⟨by omega,by omega,by omega,by omega,by omega,by omega,f.sub λz u=>o.mem.1 u,A,C.sub λz u=>o.mem.1 u,P,R⟩)
    refine⟨⟨?_,o1⟩,o2⟩;refine⟨by omega,?_,?_,by omega,?_,?_,c,f⟩<;>(subst S W;split<;>omega)
   by_cases cm:m>(a+b)/2;have F:J ((m:Int)>((a+b)/2:Nat))=true:=ueb (by omega);rw[F];have wi:I6.wrap (I6.wrap ((((a+b)/2:Nat):Int)+m)-b)=((a+b)/2+m-b:Nat):=by rw[Jq (by omega),Dz (by omega) (by omega)]
   rw[wi];obtain⟨H,K⟩:=s ((a+b)/2+m-b) ((a+b)/2) (by rw[ufw (by omega)]) (by rw[ufw (by omega)]);exact⟨⟨λd=>(by cases d),λ_=>⟨λd=>(by cases d),λ_=>⟨by omega,λ_=>H,λd=>by cases d⟩⟩⟩,K⟩;have F:J ((m:Int)>((a+b)/2:Nat))=false:=udw (by omega);rw[F];obtain⟨H,K⟩:=s a m (by rw[ufx (by omega)]) (by rw[ufx (by omega)]);exact⟨⟨λd=>(by cases d),λ_=>⟨λd=>(by cases d),λ_=>⟨by omega,λd=>(by cases d),λ_=>H⟩⟩⟩,K⟩
def JB{T:Ty}{lt:T.q->T.q->Bool}{w:Nat}(c:0<w):(f b a:Nat)->(l:List T.q)->n<f+a->n<b+a->fx lt w n f a l=fx lt w n b a l
 |0,0,_,_,_,_=>rfl
 |0,b+1,a,l,h,_=>by simp only[fx];rw[ufx (by omega)]
 |f+1,0,a,l,_,h=>by simp only[fx];rw[ufx (by omega)]
 |f+1,b+1,a,l,h,d=>by simp only[fx];split;exact JB c f b _ _ (by omega) (by omega);rfl
def O3{T:Ty}{lt:T.q->T.q->Bool}:(f a w:Nat)->(l:List T.q)->0<w->n<=f+w->n<=a+w->gp lt n f w l=gp lt n a w l
 |0,0,_,_,_,_,_=>rfl
 |0,a+1,w,l,b,h,_=>by simp only[gp];rw[ufx (by omega)]
 |f+1,0,w,l,b,_,h=>by simp only[gp];rw[ufx (by omega)]
 |f+1,a+1,w,l,b,h,c=>by simp only[gp];split;exact O3 f a _ _ (by omega) (by omega) (by omega);rfl
abbrev big:Nat:=4611686018427387903
abbrev gv(e:TypeId)(T:Ty):Pt:=⟨63,0,⟨[(1,.d i64),(2,(aZ T)),(6,.d i64),(7,.d i64),(8,.d i64)],[.al 10000 0,.o 0 e T]⟩,⟨[(1,.d i64),(2,(aZ T)),(6,.d i64),(7,.d i64)],[.al 10000 0,.o 0 e T]⟩,⟨[],[]⟩⟩
def By(e:TypeId)(T:Ty)(x:(gv e T).M.X):Fr (gv e T).Out:=
 let n:=x.1.1;let g:=x.1.2.1;let c:=x.1.2.2.1;let a:=x.1.2.2.2.1;let b:=x.1.2.2.2.2.1;let l:=x.2.1
 Jb (J (b<=n))
  (Jd (0<=a)
   (Jd (a<=b)
    (Jd (b<=(l.length:Int))
     (Jd ((l.length:Int)<=4611686018427387903)
      (Jd (jD (g.1,g.2) l)
       (Jv (Rd.next ((n,(g.1,g.2),c,b,I6.wrap (b+c),()),(((ng e T).f l (a,b,(g.1,g.2),())).1,())))))))))
  (Jv (Rd.out ((n,(g.1,g.2),c,a,()),(l,()))))
structure InvBlk {T:Ty} (n bs a b:Int) (g:(aZ T).q) (l:List T.q):Prop where
 nl:n=l.length
 big:n<=4611686018427387903
 wG:bs=20
 a0:0<=a
 an:a<=n
 ab:b=a+20
 ord:jD g l
def mI{T:Ty}(n a:Int)(g:(aZ T).q)(l:List T.q):Nat×List T.q:=fx (aR g) 20 n.toNat (n.toNat+1) a.toNat l
def wh(e:TypeId)(T:Ty)(x:(gv e T).M.X):Fr (gv e T).Out:=
 let n:=x.1.1;let g:=x.1.2.1;let c:=x.1.2.2.1;let a:=x.1.2.2.2.1;let b:=x.1.2.2.2.2.1;let l:=x.2.1
 Jd (InvBlk n c a b g l) (Jv (Rd.out ((n,g,c,((mI n a g l).1:Nat),()),((mI n a g l).2,()))))
def Oz{T:Ty}{lt:T.q->T.q->Bool}{a:Nat}{l:List T.q}{x:T.q}(h:x∈bP lt a b l):x∈l:=by
 rcases udt.1 h with h|h
 exact ubq h;rcases udt.1 h with h|h
 exact ubq (ubr (zw.1 h));exact ubr h
def zbt {T:Ty} (n i a b:Int) (g:(aZ T).q) (l:List T.q) (d:InvBlk n i a b g l) (Q:(gv e T).Out->Prop)
  (h:Q (Rd.out ((n,g,i,((mI n a g l).1:Nat),()),((mI n a g l).2,())))):((By e T) ((n,g,i,a,b,()),(l,()))).s7 λ
   |.next c=>InvBlk c.1.1 c.1.2.2.1 c.1.2.2.2.1 c.1.2.2.2.2.1 c.1.2.1 c.2.1/\(c.1.1-c.1.2.2.2.1).toNat<(n-a).toNat/\((wh e T) c).s7 Q
   |.out y=>Q (.out y)
   |.back z=>Q (.back z)
   |.pan p=>Q (.pan p):=by
 obtain⟨t,u,v,A,E,B,o⟩:=d;subst v B;dsimp only[By,Fr.s7,Ty.q,PT.q];refine⟨λk=>?_,λk=>?_⟩
 ·have m:=ucx k;have w:I6.wrap (a+20+20)=a+20+20:=IntWalk.i64_in _ (by omega);rw[w];have f:(bP (aR g) a.toNat (a+20).toNat l).length=l.length:=uU (by omega) (by omega);have r:InvBlk n 20 (a+20) (a+20+20) g (bP (aR g) a.toNat (a+20).toNat l):=⟨by rw[f];exact t,u,rfl,by omega,m,rfl,o.sub λx D=>Oz D⟩;refine⟨A,by omega,by omega,by omega,o,r,by omega,r,?_⟩;have e:mI n a g l=mI n (a+20) g (bP (aR g) a.toNat (a+20).toNat l):=by
   unfold mI
   conv=>lhs;unfold fx
   rw[ufw (by omega),show a.toNat+20=(a+20).toNat by omega];exact JB (by omega) _ _ _ _ (by omega) (by omega)
  rw[e]at h;exact h
 have C:=uch k;have e:mI n a g l=(a.toNat,l):=by unfold mI fx;rw[ufx (by omega)]
 rw[e]at h;have s:((a.toNat:Nat):Int)=a:=by omega
 simp only[s]at h;exact h
def XH{T:Ty}{c:Code}(f:af P c (gv e T).M (gv e T) (By e T)):af P (.loop c) (gv e T).M (gv e T) (wh e T):=by refine af.loop f (μ:=λx=>(x.1.1-x.1.2.2.2.1).toNat) ?_ (λx Q h=>h.1);rintro⟨⟨n,g,i,a,b,_⟩,⟨l,_⟩⟩ d Q k;exact zbt n i a b g l d Q k.2
abbrev gz(e:TypeId)(T:Ty):Pt:=⟨63,4,⟨[(1,.d i64),(2,(aZ T)),(6,.d i64),(7,.d i64),(8,.d i64)],[.al 10000 0,.o 0 e T]⟩,⟨[(1,.d i64),(2,(aZ T)),(6,.d i64),(7,.d i64)],[.al 10000 0,.o 0 e T]⟩,⟨[],[]⟩⟩
def B5(e:TypeId)(T:Ty)(x:(gz e T).M.X):Fr (gz e T).Out:=
 let n:=x.1.1;let g:=x.1.2.1;let c:=x.1.2.2.1;let a:=x.1.2.2.2.1;let b:=x.1.2.2.2.2.1;let l:=x.2.1
 Jb (J (b<=n))
  (Jd (SymOk big a (I6.wrap (a+c)) b (g.1,g.2) l)
   (Jv (Rd.next ((n,(g.1,g.2),c,b,I6.wrap (b+I6.wrap (2*c)),()),((((kN e T) big).f l (a,I6.wrap (a+c),b,(g.1,g.2),())).1,())))))
  (Jv (Rd.out ((n,(g.1,g.2),c,a,()),(l,()))))
structure InvPas {T:Ty} (n bs a b:Int) (g:(aZ T).q) (l:List T.q):Prop where
 nl:n=l.length
 big:n<=4611686018427387903
 wG:0<bs
 bsn:bs<n
 a0:0<=a
 an:a<=n
 ab:b=a+2*bs
 mul:∃ c:Nat,a.toNat=c*(2*bs.toNat)
 dom:lI g l
 key:∃ key:T.q->Int,dY (aR g) key l/\∀ k:Nat,a.toNat<=k*bs.toNat->cA key (bz (k*bs.toNat) (k*bs.toNat+bs.toNat) l)
def jz{T:Ty}(n b a:Int)(g:(aZ T).q)(l:List T.q):Nat×List T.q:=fx (aR g) (2*b.toNat) n.toNat (n.toNat+1) a.toNat l
def wl(e:TypeId)(T:Ty)(x:(gz e T).M.X):Fr (gz e T).Out:=
 let n:=x.1.1;let g:=x.1.2.1;let c:=x.1.2.2.1;let a:=x.1.2.2.2.1;let b:=x.1.2.2.2.2.1;let l:=x.2.1
 Jd (InvPas n c a b g l) (Jv (Rd.out ((n,g,c,((jz n c a g l).1:Nat),()),((jz n c a g l).2,()))))
def zb5 {T:Ty} (n d a b:Int) (g:(aZ T).q) (l:List T.q) (r:InvPas n d a b g l) (Q:(gz e T).Out->Prop)
  (t:Q (Rd.out ((n,g,d,((jz n d a g l).1:Nat),()),((jz n d a g l).2,())))):((B5 e T) ((n,g,d,a,b,()),(l,()))).s7 λ
   |.next h=>InvPas h.1.1 h.1.2.2.1 h.1.2.2.2.1 h.1.2.2.2.2.1 h.1.2.1 h.2.1/\(h.1.1-h.1.2.2.2.1).toNat<(n-a).toNat/\((wl e T) h).s7 Q
   |.out y=>Q (.out y)
   |.back z=>Q (.back z)
   |.pan p=>Q (.pan p):=by
 obtain⟨G,H,K,L,M,h5,N,⟨c,u⟩,B,f,C,i⟩:=r;subst N;dsimp only[B5,Fr.s7,Ty.q,PT.q,kN];have R:I6.wrap (a+d)=a+d:=IntWalk.i64_in _ (by omega);have S:I6.wrap (2*d)=2*d:=IntWalk.i64_in _ (by omega);rw[R,S];refine⟨λv=>?_,λv=>?_⟩
 ·have w:=ucx v;have m:cA f (bz a.toNat (a+d).toNat l):=by
   have:=i (2*c) (by rw[u,<- ueo,uew c 2];exact ufb _)
   rwa [show 2*c*d.toNat=a.toNat by rw[u,<- ueo,uew c 2],show a.toNat+d.toNat=(a+d).toNat by omega]at this
  have o:cA f (bz (a+d).toNat (a+2*d).toNat l):=by
   have e:(2*c+1)*d.toNat=(a+d).toNat:=by rw[uex,show 2*c*d.toNat=a.toNat by rw[u,<- ueo,uew c 2]];omega
   have:=i (2*c+1) (by omega)
   rwa [e,show(a+d).toNat+d.toNat=(a+2*d).toNat by omega]at this
  have s:(bP (aR g) a.toNat (a+2*d).toNat l).length=l.length:=uU (by omega) (by omega);by_cases E:a+2*d+2*d<=9223372036854775807
  ·have W:I6.wrap (a+2*d+2*d)=a+2*d+2*d:=IntWalk.i64_in _ (by omega);rw[W];have D:InvPas n d (a+2*d) (a+2*d+2*d) g (bP (aR g) a.toNat (a+2*d).toNat l):=⟨by rw[s];exact G,H,K,L,by omega,w,rfl,⟨c+1,by rw[uex,<- u];omega⟩,B.sub λx A=>Oz A,f,C.sub λx A=>Oz A,λk P=>by rw[HD (TY (by omega) (by omega) (ufb _)) P];exact i k (by omega)⟩
   refine⟨⟨M,by omega,by omega,by omega,by omega,by simp;omega,B,f,C,m,o⟩,D,by omega,D,?_⟩;have e:jz n d a g l=jz n d (a+2*d) g (bP (aR g) a.toNat (a+2*d).toNat l):=by
    unfold jz
    conv=>lhs;unfold fx
    rw[ufw (by omega),show a.toNat+2*d.toNat=(a+2*d).toNat by omega];exact JB (by omega) _ _ _ _ (by omega) (by omega)
   rw[e]at t;exact t
  exfalso;omega
 have O:=uch v;have e:jz n d a g l=(a.toNat,l):=by unfold jz fx;rw[ufx (by omega)]
 rw[e]at t;have F:((a.toNat:Nat):Int)=a:=by omega
 simp only[F]at t;exact t
def XK{T:Ty}{c:Code}(f:af P c (gz e T).M (gz e T) (B5 e T)):af P (.loop c) (gz e T).M (gz e T) (wl e T):=by refine af.loop f (μ:=λx=>(x.1.1-x.1.2.2.2.1).toNat) ?_ (λx Q h=>h.1);rintro⟨⟨n,g,i,a,b,_⟩,⟨l,_⟩⟩ d Q k;exact zb5 n i a b g l d Q k.2
abbrev gu(e:TypeId)(T:Ty):Pt:=⟨63,2,⟨[(1,.d i64),(2,(aZ T)),(6,.d i64)],[.al 10000 0,.o 0 e T]⟩,⟨[],[.al 10000 0,.o 0 e T]⟩,⟨[],[]⟩⟩
def Bw(e:TypeId)(T:Ty)(x:(gu e T).M.X):Fr (gu e T).Out:=
 let n:=x.1.1;let g:=x.1.2.1;let a:=x.1.2.2.1;let l:=x.2.1
 let r:=jz n a 0 (g.1,g.2) l
 Jb (J (a<n))
  (Jd (InvPas n a 0 (I6.wrap (2*a)) (g.1,g.2) l)
   (Jb (J (I6.wrap ((r.1:Int)+a)<n))
    (Jd (SymOk big r.1 (I6.wrap ((r.1:Int)+a)) n (g.1,g.2) r.2)
     (Jv (Rd.next ((n,(g.1,g.2),I6.wrap (a*2),()),((((kN e T) big).f r.2 ((r.1:Int),I6.wrap ((r.1:Int)+a),n,(g.1,g.2),())).1,())))))
    (Jv (Rd.next ((n,(g.1,g.2),I6.wrap (a*2),()),(r.2,()))))))
  (Jv (Rd.out ((),(l,()))))
structure InvAll {T:Ty} (n bs:Int) (g:(aZ T).q) (l:List T.q):Prop where
 nl:n=l.length
 big:n<=4611686018427387903
 wG:0<bs
 dom:lI g l
 key:∃ key:T.q->Int,dY (aR g) key l/\Aa key bs.toNat l
def wg(e:TypeId)(T:Ty)(x:(gu e T).M.X):Fr (gu e T).Out:=
 let n:=x.1.1;let g:=x.1.2.1;let a:=x.1.2.2.1;let l:=x.2.1
 Jd (InvAll n a g l) (Jv (Rd.out ((),(gp (aR g) n.toNat n.toNat a.toNat l,()))))
def zbr {T:Ty} (n bs:Int) (g:(aZ T).q) (l:List T.q) (hinv:InvAll n bs g l) (Q:(gu e T).Out->Prop)
  (hq:Q (Rd.out ((),(gp (aR g) n.toNat n.toNat bs.toNat l,())))):((Bw e T) ((n,g,bs,()),(l,()))).s7 λ
   |.next x'=>InvAll x'.1.1 x'.1.2.2.1 x'.1.2.1 x'.2.1/\(x'.1.1-x'.1.2.2.1).toNat<(n-bs).toNat/\((wg e T) x').s7 Q
   |.out y=>Q (.out y)
   |.back z=>Q (.back z)
   |.pan p=>Q (.pan p):=by
 obtain⟨h0,h1,h2,h3,key,h4,h5⟩:=hinv;dsimp only[Bw,Ty.q,PT.q,kN];refine⟨λhi=>?_,λhi=>?_⟩
 ·have hlt:=ucx hi;have w1:I6.wrap (2*bs)=2*bs:=IntWalk.i64_in _ (by omega);have w2:I6.wrap (bs*2)=bs*2:=IntWalk.i64_in _ (by omega);have hr:=Av (w:=2*bs.toNat) (n:=n.toNat) (by omega) (n.toNat+1) 0 l (by omega) (by omega) (by omega) ⟨0,by simp⟩ h4 (λk hk=>by omega);obtain⟨p1,p2,p3⟩:=Zr (n:=n.toNat) (by omega) (by omega) h4 h5;have hpas:nk (aR g) bs.toNat n.toNat l=if (jz n bs 0 g l).1+bs.toNat<n.toNat then bP (aR g) (jz n bs 0 g l).1 n.toNat (jz n bs 0 g l).2 else (jz n bs 0 g l).2:=rfl
  have hstep:gp (aR g) n.toNat n.toNat bs.toNat l=gp (aR g) n.toNat n.toNat (bs*2).toNat (nk (aR g) bs.toNat n.toNat l):=by
   obtain⟨f,hf⟩:∃ f,n.toNat=f+1:=⟨n.toNat-1,by omega⟩
   conv=>lhs;rw[show gp (aR g) n.toNat n.toNat bs.toNat l=gp (aR g) n.toNat (f+1) bs.toNat l by rw[<- hf]]
   simp only[gp];rw[ufw (by omega),show(bs*2).toNat=2*bs.toNat by omega];exact O3 _ _ _ _ (by omega) (by omega) (by omega)
  have hI:InvAll n (bs*2) g (nk (aR g) bs.toNat n.toNat l):=⟨by omega,h1,by omega,h3.sub λx hx=>p2.mem.1 hx,key,h4.sub λx hx=>p2.mem.1 hx,by rw[show(bs*2).toNat=2*bs.toNat by omega];exact p1⟩;have hfin:InvAll n (bs*2) g (nk (aR g) bs.toNat n.toNat l)/\(n-bs*2).toNat<(n-bs).toNat/\InvAll n (bs*2) g (nk (aR g) bs.toNat n.toNat l)/\Q (Rd.out ((),(gp (aR g) n.toNat n.toNat (bs*2).toNat (nk (aR g) bs.toNat n.toNat l),()))):=⟨hI,by omega,hI,by rw[<- hstep];exact hq⟩;rw[w1,w2];have hb:(fx (aR g) (2*bs.toNat) n.toNat (n.toNat+1) 0 l)=jz n bs 0 g l:=rfl;rw[hb]at hr;refine⟨⟨h0,h1,h2,hlt,ufc _,by omega,by omega,⟨0,by simp⟩,h3,key,h4,λk _=>h5 k⟩,?_⟩;have e:(g.1,g.2)=g:=rfl;generalize jz n bs 0 g l=r at hr hpas |-;obtain⟨⟨c,hc⟩,q2,q3,q4,q5,q6,q7⟩:=hr;have w3:I6.wrap ((r.1:Int)+bs)=r.1+bs:=IntWalk.i64_in _ (by omega);rw[w3];refine⟨λhj=>?_,λhj=>?_⟩;have hj':=ucx hj;rw[ufw (by omega)]at hpas;have hd:=q6;have hm1:2*c*bs.toNat=r.1:=by rw[hc,<- ueo,uew c 2]
  have hm2:(2*c+1)*bs.toNat=r.1+bs.toNat:=by rw[uex,hm1]
  have s1:cA key (bz r.1 (r.1+bs.toNat) r.2):=by
   rw[HD hd (ufb _),<- hm1];exact h5 (2*c)
  have s2:cA key (bz (r.1+bs.toNat) n.toNat r.2):=by
   have:bz (r.1+bs.toNat) n.toNat r.2=bz (r.1+bs.toNat) (r.1+bs.toNat+bs.toNat) r.2:=by
    unfold bz;rw[ua3 (by omega),ua3 (by omega)]
   rw[this,HD hd (by omega),<- hm2];exact h5 (2*c+1)
  refine⟨⟨by omega,by omega,by omega,by omega,by omega,by simp;omega,h3.sub λx hx=>q5.mem.1 hx,key,h4.sub λx hx=>q5.mem.1 hx,?_,?_⟩,?_⟩;rw[show((r.1:Int)+bs).toNat=r.1+bs.toNat by omega];exact s1;rw[show((r.1:Int)+bs).toNat=r.1+bs.toNat by omega];exact s2;rw[hpas]at hfin;exact hfin;have hj':=uch hj;rw[ufx (by omega)]at hpas;rw[hpas]at hfin;exact hfin
 have hge:=uch hi;have:gp (aR g) n.toNat n.toNat bs.toNat l=l:=by
  rw[O3 _ 0 _ _ (by omega) (by omega) (by omega)];rfl
 rw[this]at hq;exact hq
def XG{T:Ty}{c:Code}(b:af P c (gu e T).M (gu e T) (Bw e T)):af P (.loop c) (gu e T).M (gu e T) (wg e T):=by refine af.loop b (μ:=λx=>(x.1.1-x.1.2.2.1).toNat) ?_ (λx Q h=>h.1);rintro⟨⟨n,g,d,_⟩,⟨l,_⟩⟩ a Q f;exact zbr n d g l a Q f.2
def qc(e:TypeId)(T:Ty):Mt:=⟨e,T,[.d i64,(aZ T)],[],λl x=>(dp (aR x.2.1) l,()),λl x=>[x.1=l.length,(l.length:Int)<=4611686018427387903,jD x.2.1 l]⟩
def BD(e:TypeId)(T:Ty)(l:List T.q)(x:ap [.d i64,(aZ T)]):Fr (List T.q×aa []):=
 let n:=x.1;let g:=x.2.1
 let r:=mI n 0 (g.1,g.2) l
 Jd (InvBlk n 20 0 20 (g.1,g.2) l)
 (Jd ((0:Int)<=r.1)
  (Jd ((r.1:Int)<=n)
   (Jd (n<=(r.2.length:Int))
    (Jd ((r.2.length:Int)<=4611686018427387903)
     (Jd (jD (g.1,g.2) r.2)
      (Jd (InvAll n 20 (g.1,g.2) ((ng e T).f r.2 ((r.1:Int),n,(g.1,g.2),())).1)
       (Jv (gp (aR (g.1,g.2)) n.toNat n.toNat (20:Int).toNat ((ng e T).f r.2 ((r.1:Int),n,(g.1,g.2),())).1,()))))))))
def qbr{T:Ty}(l:List T.q)(c:ap (qc e T).ps)(v:l.length<=maxLen)(s:az ((qc e T).ok l c)):az [((BD e T) l c).ok]/\((BD e T) l c).get=(qc e T).f l c:=by obtain⟨n,g,rfl⟩:∃ (n:Int) (g:(aZ T).q),c=(n,g,()):=⟨c.1,c.2.1,rfl⟩;have i:(n:Int)=(List.length (α:=T.q) l:Int)/\(List.length (α:=T.q) l:Int)<=4611686018427387903/\jD g l:=s;obtain⟨z,u,p,b,d⟩:=i;subst z;have m:=Av (key:=b) (lt:=aR g) (w:=20) (n:=List.length (α:=T.q) l) (by omega) (List.length (α:=T.q) l+1) 0 l (by omega) (by omega) rfl ⟨0,by simp⟩ d (λk E=>by omega);have o:=zoo d;unfold P0 at o;have A:mI (List.length (α:=T.q) l:Int) 0 g l=fx (aR g) 20 (List.length (α:=T.q) l) (List.length (α:=T.q) l+1) 0 l:=rfl;dsimp only[BD,Fr.ok,Fr.get,Ty.q,PT.q,ng,qc];have e:(g.1,g.2)=g:=rfl;simp only[e,A];simp only at o;generalize fx (aR g) 20 (List.length (α:=T.q) l) (List.length (α:=T.q) l+1) 0 l=r at m o |-;obtain⟨B,C,D⟩:=m.last d;have F:=m.le;have G:=m.len;have y:∀ x∈r.2,x∈l:=λx t=>m.same.mem.1 t;have h:∀ x∈bP (aR g) r.1 (List.length (α:=T.q) l) r.2,x∈l:=λx t=>C.mem.1 t;refine⟨⟨⟨rfl,u,rfl,by omega,by omega,rfl,p,b,d⟩,by omega,by omega,by omega,by omega,⟨p.sub y,b,d.sub y⟩,⟨ufu (λn:Nat=>(n:Int)) D.symm,u,by omega,p.sub h,b,d.sub h,B⟩,uT⟩,?_⟩;show(gp (aR g) (List.length (α:=T.q) l) (List.length (α:=T.q) l) 20 (bP (aR g) r.1 (List.length (α:=T.q) l) r.2),())=(dp (aR g) l,());rw[o]
def rO(e:TypeId)(T:Ty):Mt:=⟨e,T,[(aZ T)],[],λl x=>(dp (aR x.1) l,()),λl x=>[(l.length:Int)<=4611686018427387903,jD x.1 l]⟩
def FZ(e:TypeId)(T:Ty)(l:List T.q)(x:ap [(aZ T)]):Fr (List T.q×aa []):=
 let b:=(x.1.1,x.1.2);let a:=(l.length:Int);Jd (a=l.length) (Jd (a<=4611686018427387903) (Jd (jD b l) (Jv (((qc e T).f l (a,b,())).1,()))))
def qbk{T:Ty}(l:List T.q)(a:ap (rO e T).ps)(c:l.length<=maxLen)(b:az ((rO e T).ok l a)):az [((FZ e T) l a).ok]/\((FZ e T) l a).get=(rO e T).f l a:=by obtain⟨g,rfl⟩:∃ g:(aZ T).q,a=(g,()):=⟨a.1,rfl⟩;exact⟨⟨rfl,b.1,b.2,uT⟩,rfl⟩
abbrev qox:PT:=aZ i64
abbrev NH:Mt:=rO 3 i64
def Ns:Code:=((Go.Ab.loopB (au f248 0) 0).getD .skip)
def zm5:af prog Ns (gw 3 i64).M (gw 3 i64) (B0 3 i64):=
 ep aL
def zc8:af prog (.loop Ns) (gw 3 i64).M (gw 3 i64) (wj 3 i64):=XI zm5
def qef:Nat->St->Option Tr:=λ_=>(gw 3 i64).han eN.Γ (gw 3 i64).M (wj 3 i64)
def zbg{E:Env}:co prog E qef (au f248 0) 0:=
 nc (b:=Ns) (by kernel_rfl) (by kernel_rfl) (af.han aL rfl zc8)
def zm7:af prog (au f248 0) (gy 3 i64).M (gy 3 i64) (B3 3 i64):=
 af.of_run aL (bs:=0) (Λ:=qef) rfl rfl rfl (λE=>zbg) (λx=>by kernel_rfl)
def zda:af prog (.loop (au f248 0)) (gy 3 i64).M (gy 3 i64) (wk 3 i64):=XJ zm7
def zsf:Nat->St->Option Tr:=λ_=>(gy 3 i64).han eN.Γ (gy 3 i64).M (wk 3 i64)
def zaj:SoundMt prog 248 (ng 3 i64):=
 jK (jU aL (Λ:=zsf) (fn:=f248) (fr:=(B4 3 i64)) (e:=3) (T:=i64) (ps:=[.d i64,.d i64,(aZ i64)]) (rs:=[]) (0,0,(λ_=>(0,()),λ_=>True),()) (by kernel_rfl) rfl rfl
  (λc E g=>fH g (by kernel_rfl) (b:=au f248 0) (by kernel_rfl) (af.han aL rfl zda)) (λl x=>by kernel_rfl)) _ _ λ_ _ l h _ _ a _ f=>WV l h a f
def znr:af prog (au f261 0) (gF 3 i64).M (gF 3 i64) (BE 3 i64):=
 ep aL
def zdw:af prog (.loop (au f261 0)) (gF 3 i64).M (gF 3 i64) (wu 3 i64):=XR znr
def zsm:Nat->St->Option Tr:=λ_=>(gF 3 i64).han eN.Γ (gF 3 i64).M (wu 3 i64)
def zpm:SoundMt prog 261 (mh 3 i64):=
 jK (jU aL (Λ:=zsm) (fn:=f261) (fr:=(Ga 3 i64)) (e:=3) (T:=i64) (ps:=[.d i64,.d i64,.d i64,(aZ i64)]) (rs:=[]) (0,0,0,(λ_=>(0,()),λ_=>True),()) (by kernel_rfl) rfl rfl
  (λc E g=>fH g (by kernel_rfl) (b:=au f261 0) (by kernel_rfl) (af.han aL rfl zdw)) (λl x=>by kernel_rfl)) _ _ λ_ _ l h _ _ a _ f=>qcb l h a f
def Qv:Cx:=dI [] [] (i6 (cx [] []).Γ 261 (mh 3 i64))
def IK:CxOK prog Qv:=dP aH trivial trivial (jg aL.ct zpm)
def zne:af prog (au f257 0) (g7 3 i64).M (g7 3 i64) (B6 3 i64):=
 ep IK
def zdj:af prog (.loop (au f257 0)) (g7 3 i64).M (g7 3 i64) (wm 3 i64):=XL zne
def zsi:Nat->St->Option Tr:=λ_=>(g7 3 i64).han Qv.Γ (g7 3 i64).M (wm 3 i64)
def zls:SoundMt prog 257 (rN 3 i64):=
 jK (jU IK (Λ:=zsi) (fn:=f257) (fr:=(B7 3 i64)) (e:=3) (T:=i64) (ps:=[.d i64,.d i64,.d i64,(aZ i64)]) (rs:=[]) (0,0,0,(λ_=>(0,()),λ_=>True),()) (by kernel_rfl) rfl rfl
  (λc E g=>fH g (by kernel_rfl) (b:=au f257 0) (by kernel_rfl) (af.han IK rfl zdj)) (λl x=>by kernel_rfl)) _ _ λ_ _ l h _ _ a _ f=>qae l h a f
def zng:af prog (au f249 0) (g8 3 i64).M (g8 3 i64) (B8 3 i64):=
 ep aL
def zdl:af prog (.loop (au f249 0)) (g8 3 i64).M (g8 3 i64) (wn 3 i64):=XM zng
def znk:af prog (au f249 2) (gC 3 i64).M (gC 3 i64) (BA 3 i64):=
 ep aL
def zdp:af prog (.loop (au f249 2)) (gC 3 i64).M (gC 3 i64) (wq 3 i64):=XO znk
def zno:af prog (au f249 4) (gE 3 i64).M (gE 3 i64) (BC 3 i64):=
 ep aL
def zdt:af prog (.loop (au f249 4)) (gE 3 i64).M (gE 3 i64) (wt 3 i64):=XQ zno
def zni:af prog (au f249 1) (g9 3 i64).M (g9 3 i64) (B9 3 i64):=
 ep aL
def zdn:af prog (.loop (au f249 1)) (g9 3 i64).M (g9 3 i64) (wo 3 i64):=XN zni
def znm:af prog (au f249 3) (gD 3 i64).M (gD 3 i64) (BB 3 i64):=
 ep aL
def zdr:af prog (.loop (au f249 3)) (gD 3 i64).M (gD 3 i64) (ws 3 i64):=XP znm
def Qy(n:Nat):Cx:=dI [] [] (kR (i6 (cx [] []).Γ 257 (rN 3 i64)) (i6 (cx [] []).Γ 249 ((kN 3 i64) n)))
def qe9(h:SoundMt prog 249 ((kN 3 i64) n)):CxOK prog (Qy n):=dP aH trivial trivial (mj (jg aL.ct zls) (jg aL.ct h))
def Qk:Nat->St->Option Tr
 |0=>(g8 3 i64).han eN.Γ (g8 3 i64).M (wn 3 i64)
 |1=>(g9 3 i64).han eN.Γ (g9 3 i64).M (wo 3 i64)
 |2=>(gC 3 i64).han eN.Γ (gC 3 i64).M (wq 3 i64)
 |3=>(gD 3 i64).han eN.Γ (gD 3 i64).M (ws 3 i64)
 |_=>(gE 3 i64).han eN.Γ (gE 3 i64).M (wt 3 i64)
def zbk{E:Env}{c:Code}(n:f249.body=U c):co prog E Qk c 0:=by
 have f:(f249.body.map cD)=U 5:=by kernel_rfl
 have g:f249.body.bind (Go.Ab.loopB · 0)=U (au f249 0):=by kernel_rfl
 have h:f249.body.bind (Go.Ab.loopB · 1)=U (au f249 1):=by kernel_rfl
 have k:f249.body.bind (Go.Ab.loopB · 2)=U (au f249 2):=by kernel_rfl
 have l:f249.body.bind (Go.Ab.loopB · 3)=U (au f249 3):=by kernel_rfl
 have m:f249.body.bind (Go.Ab.loopB · 4)=U (au f249 4):=by kernel_rfl
 have d:∀ i,i<5->f249.body.bind (Go.Ab.loopB · i)=U (au f249 i):=λi o=>match i,o with
  |0,_=>g
  |1,_=>h
  |2,_=>k
  |3,_=>l
  |4,_=>m
 rw[n]at f d;simp only[Option.map_some,ucl]at f;simp only[uda]at d;refine mf c 0 λi p a=>?_;have b:=loopB_lt a;rw[f]at b;have e:=d i b;rw[e]at a;cases a
 match i,b with
 |0,_=>exact af.han aL rfl zdl
 |1,_=>exact af.han aL rfl zdn
 |2,_=>exact af.han aL rfl zdp
 |3,_=>exact af.han aL rfl zdr
 |4,_=>exact af.han aL rfl zdt
def zl4(n:Nat)(l:List (i64).q)(x:ap [.d i64,.d i64,.d i64,(aZ i64)]):CT prog (Qy n) Qk f249 3 i64 [.d i64,.d i64,.d i64,(aZ i64)] [] l x=U ((ue 3 i64) n l x):=by kernel_rfl
def qcg:(n:Nat)->SoundMt prog 249 ((kN 3 i64) n)
 |0=>by
  have hf:prog.funcs[249]?= some f249:=by kernel_rfl
  obtain⟨c,hb⟩:∃ c,f249.body=some c:=⟨_,rfl⟩;refine⟨by decide,rfl,rfl,enters hf hb (by kernel_rfl),λw F l xs v vs rows _ _ _ _ _ _ _ hok=>?_⟩;have h:SymOk 0 xs.1 xs.2.1 xs.2.2.1 xs.2.2.2.1 l:=hok;have h1:=h.am;have h2:=h.mb;have h3:=h.size;omega
 |n+1=>by
  refine jK (jU (qe9 (qcg n)) (Λ:=Qk) (fn:=f249) (fr:=(ue 3 i64) n) (e:=3) (T:=i64) (ps:=[.d i64,.d i64,.d i64,(aZ i64)]) (rs:=[]) (0,0,0,(λ_=>(0,()),λ_=>True),()) (by kernel_rfl) rfl rfl
   (λc E hc=>zbk hc) (zl4 n)) _ _ λw F l xs vs _ _ _ hok=>?_
  obtain⟨a,m,b,g,rfl⟩:∃ (a m b:Int) (g:(aZ i64).q),xs=(a,m,b,g,()):=⟨xs.1,xs.2.1,xs.2.2.1,xs.2.2.2.1,rfl⟩;have h:SymOk (n+1) a m b g l:=hok;have h0:=h.a0;have h1:=h.am;have h2:=h.mb;obtain⟨a',rfl⟩:∃ n:Nat,a=n:=⟨a.toNat,by omega⟩;obtain⟨m',rfl⟩:∃ n:Nat,m=n:=⟨m.toNat,by omega⟩;obtain⟨b',rfl⟩:∃ n:Nat,b=n:=⟨b.toNat,by omega⟩;exact qci n a' m' b' g l h
def DJ:Cx:=dI [] [] (kR (i6 (cx [] []).Γ 248 (ng 3 i64)) (i6 (cx [] []).Γ 249 ((kN 3 i64) big)))
def sW:CxOK prog DJ:=dP aH trivial trivial (mj (jg aL.ct zaj) (jg aL.ct (qcg big)))
def zm0:af prog (au f232 0) (gv 3 i64).M (gv 3 i64) (By 3 i64):=
 ep sW
def zc1:af prog (.loop (au f232 0)) (gv 3 i64).M (gv 3 i64) (wh 3 i64):=XH zm0
def O1:Code:=((Go.Ab.loopB (au f232 1) 0).getD .skip)
def znc:af prog O1 (gz 3 i64).M (gz 3 i64) (B5 3 i64):=
 ep sW
def zdf:af prog (.loop O1) (gz 3 i64).M (gz 3 i64) (wl 3 i64):=XK znc
def qeh:Nat->St->Option Tr:=λ_=>(gz 3 i64).han DJ.Γ (gz 3 i64).M (wl 3 i64)
def zbi{E:Env}:co prog E qeh (au f232 1) 0:=
 nc (b:=O1) (by kernel_rfl) (by kernel_rfl) (af.han sW rfl zdf)
def zmy:af prog (au f232 1) (gu 3 i64).M (gu 3 i64) (Bw 3 i64):=
 af.of_run sW (bs:=0) (Λ:=qeh) rfl rfl rfl (λE=>zbi) (λx=>by kernel_rfl)
def zcz:af prog (.loop (au f232 1)) (gu 3 i64).M (gu 3 i64) (wg 3 i64):=XG zmy
def zsk:Nat->St->Option Tr
 |0=>(gv 3 i64).han DJ.Γ (gv 3 i64).M (wh 3 i64)
 |_=>(gu 3 i64).han DJ.Γ (gu 3 i64).M (wg 3 i64)
def zon:SoundMt prog 232 (qc 3 i64):=
 jK (jU sW (Λ:=zsk) (fn:=f232) (fr:=(BD 3 i64)) (e:=3) (T:=i64) (ps:=[.d i64,(aZ i64)]) (rs:=[]) (0,(λ_=>(0,()),λ_=>True),()) (by kernel_rfl) rfl rfl
  (λc E f=>GA f (by kernel_rfl) (b0:=au f232 0) (b1:=au f232 1) (by kernel_rfl) (by kernel_rfl) (af.han sW rfl zc1) (af.han sW rfl zcz)) (λl x=>by kernel_rfl)) _ _ λ_ _ l g _ _ a _ b=>qbr l g a b
def CI4:Cx:=dI [] [] (i6 (cx [] []).Γ 232 (qc 3 i64))
def qfd:CxOK prog CI4:=dP aH trivial trivial (jg aL.ct zon)
def zoa:SoundMt prog 201 (rO 3 i64):=
 jK (jU qfd (Λ:=bK) (fn:=f201) (fr:=(FZ 3 i64)) (e:=3) (T:=i64) (ps:=[(aZ i64)]) (rs:=[]) ((λ_=>(0,()),λ_=>True),()) (by kernel_rfl) rfl rfl
  (λc E _=>bm c 0) (λl x=>by kernel_rfl)) _ _ λ_ _ l d _ _ a _ b=>qbk l d a b
def CH2:Cx:=cx [(225,A6),(224,la)] []
def Qr:CxOK prog CH2:=aQ aH ⟨X8,NW,uT⟩ trivial
def gJ:List Int->Bool
 |a::b::r=>J (a<=b)&&gJ (b::r)
 |_=>Z
def qbo:(l:List Int)->(a b:Int)->gJ (l++[a,b])=(gJ (l++[a])&&J (a<=b))
 |[],a,b=>by simp[gJ]
 |[x],a,b=>by simp[gJ]
 |x::y::l,a,b=>by have:=qbo (y::l) a b;simp only[uc4,gJ]at this |-;rw[this,ued]
abbrev oK:Pt:=⟨21,0,⟨[(0,.d aP),(3,.d i64)],[]⟩,⟨[],[]⟩,⟨[(2,.d .bool)],[]⟩⟩
def MK(x:oK.M.X):Fr oK.Out:=
 let a:=x.1.2.1;Jb (J (a>0))
  (Jd (0<=a/\a<x.1.1.length)
   (Jd (0<=I6.wrap (a-1)/\I6.wrap (a-1)<x.1.1.length)
    (Jb (A6.f (x.1.1.getD a.toNat i64.j,x.1.1.getD (I6.wrap (a-1)).toNat i64.j,())).1
     (Jv (Rd.back ((Y,()),())))
     (Jv (Rd.next ((x.1.1,I6.wrap (a-1),()),()))))))
  (Jv (Rd.out ((),())))
def znq:af prog (au f173 0) oK.M oK MK:=
 ep Qr
def wy(l:List Int)(i:Int):Prop:=-1<=i/\i<l.length/\(l.length:Int)<=9223372036854775807
def Rl(x:oK.M.X):Fr oK.Out:=
 Jd (wy x.1.1 x.1.2.1) (Jb (gJ (x.1.1.take (x.1.2.1+1).toNat)) (Jv (Rd.out ((),()))) (Jv (Rd.back ((Y,()),()))))
def zoj(l:List Int)(k:Nat)(h:k+1<l.length):gJ (l.take (k+2))=(gJ (l.take (k+1))&&J (l[k]<=l[k+1])):=by
 have a:=(uat (show k<l.length by omega)).symm;have b:l.take (k+2)=l.take k++[l[k],l[k+1]]:=by have c:=(uat h).symm;rw[c,a,ucr];rfl
 rw[b,a,qbo]
def zce (l:List Int) (i:Int) (c:wy l i) (Q:oK.Out->Prop)
  (b:(Jb (gJ (l.take (i+1).toNat)) (Jv (Rd.out ((),()))) (Jv (Rd.back ((Y,()),()))):Fr oK.Out).s7 Q) :
  (MK ((l,i,()),())).s7 λ
   |.next d=>wy d.1.1 d.1.2.1/\d.1.2.1.toNat<i.toNat/\(Rl d).s7 Q
   |.out y=>Q (.out y)
   |.back z=>Q (.back z)
   |.pan p=>Q (.pan p):=by
 obtain⟨x,t,u⟩:=c;refine⟨λf=>?_,λf=>?_⟩;have g:i>0:=ucx f;obtain⟨k,v⟩:∃ k:Nat,i=k+1:=⟨(i-1).toNat,by omega⟩;subst v;have w:I6.wrap ((k:Int)+1-1)=k:=by rw[show(k:Int)+1-1=k by omega];exact IntWalk.i64_in _ (by omega)
 have n:k+1<l.length:=by omega
 have r:l.getD ((k:Int)+1).toNat i64.j=l[k+1]:=by rw[show((k:Int)+1).toNat=k+1 by omega,uah,uaq n];rfl
 have s:l.getD (k:Int).toNat i64.j=l[k]:=by rw[show(k:Int).toNat=k by omega,uah,uaq (show k<l.length by omega)];rfl
 have o:((k:Int)+1+1).toNat=k+2:=by omega
 rw[o,zoj l k n]at b;dsimp only[MK,Fr.s7];rw[w,r,s];have m:wy l k:=⟨by omega,by omega,u⟩;refine⟨⟨(show(0:Int)<=(k:Int)+1 by omega),t⟩,⟨(show(0:Int)<=(k:Int) by omega),(show(k:Int)<(l.length:Int) by omega)⟩,λe=>?_,λe=>?_⟩;have a:¬ l[k]<=l[k+1]:=by have:=ucx e;exact ufl.2 this
 rw[udw a,uee]at b;exact b.2 rfl;have a:l[k]<=l[k+1]:=by have:=uch e;exact ufm.1 this
 rw[ueb a,uen]at b;exact⟨m,by omega,m,by rw[show((k:Int)+1).toNat=k+1 by omega];exact b⟩;have g:¬ i>0:=uch f;have:gJ (l.take (i+1).toNat)=true:=by
  rcases ueq (i+1).toNat 1 with h|h
  rw[show(i+1).toNat=0 by omega];rfl;rw[show(i+1).toNat=1 by omega];cases l<;>rfl
 rw[this]at b;exact b.1 rfl
def zdv:af prog (.loop (au f173 0)) oK.M oK Rl:=by refine af.loop znq (μ:=λx=>x.1.2.1.toNat) ?_ (λx Q h=>h.1);rintro⟨⟨l,i,_⟩,_⟩ a Q b;exact zce l i a Q b.2
def Kr:Ct:=⟨[.d aP],[.bool],λx=>(gJ x.1,()),λ_=>[]⟩
def qxy(x:ap [.d aP]):Fr (aa [.bool]):=
 Jd (wy x.1 (I6.wrap (x.1.length-1))) (Jb (gJ (x.1.take (I6.wrap (x.1.length-1)+1).toNat)) (Jv (Z,())) (Jv (Y,())))
def zoc:ag prog 173 Kr:=
 conv (cZ Qr zdv (fr:=qxy)) _ _ λw F h i c _=>by obtain⟨l,_⟩:=h;obtain⟨v,g,rfl,e,_⟩:=c;have b:=aG.wf e.2.2;have a:=b.1;have f:I6.wrap ((l.length:Int)-1)=l.length-1:=IntWalk.i64_in _ (by simp only[maxLen]at a;omega);have d:l.take ((l.length:Int)-1+1).toNat=l:=ua3 (by omega);refine⟨⟨?_,λ_=>uT,λ_=>uT⟩,?_⟩;show wy l (I6.wrap ((l.length:Int)-1));simp only[maxLen]at a;exact⟨by omega,by omega,by omega⟩;show(if gJ (l.take (I6.wrap ((l.length:Int)-1)+1).toNat)=Z then (Z,())else (Y,()))=(gJ l,());rw[f,d];cases gJ l<;>rfl
def CH3:Cx:=cx [(173,Kr),(224,la)] []
def Qs:CxOK prog CH3:=aQ aH ⟨zoc,NW,uT⟩ trivial
def Vx(x:ap [.d ar]):Fr (aa [.bool]):=
 let b:=(Y,());let a:=x.1.2;Jb (bif J (x.1.1>=0)then J (x.1.1<8)else Y) (Jb (bif J (a.2.2.2.1>=1)then J (a.2.2.2.1<=10000)else Y) (Jb (Kr.f ([0,a.2.2.1,I6.wrap (a.1-1),I6.wrap (a.2.1-1),999999999999999],())).1 (Jv (J (a.2.2.1<a.1),())) (Jv b)) (Jv b)) (Jv b)
def qxj:ag prog 101 (bg [.d ar] [.bool] Vx):=
 aT Qs f101
def Vw(x:ap [.d i64,.d i64]):Fr (aa [i64]):=
 let a:=la.f (x.2.1,());Jb (la.f (x.1,())).1 (Jb a.1 (Jv (0,())) (Jv (-1,()))) (Jb a.1 (Jv (1,())) (Jb (J (x.1<x.2.1)) (Jv (-1,())) (Jb (J (x.1>x.2.1)) (Jv (1,())) (Jv (0,())))))
def qxi:ag prog 166 (bg [.d i64,.d i64] [i64] Vw):=
 aT Qs f166
def Vz(x:ap [.d cK,.d i64]):Fr (aa [.bool]):=
 Jv (bif J (x.2.1>=(wM.f ((x.1.1,x.1.2.1,()),())).1.1)then J (x.2.1<(wM.f ((x.1.1,x.1.2.1,()),())).1.2.1)else Y,())
def qxp:ag prog 96 (bg [.d cK,.d i64] [.bool] Vz):=
 aT Qq f96
def V1(x:ap [.d cK]):Fr (aa [i64]):=
 Jv (I6.wrap ((wM.f ((x.1.1,x.1.2.1,()),())).1.2.1-(wM.f ((x.1.1,x.1.2.1,()),())).1.1),())
def qxs:ag prog 83 (bg [.d cK] [i64] V1):=
 aT Qq f83
def W6{n:Int}(h:Wf i64 n): -9223372036854775808<=n/\n<=9223372036854775807:=h
def qd4{n:Int}(h : -9223372036854775808<=n/\n<=9223372036854775807):(n=-9223372036854775808/\I6.wrap (n-1)=9223372036854775807)\/(-9223372036854775808<n/\I6.wrap (n-1)=n-1):=by by_cases a:n=-9223372036854775808;left;subst a;exact⟨rfl,by kernel_rfl⟩;right;exact⟨by omega,cV (by omega)⟩
def qpp(p l g d s:Int)(o : -9223372036854775808<=l/\l<=9223372036854775807)(n : -9223372036854775808<=g/\g<=9223372036854775807):
  (gJ [0,d,I6.wrap (l-1),I6.wrap (g-1),999999999999999]&&J (d<l))=J (0<=d/\d<l/\l<=g/\g<=1000000000000000):=by
 rw[udy];simp only[gJ,udc,ucu];rcases qd4 o with ⟨k,c⟩|⟨k,c⟩<;>rcases qd4 n with ⟨m,e⟩|⟨m,e⟩<;>rw[c,e]
 omega;omega;omega;constructor;rintro⟨⟨a,b,f,h,_⟩,i⟩;exact⟨a,i,by omega,by omega⟩;rintro⟨a,b,f,h⟩;exact⟨⟨a,by omega,by omega,by omega,uT⟩,b⟩
def AX:ag prog 101 kZ:=
 conv qxj _ _ (λw F x z t _=>by
  obtain⟨⟨p,l,g,d,s,_⟩,_⟩:=x;obtain⟨v,y,rfl,u,_⟩:=t;have e:=aG.wf u.2.2;refine⟨by simp[az,Fr.ok,Vx],?_⟩;have r:=qpp p l g d s (W6 e.2.1) (W6 e.2.2.1);show(if (bif J (p>=0)then J (p<8)else Y)=Z then (if (bif J (s>=1)then J (s<=10000)else Y)=Z then (if gJ [0,d,I6.wrap (l-1),I6.wrap (g-1),999999999999999]=Z then (J (d<l),())else (Y,()))else (Y,()))else (Y,()))=(lU p l g d s,());have n:(if gJ [0,d,I6.wrap (l-1),I6.wrap (g-1),999999999999999]=Z then ((J (d<l),()):Bool×Unit)else (Y,()))=(J (0<=d/\d<l/\l<=g/\g<=1000000000000000),()):=by rw[<- r];cases gJ [0,d,I6.wrap (l-1),I6.wrap (g-1),999999999999999]<;>rfl
  rw[n];have o:∀ (a b c:Bool),(if a=Z then (if b=Z then ((c,()):Bool×Unit)else (Y,()))else (Y,()))=(a&&(b&&c),()):=λa b c=>by cases a<;>cases b<;>rfl
  rw[o];congr 1;rw[udy];simp only[lU,ubb,udc,ucu];exact⟨λ⟨⟨f,h⟩,⟨i,k⟩,m⟩=>⟨f,h,i,k,m⟩,λ⟨f,h,i,k,m⟩=>⟨⟨f,h⟩,⟨i,k⟩,m⟩⟩)
def nT(a b:Int):Int:=if a<b then -1 else if b<a then 1 else 0
def pq:Ct:=⟨[.d i64,.d i64],[i64],λx=>(nT x.1 x.2.1,()),λ_=>[]⟩
def Fe:ag prog 166 pq:=
 conv qxi _ _ (λ_ _ x _ _ _=>by obtain⟨a,b,_⟩:=x;refine⟨by simp[az,Fr.ok,Vw],?_⟩;show(if J (a<b)=Z then ((-1:Int),())else if J (a>b)=Z then (1,())else (0,()))=(if a<b then -1 else if b<a then 1 else 0,());by_cases c:a<b;rw[ufw (ueb c),ufw c];rw[ufx (by simp[c]),ufx c];by_cases d:b<a;rw[ufw (ueb d),ufw d];rw[ufx (by simpa using d),ufx d])
def qzu(a b d:Int):(bif J (d>=(uA (a,b,())).1)then J (d<(uA (a,b,())).2.1)else Y)=eH a b d:=by unfold uA;by_cases h:fp (a,b,())=Z;rw[ufw h];obtain⟨k,p,l⟩:=oe.1 h;simp only[ubb,eH];rw[udy];simp only[udc,ucu,Ty.q,PT.q];constructor;rintro⟨c,e⟩;exact⟨k,l,c,e⟩;rintro⟨_,_,c,e⟩;exact⟨c,e⟩;rw[ufx h];have i:¬ (1<=a/\a<b/\b<=292195):=λm=>h (oe.2 m);simp only[ubb,eH];rw[udy];simp only[udc,ucu];constructor;rintro⟨c,e⟩;have f:(0:Int)<=d:=c;have g:d<(0:Int):=e;omega;rintro⟨c,e,n,o⟩;exact absurd ⟨c,by omega,e⟩ i
def rC:ag prog 96 iD:=
 conv qxp _ _ (λ_ _ x _ _ _=>by obtain⟨⟨a,b,_⟩,d,_⟩:=x;refine⟨by simp[az,Fr.ok,Vz],?_⟩;exact ufu (·,()) (qzu a b d))
def uI(a b:Int):Int:=if fp (a,b,())=Z then b-a else 0
def qV:Ct:=⟨[.d cK],[i64],λx=>(uI x.1.1 x.1.2.1,()),λ_=>[]⟩
def XW:ag prog 83 qV:=
 conv qxs _ _ (λ_ _ x _ _ _=>by obtain⟨⟨a,b,_⟩,_⟩:=x;refine⟨by simp[az,Fr.ok,V1],?_⟩;show(I6.wrap ((uA (a,b,())).2.1-(uA (a,b,())).1),())=(uI a b,());unfold uA uI;by_cases h:fp (a,b,())=Z;rw[ufw h,ufw h];obtain⟨d,e,f⟩:=oe.1 h;have c:I6.wrap (b-a)=b-a:=cV (by omega);exact ufu (·,()) c;rw[ufx h,ufx h];rfl)
abbrev dN:Ty:=.pair i64 (.pair i64 .unit)
def CH4:Cx:=cx [(101,kZ)] []
def wa:CxOK prog CH4:=aQ aH ⟨AX,uT⟩ trivial
abbrev oA:Pt:=⟨26,0,⟨[(14,.d i64),(13,.d i64),(12,.d (.sl ar)),(1,.d (.sl ar))],[]⟩,⟨[],[]⟩,⟨[(4,.d .bool)],[]⟩⟩
abbrev vG:Type:=ap [.d (.sl ar)]×dj []
def Dh(e:(ar.q×ar.q))(s:vG):Fr (vG ⊕ oA.R.X):=
 Jb (!(e.1.1==e.2.1&&(e.1.2.1==e.2.2.1&&(e.1.2.2.1==e.2.2.2.1&&(e.1.2.2.2.1==e.2.2.2.2.1&&(e.1.2.2.2.2.1==e.2.2.2.2.2.1&&Z)))))) (Jv (.inr ((Y,()),()))) (Jv (.inl ((s.1.1,()),())))
def s8(x:oA.M.X):Int×List (ar.q×ar.q)×vG:=(x.1.1,x.1.2.2.1.zip x.1.2.2.2.1,x.1.2.2.2,x.2)
def VV(x:oA.M.X):Prop:=x.1.2.1=(x.1.2.2.1.length:Int)/\x.1.2.2.1.length=x.1.2.2.2.1.length
def zif(s:vG):oA.E.X:=((),())
def qp4:vG:=(aY _,cf _)
def KX:oA.R.X:=(aY _,cf _)
def zd2:af prog (.loop (au f200 0)) oA.M oA (FL Dh s8 VV zif Rd.back qp4 KX):=
 zsb wa (λ_ _=>.n (.z .o)) ar.j ar.j (λx=>x.1.2.2.1) (λx=>x.1.2.2.2.1) (λx=>x.1.2.1) (λx s=>((I6.wrap (x.1.1+1),x.1.2.1,x.1.2.2.1,s.1),s.2)) (λ_ h=>h)
def H1(y:oA.M.X):vG ⊕ oA.R.X:=eC Dh ((s8 y).2.1.drop (s8 y).1.toNat) (s8 y).2.2
def zhp(y:oA.M.X):Prop:=l6 Dh ((s8 y).2.1.drop (s8 y).1.toNat) (s8 y).2.2
abbrev l7:Pt:=⟨32,0,⟨[(8,.d i64),(7,.d i64),(6,.d (.sl ar)),(0,.d (.sl ar)),(3,.d i64)],[]⟩,⟨[(0,.d (.sl ar))],[]⟩,⟨[(2,.d .bool)],[]⟩⟩
abbrev i8:Type:=ap [.d (.sl ar),.d i64]×dj []
def Dy(e:ar.q)(s:i8):Fr (i8 ⊕ l7.R.X):=
 Jb (bif J (e.1<=s.1.2.1)then Z else !(kZ.f ((e.1,e.2.1,e.2.2.1,e.2.2.2.1,e.2.2.2.2.1,()),())).1) (Jv (.inr ((Y,()),()))) (Jv (.inl ((s.1.1,e.1,()),())))
def sL(x:l7.M.X):Int×List ar.q×i8:=(x.1.1,x.1.2.2.1,x.1.2.2.2,x.2)
def Wk(x:l7.M.X):Prop:=x.1.2.1=(x.1.2.2.1.length:Int)
def uP(s:i8):l7.E.X:=((s.1.1,()),())
def tN:i8:=(aY _,cf _)
def Ld:l7.R.X:=(aY _,cf _)
def zft:af prog (.loop (au f196 0)) l7.M l7 (FL Dy sL Wk uP Rd.back tN Ld):=
 sQ wa (λ_ _=>.n .o) ar.j (λx=>x.1.2.1) (λx s=>((I6.wrap (x.1.1+1),x.1.2.1,x.1.2.2.1,s.1),s.2)) (λ_ h=>h)
def zp(y:l7.M.X):i8 ⊕ l7.R.X:=eC Dy ((sL y).2.1.drop (sL y).1.toNat) (sL y).2.2
def zhz(y:l7.M.X):Prop:=l6 Dy ((sL y).2.1.drop (sL y).1.toNat) (sL y).2.2
abbrev mr:Pt:=⟨37,0,⟨[(8,.d i64),(7,.d i64),(6,.d (.sl dN)),(0,.d (.sl dN)),(3,.d i64)],[]⟩,⟨[(0,.d (.sl dN))],[]⟩,⟨[(2,.d .bool)],[]⟩⟩
abbrev j6:Type:=ap [.d (.sl dN),.d i64]×dj []
def Dt(e:dN.q)(s:j6):Fr (j6 ⊕ mr.R.X):=
 Jb (bif bif bif J (e.1<=s.1.2.1)then Z else J (e.1>200)then Z else J (e.2.1<0)then Z else J (e.2.1>100000)) (Jv (.inr ((Y,()),()))) (Jv (.inl ((s.1.1,e.1,()),())))
def sH(x:mr.M.X):Int×List dN.q×j6:=(x.1.1,x.1.2.2.1,x.1.2.2.2,x.2)
def Wg(x:mr.M.X):Prop:=x.1.2.1=(x.1.2.2.1.length:Int)
def Cq(s:j6):mr.E.X:=((s.1.1,()),())
def AY:j6:=(aY _,cf _)
def Lb:mr.R.X:=(aY _,cf _)
def zfh:af prog (.loop (au f234 0)) mr.M mr (FL Dt sH Wg Cq Rd.back AY Lb):=
 sQ wa (λ_ _=>.n .o) dN.j (λx=>x.1.2.1) (λx s=>((I6.wrap (x.1.1+1),x.1.2.1,x.1.2.2.1,s.1),s.2)) (λ_ h=>h)
def CM(y:mr.M.X):j6 ⊕ mr.R.X:=eC Dt ((sH y).2.1.drop (sH y).1.toNat) (sH y).2.2
def zhv(y:mr.M.X):Prop:=l6 Dt ((sH y).2.1.drop (sH y).1.toNat) (sH y).2.2
def qti(x:ap [.d (.sl ar),.d (.sl ar)]):Fr (aa [.bool]):=
 let a:=((0,((List.length x.1):Int),x.1,x.2.1,()),());let b:=H1 a;Jb (((List.length x.1):Int) != ((List.length x.2.1):Int)) (Jv (Y,())) (Jd (InL (VV a) (s8 a)) (Jd (zhp a) (Jb (dV b) (Jv (Z,())) (Jv ((e9 KX b).1.1,())))))
def qtj:ag prog 200 (bg [.d (.sl ar),.d (.sl ar)] [.bool] qti):=
 cZ wa zd2
def qvy(x:ap [.d (.sl ar)]):Fr (aa [.bool]):=
 let a:=((0,((List.length x.1):Int),x.1,x.1,-1,()),());let c:=zp a;let b:=((List.length (uP (fq tN c)).1.1):Int);Jd (InL (Wk a) (sL a)) (Jd (zhz a) (Jb (dV c) (Jv (bif J (b>=1)then J (b<=8)else Y,())) (Jv ((e9 Ld c).1.1,()))))
def qvz:ag prog 196 (bg [.d (.sl ar)] [.bool] qvy):=
 cZ wa zft
def qvl(x:ap [.d (.sl dN)]):Fr (aa [.bool]):=
 let a:=((0,((List.length x.1):Int),x.1,x.1,-1,()),());let b:=CM a;Jd (InL (Wg a) (sH a)) (Jd (zhv a) (Jb (dV b) (Jv (J (((List.length (Cq (fq AY b)).1.1):Int)<=100),())) (Jv ((e9 Lb b).1.1,()))))
def qvm:ag prog 234 (bg [.d (.sl dN)] [.bool] qvl):=
 cZ wa zfh
def yf{l:List T}(h:l.length<=maxLen):(l.length:Int)<=9223372036854775807:=by simp only[maxLen]at h;omega
def pg{t:Ty}{l:List t.q}(h:Jk prog w F (.d (.sl t)) l v):(l.length:Int)<=9223372036854775807:=yf (aG.wf (t:=.sl t) h.2.2).1
def mU(l:List Int):Bool:=l.all λn=>J (0<=n/\n<=100000)
def A0:Ct:=⟨[.d aP],[.bool],λx=>(mU x.1,()),λ_=>[]⟩
def po(p:T->σ->Bool)(f:T->σ->σ):List T->σ->Bool
 |[],_=>Z
 |e::r,s=>p e s&&po p f r (f e s)
def iZ(f:T->σ->σ):List T->σ->σ
 |[],s=>s
 |e::r,s=>iZ f r (f e s)
def tv{step:T->σ->Fr (σ ⊕ ρ)}{p:T->σ->Bool}{f:T->σ->σ}{c:ρ}(h:∀ e s,(step e s).get=if p e s=Z then .inl (f e s)else .inr c):
  (l:List T)->(s:σ)->eC step l s=if po p f l s=Z then .inl (iZ f l s)else .inr c
 |[],s=>rfl
 |e::r,s=>by
  simp only[eC,po,iZ];by_cases b:p e s=Z;have a:=h e s;rw[ufw b]at a;simp only[a,b,uem];exact tv h r (f e s);have a:=h e s;rw[ufx b]at a;have d:p e s=false:=by simpa using b
  simp only[a,d,Bool.false_and];rfl
def nU(c:ar.q):Bool:=lU c.1 c.2.1 c.2.2.1 c.2.2.2.1 c.2.2.2.2.1
def tj:List ar.q->Int->Bool
 |[],_=>Z
 |c::r,last=>(J (last<c.1)&&nU c)&&tj r c.1
def ky(l:List ar.q):Bool:=J (1<=l.length/\l.length<=8)&&tj l (-1)
def Az:Ct:=⟨[.d (.sl ar)],[.bool],λx=>(ky x.1,()),λ_=>[]⟩
def zp6(e:ar.q)(s:i8):(Dy e s).get=if (J (s.1.2.1<e.1)&&nU e)=Z then .inl ((s.1.1,e.1,()),())else .inr ((Y,()),()):=by
 show(if (bif J (e.1<=s.1.2.1)then Z else !(nU e))=Z then _ else _)=_;have a:(bif J (e.1<=s.1.2.1)then Z else !(nU e))=!(J (s.1.2.1<e.1)&&nU e):=by
  have:J (e.1<=s.1.2.1)=!J (s.1.2.1<e.1):=by rw[udy];simp only[ucv,ucu,uav];exact ufm.symm
  rw[this];cases J (s.1.2.1<e.1)<;>cases nU e<;>rfl
 rw[a];cases (J (s.1.2.1<e.1)&&nU e)<;>rfl
def zp4(l b:List ar.q)(last:Int):po (λ(e:ar.q) (s:i8)=>J (s.1.2.1<e.1)&&nU e) (λe s=>((s.1.1,e.1,()),())) l ((b,last,()),())=tj l last:=by
 induction l generalizing last with
 |nil=>rfl
 |cons c r a=>show((J (last<c.1)&&nU c)&&_)=((J (last<c.1)&&nU c)&&_);rw[a]
def zp5(l a:List ar.q)(last:Int):(iZ (λ(e:ar.q) (s:i8)=>(((s.1.1,e.1,()),()):i8)) l ((a,last,()),())).1.1=a:=by
 induction l generalizing last with
 |nil=>rfl
 |cons c r b=>exact b c.1
def zco(n:Nat):(bif J ((n:Int)>=1)then J ((n:Int)<=8)else Y)=J (1<=n/\n<=8):=by rw[udy];simp only[ubb,udc,ucu];omega
def qcu:ag prog 196 Az:=
 conv qvz _ _ (λw F x i f _=>by
  obtain⟨l,_⟩:=x;obtain⟨v,h,rfl,g,_⟩:=f;have c:=pg g;refine⟨⟨⟨rfl,ufc _,ub4 _,c⟩,rR (step:=Dy) (λe s=>⟨λ_=>uT,λ_=>uT⟩) _ _,λ_=>uT,λ_=>uT⟩,?_⟩;have a:=tv zp6 l ((l,-1,()),());rw[zp4]at a;have b:zp ((0,(l.length:Int),l,l,-1,()),())=if tj l (-1)=Z then .inl _ else .inr _:=a
  show(if dV (zp ((0,(l.length:Int),l,l,-1,()),()))=Z then ((bif J (((uP (fq tN (zp ((0,(l.length:Int),l,l,-1,()),())))).1.1.length:Int)>=1)then J (((uP (fq tN (zp ((0,(l.length:Int),l,l,-1,()),())))).1.1.length:Int)<=8)else Y,()):Bool×Unit)else ((e9 Ld (zp ((0,(l.length:Int),l,l,-1,()),()))).1.1,()))=(ky l,());rw[b];unfold ky;cases tj l (-1)with
  |true=>have d:(uP (fq tN (Sum.inl (iZ (λ(e:ar.q) (s:i8)=>(((s.1.1,e.1,()),()):i8)) l ((l,-1,()),())):i8 ⊕ l7.R.X))).1.1=l:=zp5 l l (-1);show((bif J (((uP (fq tN (Sum.inl (iZ (λ(e:ar.q) (s:i8)=>(((s.1.1,e.1,()),()):i8)) l ((l,-1,()),())):i8 ⊕ l7.R.X))).1.1.length:Int)>=1)then J (((uP (fq tN (Sum.inl (iZ (λ(e:ar.q) (s:i8)=>(((s.1.1,e.1,()),()):i8)) l ((l,-1,()),())):i8 ⊕ l7.R.X))).1.1.length:Int)<=8)else Y,()):Bool×Unit)=_;rw[d];exact ufu (·,()) ((zco l.length).trans (uen _).symm)
  |false=>rw[uee];rfl)
def qN(u b:Int):Bool:=J (u<=200/\0<=b/\b<=100000)
def As:List dN.q->Int->Bool
 |[],_=>Z
 |c::r,last=>(J (last<c.1)&&qN c.1 c.2.1)&&As r c.1
def Au(l:List dN.q):Bool:=J (l.length<=100)&&As l (-1)
def Eu:Ct:=⟨[.d (.sl dN)],[.bool],λx=>(Au x.1,()),λ_=>[]⟩
def qlz(u b last:Int):(bif bif bif J (u<=last)then Z else J (u>200)then Z else J (b<0)then Z else J (b>100000))=!(J (last<u)&&qN u b):=by rw[udy];simp only[qN,uby,udu,ucv,Bool.and_eq_false_iff,ucu,uav];omega
def zkg(e:dN.q)(s:j6):(Dt e s).get=if (J (s.1.2.1<e.1)&&qN e.1 e.2.1)=Z then .inl ((s.1.1,e.1,()),())else .inr ((Y,()),()):=by show(if (bif bif bif J (e.1<=s.1.2.1)then Z else J (e.1>200)then Z else J (e.2.1<0)then Z else J (e.2.1>100000))=Z then _ else _)=_;have a:=qlz e.1 e.2.1 s.1.2.1;rw[a];cases (J (s.1.2.1<e.1)&&qN e.1 e.2.1)<;>rfl
def zke(l b:List dN.q)(last:Int):po (λ(e:dN.q) (s:j6)=>J (s.1.2.1<e.1)&&qN e.1 e.2.1) (λe s=>((s.1.1,e.1,()),())) l ((b,last,()),())=As l last:=by
 induction l generalizing last with
 |nil=>rfl
 |cons c r a=>show((J (last<c.1)&&qN c.1 c.2.1)&&_)=((J (last<c.1)&&qN c.1 c.2.1)&&_);rw[a]
def zkf(l a:List dN.q)(last:Int):(iZ (λ(e:dN.q) (s:j6)=>(((s.1.1,e.1,()),()):j6)) l ((a,last,()),())).1.1=a:=by
 induction l generalizing last with
 |nil=>rfl
 |cons c r b=>exact b c.1
def zcp(n:Nat):decide ((n:Int)<=100)=decide (n<=100):=by
 rw[udy];simp only[ucu];omega
def Sq:ag prog 234 Eu:=
 conv qvm _ _ (λw F x i f _=>by
  obtain⟨l,_⟩:=x;obtain⟨v,h,rfl,g,_⟩:=f;have c:=pg g;refine⟨⟨⟨rfl,ufc _,ub4 _,c⟩,rR (step:=Dt) (λe s=>⟨λ_=>uT,λ_=>uT⟩) _ _,λ_=>uT,λ_=>uT⟩,?_⟩;have a:=tv zkg l ((l,-1,()),());rw[zke]at a;have b:CM ((0,(l.length:Int),l,l,-1,()),())=if As l (-1)=Z then .inl _ else .inr _:=a
  show(if dV (CM ((0,(l.length:Int),l,l,-1,()),()))=Z then ((J (((Cq (fq AY (CM ((0,(l.length:Int),l,l,-1,()),())))).1.1.length:Int)<=100),()):Bool×Unit)else ((e9 Lb (CM ((0,(l.length:Int),l,l,-1,()),()))).1.1,()))=(Au l,());rw[b];unfold Au;cases As l (-1)with
  |true=>have d:(Cq (fq AY (Sum.inl (iZ (λ(e:dN.q) (s:j6)=>(((s.1.1,e.1,()),()):j6)) l ((l,-1,()),())):j6 ⊕ mr.R.X))).1.1=l:=zkf l l (-1);show((J (((Cq (fq AY (Sum.inl (iZ (λ(e:dN.q) (s:j6)=>(((s.1.1,e.1,()),()):j6)) l ((l,-1,()),())):j6 ⊕ mr.R.X))).1.1.length:Int)<=100),()):Bool×Unit)=_;rw[d];exact ufu (·,()) ((zcp l.length).trans (uen _).symm)
  |false=>rw[uee];rfl)
def tG(a b:ar.q):Bool:=(a.1==b.1&&(a.2.1==b.2.1&&(a.2.2.1==b.2.2.1&&(a.2.2.2.1==b.2.2.2.1&&(a.2.2.2.2.1==b.2.2.2.2.1&&Z)))))
def qpo{a b:ar.q}:tG a b=Z↔a=b:=by obtain⟨c,d,e,f,g,_⟩:=a;obtain⟨h,i,k,l,m,_⟩:=b;simp only[tG,udc,ufj,ueh]
def jk:List ar.q->List ar.q->Bool
 |[],[]=>Z
 |a::l,b::m=>tG a b&&jk l m
 |_,_=>Y
def Pm:{l m:List ar.q}->(jk l m=Z↔l=m)
 |[],[]=>by simp[jk]
 |[],b::m=>by simp[jk]
 |a::l,[]=>by simp[jk]
 |a::l,b::m=>by simp only[jk,udc,udr];rw[qpo,Pm]
def AA:Ct:=⟨[.d (.sl ar),.d (.sl ar)],[.bool],λx=>(jk x.1 x.2.1,()),λ_=>[]⟩
def qa3:{l m:List ar.q}->l.length=m.length->jk l m=(l.zip m).all λe=>tG e.1 e.2
 |[],[],_=>rfl
 |[],b::m,h=>by cases h
 |a::l,[],h=>by cases h
 |a::l,b::m,h=>by simp only[jk,List.zip_cons_cons,uek];rw[qa3 (by simpa using h)]
def zma:{l m:List ar.q}->l.length≠m.length->jk l m=false:=λh=>by
 cases a:jk _ _ with
 |true=>exact absurd (ufu List.length (Pm.1 a)) h
 |false=>rfl
def Js(p:T->Bool)(l:List T)(s:σ):po (λe _=>p e) (λ_ s=>s) l s=l.all p:=by
 induction l with
 |nil=>rfl
 |cons e r a=>simp only[po,uek];rw[a]
def qky(e:ar.q×ar.q)(s:vG):(Dh e s).get=if tG e.1 e.2=Z then .inl s else .inr ((Y,()),()):=by show(if (!(tG e.1 e.2))=Z then _ else _)=_;cases tG e.1 e.2<;>rfl
def zcq(a b:Nat):((a:Int) != (b:Int))=!J (a=b):=by rw[udy];simp;omega
def qkz:ag prog 200 AA:=
 conv qtj _ _ (λw F x r k _=>by
  obtain⟨l,m,_⟩:=x;obtain⟨v,p,rfl,n,_⟩:=k;have h:(l.length:Int)<=9223372036854775807:=pg n;have g:=zcq l.length m.length;by_cases b:l.length=m.length;have a:((l.length:Int) != (m.length:Int))=false:=by rw[g,ueb b];rfl
  have o:((l.zip m).length:Int)<=9223372036854775807:=by rw[udz];omega
  refine⟨⟨λ_=>uT,λ_=>⟨⟨⟨rfl,b⟩,ufc _,ub4 _,o⟩,rR (step:=Dh) (λe s=>⟨λ_=>uT,λ_=>uT⟩) _ _,λ_=>uT,λ_=>uT⟩⟩,?_⟩;have c:=tv qky (l.zip m) ((m,()),());rw[Js,<- qa3 b]at c;have d:H1 ((0,(l.length:Int),l,m,()),())=if jk l m=Z then .inl _ else .inr _:=c
  show(if ((l.length:Int) != (m.length:Int))=Z then ((Y,()):Bool×Unit)else if dV (H1 ((0,(l.length:Int),l,m,()),()))=Z then (Z,())else ((e9 KX (H1 ((0,(l.length:Int),l,m,()),()))).1.1,()))=(jk l m,());rw[d,a];cases jk l m<;>rfl
  have a:((l.length:Int) != (m.length:Int))=true:=by rw[g,udw b];rfl
  refine⟨⟨λ_=>uT,λi=>(by have f:((l.length:Int) != (m.length:Int))=false:=i;rw[a]at f;cases f)⟩,?_⟩;show(if ((l.length:Int) != (m.length:Int))=Z then ((Y,()):Bool×Unit)else _)=(jk l m,());rw[a,zma b];rfl)
abbrev dF:Ty:=.pair cK (.pair eV (.pair (.sl ar) .unit))
abbrev ay:Ty:=.pair i64 (.pair i64 (.pair i64 (.pair eV (.pair (.sl ar) (.pair i64 .unit)))))
abbrev aD:Ty:=.pair i64 (.pair i64 (.pair dF (.pair (.sl ay) .unit)))
abbrev Mr:Ty:=.pair i64 (.pair i64 (.pair i64 (.pair i64 .unit)))
abbrev aU:Ty:=.pair i64 (.pair Mr (.pair (.sl dN) (.pair aP (.pair aP (.pair i64 .unit)))))
abbrev bh:Ty:=.pair (.sl aU) .unit
def CH9:Cx:=cx [(194,qX),(234,Eu),(196,Az),(200,AA),(96,iD)] []
def Ae:CxOK prog CH9:=aQ aH ⟨OV,Sq,qcu,qkz,rC,uT⟩ trivial
def UK(x:ap [.d ay]):Fr (aa [.bool]):=
 let a:=x.1.2.2.2;Jv (bif bif (qX.f ((a.1.1,a.1.2.1,a.1.2.2.1,a.1.2.2.2.1,()),())).1 then ((List.length a.2.1):Int)==0 else Y then a.2.2.1==0 else Y,())
def qtq:ag prog 227 (bg [.d ay] [.bool] UK):=
 aT Ae f227
def UL(x:ap [.d ay]):Fr (aa [.bool]):=
 let a:=x.1.2.2.2;Jv (bif bif (Az.f (a.2.1,())).1 then a.1.1==0&&(a.1.2.1==0&&(a.1.2.2.1==0&&(a.1.2.2.2.1==0&&Z)))else Y then a.2.2.1==0 else Y,())
def qtr:ag prog 228 (bg [.d ay] [.bool] UL):=
 aT Ae f228
def UM(x:ap [.d ay]):Fr (aa [.bool]):=
 let a:=x.1.2.2.2;Jv (bif bif bif a.2.2.1==0 then Z else a.2.2.1==1 then ((List.length a.2.1):Int)==0 else Y then a.1.1==0&&(a.1.2.1==0&&(a.1.2.2.1==0&&(a.1.2.2.2.1==0&&Z)))else Y,())
def qts:ag prog 229 (bg [.d ay] [.bool] UM):=
 aT Ae f229
def UN(x:ap [.d ay]):Fr (aa [.bool]):=
 let a:=x.1.2.2.2;Jv (bif bif a.2.2.1==0 then ((List.length a.2.1):Int)==0 else Y then a.1.1==0&&(a.1.2.1==0&&(a.1.2.2.1==0&&(a.1.2.2.2.1==0&&Z)))else Y,())
def qtt:ag prog 230 (bg [.d ay] [.bool] UN):=
 aT Ae f230
def quf(x:ap [.d aF,.d aF]):Fr (aa [.bool]):=
 let b:=x.1.2.2;let a:=x.2.1.2.2;Jv (bif bif x.1.2.1==x.2.1.2.1 then b.1.1==a.1.1&&(b.1.2.1==a.1.2.1&&(b.1.2.2.1==a.1.2.2.1&&(b.1.2.2.2.1==a.1.2.2.2.1&&Z)))else Y then (AA.f (b.2.1,a.2.1,())).1 else Y,())
def qug:ag prog 135 (bg [.d aF,.d aF] [.bool] quf):=
 aT Ae f135
def KD(c:ay.q):Bool:=(UK (c,())).get.1
def KE(c:ay.q):Bool:=(UL (c,())).get.1
def KF(c:ay.q):Bool:=(UM (c,())).get.1
def KG(c:ay.q):Bool:=(UN (c,())).get.1
def JP:Ct:=⟨[.d ay],[.bool],λx=>(KD x.1,()),λ_=>[]⟩
def JQ:Ct:=⟨[.d ay],[.bool],λx=>(KE x.1,()),λ_=>[]⟩
def JR:Ct:=⟨[.d ay],[.bool],λx=>(KF x.1,()),λ_=>[]⟩
def JS:Ct:=⟨[.d ay],[.bool],λx=>(KG x.1,()),λ_=>[]⟩
def qof:ag prog 227 JP:=conv qtq _ _ (λ_ _ _ _ _ _=>⟨uT,rfl⟩)
def qog:ag prog 228 JQ:=conv qtr _ _ (λ_ _ _ _ _ _=>⟨uT,rfl⟩)
def qoh:ag prog 229 JR:=conv qts _ _ (λ_ _ _ _ _ _=>⟨uT,rfl⟩)
def qoi:ag prog 230 JS:=conv qtt _ _ (λ_ _ _ _ _ _=>⟨uT,rfl⟩)
def G8(c:ay.q):Bool:=if c.2.2.1=1 then KD c else if c.2.2.1=2 then KE c else if c.2.2.1=3 then KF c else if c.2.2.1=4 then KG c else Y
def fk(c:ay.q):Bool:=jo c.1&&(jo c.2.1&&G8 c)
def qS:Ct:=⟨[.d ay],[.bool],λx=>(fk x.1,()),λ_=>[]⟩
def i9(t:dF.q):Bool:=fp t.1&&(J (t.1.2.1-t.1.1<=1100)&&(qp t.2.1.1 t.2.1.2.1 t.2.1.2.2.1 t.2.1.2.2.2.1&&ky t.2.2.1))
def t7:Ct:=⟨[.d dF],[.bool],λx=>(i9 x.1,()),λ_=>[]⟩
def CN(a b:eV.q):Bool:=(a.1==b.1&&(a.2.1==b.2.1&&(a.2.2.1==b.2.2.1&&(a.2.2.2.1==b.2.2.2.1&&Z))))
def pX(a b:aF.q):Bool:=(a.2.1==b.2.1)&&(CN a.2.2.1 b.2.2.1&&jk a.2.2.2.1 b.2.2.2.1)
def E7:Ct:=⟨[.d aF,.d aF],[.bool],λx=>(pX x.1 x.2.1,()),λ_=>[]⟩
def Wz:ag prog 135 E7:=conv qug _ _ (λ_ _ x _ _ _=>by obtain⟨a,b,_⟩:=x;exact⟨uT,ufu (·,()) (PK (a.2.1==b.2.1) (CN a.2.2.1 b.2.2.1) (jk a.2.2.2.1 b.2.2.2.1))⟩)
def kz(h:aD.q)(i:Int):Int:=(h.2.2.2.1.getD i.toNat ay.j).2.1
abbrev aO(h:aD.q):List ay.q:=h.2.2.2.1
def CO1:Cx:=cx [(166,pq)] []
def qfv:CxOK prog CO1:=aQ aH ⟨Fe,uT⟩ trivial
def qxu(x:ap [.d i64,.d i64,.ptr aD]):Fr (aa [i64]):=
 let a:=((aO x.2.2.1).length:Int);Jd (0<=x.1/\x.1<a) (Jd (0<=x.2.1/\x.2.1<a) (Jv ((pq.f (kz x.2.2.1 x.1,kz x.2.2.1 x.2.1,())).1,())))
def wO:Ct:=⟨[.d i64,.d i64,.ptr aD],[i64],λx=>(nT (kz x.2.2.1 x.1) (kz x.2.2.1 x.2.1),()),λx=>[0<=x.1/\x.1<((aO x.2.2.1).length:Int),0<=x.2.1/\x.2.1<((aO x.2.2.1).length:Int)]⟩
def YO:ag prog 202 wO:=
 conv (aT qfv f202 (fr:=qxu)) _ _ λ_ _ x _ _ a=>⟨⟨a.1,a.2,uT⟩,rfl⟩
def kb(n:Nat):List Int:=(List.range n).map λi:Nat=>(i:Int)
def zkb(n:Nat):kb (n+1)=kb n++[(n:Int)]:=by simp[kb,ud2]
def OC(n:Nat):(kb n).length=n:=by simp[kb]
def OD(h:x∈kb n):0<=x/\x<n:=by simp only[kb,ue8,uea]at h;omega
def CO2:Cx:=dI [(202,wO)] [] (i6 (cx [(202,wO)] []).Γ 201 NH)
def qfx:CxOK prog (cx [(202,wO)] []):=aQ aH ⟨YO,uT⟩ trivial
def Q2:CxOK prog CO2:=dP aH ⟨YO,uT⟩ trivial (jg qfx.ct zoa)
abbrev qk:Pt:=⟨20,0,⟨[(7,.d i64),(8,.d i64)],[.x 1 80 aD,.r 1 1 0,.o 3 3 i64]⟩,⟨[],[.x 1 80 aD,.r 1 1 0,.o 3 3 i64]⟩,⟨[],[]⟩⟩
def MH(x:qk.M.X):Fr qk.Out:=
 let n:=x.1.1;let k:=x.1.2.1;let h:=x.2.1;let l:=x.2.2.1
 Jb (J (k<n))
  (Jd (l.length + [k].length<=maxLen/\(l.length + [k].length)*prog.types[3].bytes<=140737488355328) (Jv (Rd.next ((n,I6.wrap (k+1),()),(h,l++[k],())))))
  (Jv (Rd.out ((),(h,l,()))))
def znb:af prog (au f136 0) qk.M qk MH:=
 ep Q2
def zak:prog.types[3].bytes=8:=by kernel_rfl
structure InvOrd (n k:Int) (l:List Int):Prop where
 k0:0<=k
 kn:k<=n
 big:n<=1000000
 ll:l=kb k.toNat
def Rk(x:qk.M.X):Fr qk.Out:=
 Jd (InvOrd x.1.1 x.1.2.1 x.2.2.1) (Jv (Rd.out ((),(x.2.1,kb x.1.1.toNat,()))))
def zb4 (n k:Int) (h:aD.q) (l:List Int) (b:InvOrd n k l) (Q:qk.Out->Prop) (d:Q (Rd.out ((),(h,kb n.toNat,())))):(MH ((n,k,()),(h,l,()))).s7 λ
   |.next a=>InvOrd a.1.1 a.1.2.1 a.2.2.1/\(a.1.1-a.1.2.1).toNat<(n-k).toNat/\(Rk a).s7 Q
   |.out y=>Q (.out y)
   |.back z=>Q (.back z)
   |.pan p=>Q (.pan p):=by
 obtain⟨o,r,f,g⟩:=b;subst g;dsimp only[MH,Fr.s7,Ty.q,PT.q];rw[zak];refine⟨λc=>?_,λc=>?_⟩;have m:=ucx c;have w:I6.wrap (k+1)=k+1:=IntWalk.i64_in _ (by omega);rw[w];have e:InvOrd n (k+1) (kb k.toNat++[k]):=⟨by omega,by omega,f,by rw[show(k+1).toNat=k.toNat+1 by omega,zkb,show((k.toNat:Nat):Int)=k by omega]⟩;refine⟨?_,e,by omega,e,d⟩;simp only[OC,uc9,udm,maxLen];omega;have i:=uch c;rw[show n=k by omega]at d;exact d
def zde:af prog (.loop (au f136 0)) qk.M qk Rk:=by refine af.loop znb (μ:=λx=>(x.1.1-x.1.2.1).toNat) ?_ (λx Q h=>h.1);rintro⟨⟨n,k,_⟩,⟨h,l,_⟩⟩ a Q b;exact zb4 n k h l a Q b.2
def Ov(h:aD.q):qox.q:=(λx=>wO.f (x.1,x.2.1,h,()),λx=>az (wO.ok (x.1,x.2.1,h,())))
def V2(x:ap [.d aD]):Fr (aa [.sl i64]):=
 let n:Int:=((aO x.1).length:Int)
 Jd (InvOrd n 0 [])
 (Jd (((kb n.toNat).length:Int)<=4611686018427387903)
  (Jd (jD (Ov x.1) (kb n.toNat)) (Jv ((NH.f (kb n.toNat) (Ov x.1,())).1,()))))
def NG(h:aD.q)(x y:Int):Bool:=J (kz h x<kz h y)
def bV(h:aD.q):List Int:=dp (NG h) (kb (aO h).length)
def XS(h:aD.q):aR (Ov h)=NG h:=by funext x y;show J (nT (kz h x) (kz h y)<0)=J (kz h x<kz h y);unfold nT;split;simp[*];split<;>simp<;>omega
def Km:Ct:=⟨[.d aD],[.sl i64],λx=>(bV x.1,()),λx=>[((aO x.1).length:Int)<=1000000]⟩
def Ox:ag prog 136 Km:=
 conv (cZ Q2 zde (fr:=V2)) _ _ λ_ _ x _ _ b=>by obtain⟨h,rfl⟩:∃ h:aD.q,x=(h,()):=⟨x.1,rfl⟩;have a:((aO h).length:Int)<=1000000:=b;have e:((aO h).length:Int).toNat=(aO h).length:=rfl;dsimp only[V2,Fr.ok,NH,rO];rw[e,XS,OC];refine⟨⟨⟨ufc _,by omega,a,rfl⟩,by omega,⟨λx c y d=>⟨OD c,OD d⟩,kz h,λx _ y _=>by rw[XS];rfl⟩,uT⟩,rfl⟩
section
variable {key:Int->Int} {lt:Int->Int->Bool}
end
def qrf(h:i<l.length):l.drop i=l.getD i 0::l.drop (i+1):=by simp[uaq h]
def nZ(s:aF.q)(c:ay.q):aF.q:=
 if c.2.2.1=1 then (s.1,s.2.1,c.2.2.2.1,s.2.2.2.1,s.2.2.2.2.1,())
 else if c.2.2.1=2 then (s.1,s.2.1,s.2.2.1,c.2.2.2.2.1,s.2.2.2.2.1,())
 else if c.2.2.1=3 then (s.1,Y,s.2.2.1,s.2.2.2.1,s.2.2.2.2.1,())
 else if c.2.2.1=4 then (s.1,Z,s.2.2.1,s.2.2.2.1,s.2.2.2.2.1,())
 else s
def cw(h:aD.q)(i:Int):ay.q:=(aO h).getD i.toNat ay.j
def CHA:Cx:=cx [(135,E7),(96,iD)] []
def Qt:CxOK prog CHA:=aQ aH ⟨Wz,rC,uT⟩ trivial
abbrev oI:Pt:=⟨21,0,⟨[(10,.d i64),(9,.d i64),(8,.d eK),(1,.d i64)],[.x 4 170 aF,.r 4 4 0]⟩,⟨[],[.x 4 170 aF,.r 4 4 0]⟩,⟨[(5,.d .bool)],[.x 4 170 aF,.r 4 4 0]⟩⟩
abbrev z8:Type:=ap [.d i64]×dj [.x 4 170 aF,.r 4 4 0]
def vO(e:aF.q)(s:z8):Fr (z8 ⊕ oI.R.X):=
 Jb (iD.f (e.1,s.1.1,())).1 (Jv (.inr ((Z,()),e,()))) (Jv (.inl s))
def sI(x:oI.M.X):Int×List aF.q×z8:=(x.1.1,x.1.2.2.1,x.1.2.2.2,x.2)
def Wh(x:oI.M.X):Prop:=x.1.2.1=(x.1.2.2.1.length:Int)
def zim(s:z8):oI.E.X:=((),s.2.1,())
def qqa:z8:=(aY _,cf _)
def Fi:oI.R.X:=(aY _,cf _)
def zfk:af prog (.loop (au f59 0)) oI.M oI (FL vO sI Wh zim Rd.back qqa Fi):=
 sQ Qt (λ_ _=>.n .o) aF.j (λx=>x.1.2.1) (λx s=>((I6.wrap (x.1.1+1),x.1.2.1,x.1.2.2.1,s.1),s.2)) (λ_ h=>h)
def zn(y:oI.M.X):z8 ⊕ oI.R.X:=eC vO ((sI y).2.1.drop (sI y).1.toNat) (sI y).2.2
def zhw(y:oI.M.X):Prop:=l6 vO ((sI y).2.1.drop (sI y).1.toNat) (sI y).2.2
def qvq(x:ap [.d eK,.d i64]):Fr (aa [aF,.bool]):=
 let a:=((0,((List.length x.1):Int),x.1,x.2.1,()),((0,0,()),Y,(0,0,0,0,()),[],0,()),());let b:=e9 Fi (zn a);Jd (InL (Wh a) (sI a)) (Jd (zhw a) (Jb (dV (zn a)) (Jv (((0,0,()),Y,(0,0,0,0,()),[],0,()),Y,())) (Jv (b.2.1,b.1.1,()))))
def qvr:ag prog 59 (bg [.d eK,.d i64] [aF,.bool] qvq):=
 cZ Qt zfk
def oy:aF.q:=((0,0,()),Y,(0,0,0,0,()),[],0,())
def cz:List aF.q->Int->aF.q×Bool
 |[],_=>(oy,Y)
 |s::r,d=>if eH s.1.1 s.1.2.1 d=Z then (s,Z)else cz r d
def wJ:Ct:=⟨[.d eK,.d i64],[aF,.bool],λx=>((cz x.1 x.2.1).1,(cz x.1 x.2.1).2,()),λ_=>[]⟩
def Sj:(l:List aF.q)->(d:Int)->(cz l d).2=Y->(cz l d).1=oy
 |[],_,_=>rfl
 |s::r,d,h=>by unfold cz at h |-;by_cases a:eH s.1.1 s.1.2.1 d=Z;rw[ufw a]at h;cases h;rw[ufx a]at h |-;exact Sj r d h
def qlo(l:List aF.q)(d:Int)(m:aF.q):eC vO l ((d,()),(m,()))=if (cz l d).2=Z then .inr ((Z,()),((cz l d).1,()))else .inl ((d,()),(m,())):=by
 induction l with
 |nil=>rfl
 |cons e r b=>by_cases h:eH e.1.1 e.1.2.1 d=Z;have a:(vO e ((d,()),(m,()))).get=.inr ((Z,()),(e,())):=ufw h;simp only[eC,a,cz,ufw h,if_true];have a:(vO e ((d,()),(m,()))).get=.inl ((d,()),(m,())):=ufx h;simp only[eC,a,cz,ufx h];exact b
def qln(l:List aF.q)(d:Int){a b:σ}{c:ap [.d .bool]×aF.q×Unit}:
  (if dV (if (cz l d).2=Z then (.inr ((Z,()),((cz l d).1,())):σ ⊕ (ap [.d .bool]×aF.q×Unit))else .inl a)=Z then ((oy,Y,()):aF.q×Bool×Unit)
   else ((e9 c (if (cz l d).2=Z then (.inr ((Z,()),((cz l d).1,())):σ ⊕ (ap [.d .bool]×aF.q×Unit))else .inl a)).2.1,(e9 c (if (cz l d).2=Z then (.inr ((Z,()),((cz l d).1,())):σ ⊕ (ap [.d .bool]×aF.q×Unit))else .inl a)).1.1,()))=((cz l d).1,(cz l d).2,()):=by
 cases h:(cz l d).2 with
 |true=>rfl
 |false=>rw[Sj l d h];rfl
def zn7:ag prog 59 wJ:=
 conv qvr _ _ (λw F x i f _=>by obtain⟨l,d,_⟩:=x;obtain⟨v,h,rfl,g,_⟩:=f;have a:(l.length:Int)<=9223372036854775807:=pg g;refine⟨⟨⟨rfl,ufc _,ub4 _,a⟩,rR (step:=vO) (λe s=>⟨λ_=>uT,λ_=>uT⟩) _ _,λ_=>uT,λ_=>uT⟩,?_⟩;have c:zn ((0,(l.length:Int),l,d,()),(oy,()))=_:=qlo l d oy;show(if dV (zn ((0,(l.length:Int),l,d,()),(oy,())))=Z then ((oy,Y,()):aF.q×Bool×Unit)else ((e9 Fi (zn ((0,(l.length:Int),l,d,()),(oy,())))).2.1,(e9 Fi (zn ((0,(l.length:Int),l,d,()),(oy,())))).1.1,()))=((cz l d).1,(cz l d).2,());rw[c];exact qln l d (b:=((d,()),(oy,()))))
def lx(h:aD.q):Bool:=(i9 h.2.2.1&&J (h.2.2.2.1.length<=2000))&&h.2.2.2.1.all λc=>fk c&&eH h.2.2.1.1.1 h.2.2.1.1.2.1 c.2.1
def Ke:Ct:=⟨[.d aD],[.bool],λx=>(lx x.1,()),λ_=>[]⟩
def qk1(p:T->σ->Bool)(l:List T)(s:σ):po p (λ_ s=>s) l s=l.all λe=>p e s:=by
 induction l with
 |nil=>rfl
 |cons e r a=>simp only[po,uek];rw[a]
abbrev gb:Type:=Bool×eV.q×List ar.q
def iu(s:aF.q):gb:=(s.2.1,s.2.2.1,s.2.2.2.1)
def zlo{a b:eV.q}:CN a b=Z↔a=b:=by obtain⟨g,i,k,l,_⟩:=a;constructor;intro h;simp only[CN,udc,ufj]at h;obtain⟨c,d,e,f,_⟩:=h;rw[c,d,e,f];intro h;cases h;simp[CN]
def Wy{a b:aF.q}:pX a b=Z↔iu a=iu b:=by unfold pX iu;simp only[udc,ufj,zlo,Pm,ueh]
def dv(c:Int->gb)(b:Int):Int->List aF.q->Prop
 |a,[]=>a=b
 |a,s::l=>s.1.1=a/\a<s.1.2.1/\s.2.2.2.2.1=(0:Int)/\(∀ d,a<=d->d<s.1.2.1->iu s=c d)/\(∀ t∈l.head?,iu s≠iu t)/\dv c b s.1.2.1 l
def dv.le{c:Int->gb}{b:Int}:{a:Int} -> {l:List aF.q}->dv c b a l->a<=b
 |a,[],h=>Int.le_of_eq h
 |a,s::l,h=>ue5 (ueu h.2.1) (dv.le h.2.2.2.2.2)
def dv.at_{c:Int->gb}{b:Int}{s:aF.q}{l:List aF.q}(h:dv c b a (s::l)):iu s=c a:=h.2.2.2.1 a (ufc a) h.2.1
def kU:List aF.q->aF.q->List aF.q
 |[],s=>[s]
 |[x],s=>if pX x s=Z then [((x.1.1,s.1.2.1,()),x.2)]else [x,s]
 |x::y::r,s=>x::kU (y::r) s
def zjy(s:aF.q):(y:aF.q)->(r:List aF.q)->∃ a b,kU (y::r) s=a::b/\iu a=iu y
 |y,[]=>by unfold kU;split;exact⟨_,_,rfl,rfl⟩;exact⟨_,_,rfl,rfl⟩
 |y,z::r=>⟨y,_,rfl,rfl⟩
def dv.push{w:Int->gb}{m n:Int}{s:aF.q}(b:s.1.1=m/\s.1.2.1=n/\s.2.2.2.2.1=(0:Int))(f:m<n)(g:∀ d,m<=d->d<n->iu s=w d):{a:Int} -> {l:List aF.q}->dv w m a l->dv w n a (kU l s)
 |a,[],h=>by have A:=h;subst A;refine⟨b.1,by rw[b.2.1];exact f,b.2.2,λd i k=>g d i (by rw[b.2.1]at k;exact k),λt c=>(by cases c),b.2.1⟩
 |a,[x],h=>by
  have v:=h.2.2.2.2.2;unfold kU;by_cases p:pX x s=Z;rw[ufw p];have o:=Wy.1 p;refine⟨h.1,?_,h.2.2.1,λd i k=>?_,λt c=>(by cases c),?_⟩;show a<s.1.2.1;rw[b.2.1];have i:=h.2.1;rw[v]at i;exact ue2 i f;have u:d<n:=by have:d<s.1.2.1:=k;rw[b.2.1]at this;exact this
  by_cases z:d<m;exact h.2.2.2.1 d i (by rw[v];exact z);exact o.trans (g d (ufm.1 z) u);exact b.2.1;rw[ufx p];have o:=λe=>p (Wy.2 e);refine⟨h.1,h.2.1,h.2.2.1,h.2.2.2.1,λt c=>?_,?_⟩;simp at c;subst c;exact o;rw[v];exact⟨b.1,by rw[b.2.1];exact f,b.2.2,λd i k=>g d i (by rw[b.2.1]at k;exact k),λt c=>(by cases c),b.2.1⟩
 |a,x::y::r,h=>by refine⟨h.1,h.2.1,h.2.2.1,h.2.2.2.1,λt c=>?_,dv.push b f g h.2.2.2.2.2⟩;obtain⟨C,B,e,o⟩:=zjy s y r;rw[e]at c;simp at c;subst c;rw[o];exact h.2.2.2.2.1 y (by simp)
def Bb(k:gb)(c:ay.q):gb:=
 if c.2.2.1=1 then (k.1,c.2.2.2.1,k.2.2)else if c.2.2.1=2 then (k.1,k.2.1,c.2.2.2.2.1)else if c.2.2.1=3 then (Y,k.2)else if c.2.2.1=4 then (Z,k.2)else k
def qpg(s:aF.q)(c:ay.q):iu (nZ s c)=Bb (iu s) c:=by unfold nZ Bb;split;rfl;split;rfl;split;rfl;split<;>rfl
def iz(d:Int):List ay.q->gb->gb
 |[],k=>k
 |c::l,k=>iz d l (if c.2.1>d then k else Bb k c)
def Nh(d:Int)(k:gb)(m:List ay.q):(l:List ay.q)->(k:gb)->iz d (l++m) k=iz d m (iz d l k)
 |[],k=>rfl
 |c::l,k=>Nh d k m l _
def Ww{d:Int}:{l:List ay.q}->(∀ c∈l,c.2.1>d)->(k:gb)->iz d l k=k
 |[],_,_=>rfl
 |c::l,h,k=>by unfold iz;rw[ufw (h c (by simp))];exact Ww (λx a=>h x (by simp[a])) k
def Gi{d b:Int}:{l:List ay.q}->(∀ c∈l,c.2.1<=d)->(∀ c∈l,c.2.1<=b)->(k:gb)->iz d l k=iz b l k
 |[],_,_,_=>rfl
 |c::l,h,e,k=>by unfold iz;rw[ufx (ufm.2 (h c (by simp))),ufx (ufm.2 (e c (by simp)))];exact Gi (λx a=>h x (by simp[a])) (λx a=>e x (by simp[a])) _
def rg(h:aD.q):List ay.q:=(bV h).map (cw h)
def qbq(h:aD.q)(d:Int):gb:=iz d (rg h) (Z,h.2.2.1.2.1,h.2.2.1.2.2.1)
def kC(a:aF.q)(out:List aF.q)(b:Int):List aF.q:=
 if a.1.1=b then out else kU out ((a.1.1,b,()),a.2)
def mc:List ay.q->aF.q->List aF.q->aF.q×List aF.q
 |[],a,b=>(a,b)
 |c::l,a,b=>mc l (nZ ((c.2.1,a.1.2.1,()),a.2) c) (kC a b c.2.1)
def Oe(h:aD.q):aF.q:=((h.2.2.1.1.1,0,()),Z,h.2.2.1.2.1,h.2.2.1.2.2.1,0,())
def ez(h:aD.q):List aF.q:=kC (mc (rg h) (Oe h) []).1 (mc (rg h) (Oe h) []).2 h.2.2.1.1.2.1
def qrd(s:aF.q)(c:ay.q):(nZ s c).1=s.1/\(nZ s c).2.2.2.2.1=s.2.2.2.2.1:=by unfold nZ;split;exact⟨rfl,rfl⟩;split;exact⟨rfl,rfl⟩;split;exact⟨rfl,rfl⟩;split<;>exact⟨rfl,rfl⟩
def Uk{k:Int->gb}{n:Int}{b:aF.q}{c:List aF.q}(h:dv k b.1.1 a c)(f:b.1.1<=n)(l:b.2.2.2.2.1=(0:Int))(i:∀ d,b.1.1<=d->d<n->iu b=k d):dv k n a (kC b c n):=by unfold kC;by_cases e:b.1.1=n;rw[ufw e,<- e];exact h;rw[ufx e];have g:=Int.lt_iff_le_and_ne.2 ⟨f,e⟩;exact dv.push (s:=((b.1.1,n,()),b.2)) ⟨rfl,rfl,l⟩ g i h
def VE{all:List ay.q}{k0:gb}{b:Int}(A:∀ c∈all,c.2.1<=b):(l p:List ay.q)->p++l=all->l.Pairwise (λx y=>x.2.1<=y.2.1)->(e:aF.q)->(g:List aF.q)->(∀ c∈p,c.2.1<=e.1.1)->(∀ c∈l,e.1.1<=c.2.1) ->
  e.1.1<=b->e.2.2.2.2.1=(0:Int)->iu e=iz e.1.1 p k0->dv (λd=>iz d all k0) e.1.1 a g ->
  dv (λd=>iz d all k0) b a (kC (mc l e g).1 (mc l e g).2 b)
 |[],p,f,_,e,g,k,_,o,t,r,w=>by rw[uds]at f;subst f;show dv (λd=>iz d p k0) b a (kC e g b);refine Uk w o t λd u v=>?_;rw[r];exact Gi k (λc h=>ue5 (k c h) u) k0
 |c::l,p,f,s,e,g,k,C,o,t,r,w=>by
  rw[uca]at s;have m:=C c (by simp);have z:dv (λd=>iz d all k0) c.2.1 a (kC e g c.2.1):=by
   refine Uk w m t λd u v=>?_;rw[r];rw[<- f,Nh d k0,Ww (l:=c::l) (λx i=>?_)];exact Gi k (λc h=>ue5 (k c h) u) k0;rcases uej.1 i with rfl|i
   exact v;exact Int.lt_of_lt_of_le v (s.1 x i)
  have B:=qrd ((c.2.1,e.1.2.1,()),e.2) c;have n:(nZ ((c.2.1,e.1.2.1,()),e.2) c).1.1=c.2.1:=by rw[B.1]
  refine VE A l (p++[c]) (by simp[f]) s.2 _ _ (λx i=>?_) (λx i=>?_) ?_ ?_ ?_ ?_;rw[n];rcases udt.1 i with i|i
  exact ue5 (k x i) m;simp at i;subst i;exact ufc _;rw[n];exact s.1 x i;rw[n];exact A c (by rw[<- f];simp);rw[B.2];exact t;rw[n,qpg,Nh _ k0];show Bb (iu e) c=iz c.2.1 [c] (iz c.2.1 p k0);simp only[iz];rw[ufx (Int.lt_irrefl _),r,Gi k (λx h=>ue5 (k x h) m)];rw[n];exact z
abbrev oG:Pt:=⟨68,0,⟨[(5,.d i64)],[.x 2 80 aD,.r 2 2 0,.x 3 24 bh,.r 3 3 0]⟩,⟨[],[.x 3 24 bh,.r 3 3 0]⟩,⟨[(4,.d .bool)],[]⟩⟩
abbrev vH:Type:=ap []×dj [.x 2 80 aD,.r 2 2 0,.x 3 24 bh,.r 3 3 0]
def zK(e:ay.q)(s:vH):Fr (vH ⊕ oG.R.X):=
 Jb (J (((List.length e.2.2.2.2.1):Int)>50)) (Jv (.inr ((Y,()),()))) (Jv (.inl ((),s.2.1,(s.2.2.1.1,()),())))
def nC(x:oG.M.X):Int×List ay.q×vH:=(x.1.1,x.2.1.2.2.2.1,x.1.2,x.2)
def Wd(x:oG.M.X):Prop:=True
def uO(s:vH):oG.E.X:=((),(s.2.2.1.1,()),())
def tM:vH:=(aY _,cf _)
def KZ:oG.R.X:=(aY _,cf _)
def zfd:af prog (.loop (au f42 0)) oG.M oG (FL zK nC Wd uO Rd.back tM KZ):=
 sQ aL (λ_ _=>.n .o) ay.j (λx=>((x.2.1.2.2.2.1.length:Nat):Int)) (λx s=>((I6.wrap (x.1.1+1),s.1),s.2)) (λ_ _=>rfl)
def oM(y:oG.M.X):vH ⊕ oG.R.X:=eC zK ((nC y).2.1.drop (nC y).1.toNat) (nC y).2.2
def YL(y:oG.M.X):Prop:=l6 zK ((nC y).2.1.drop (nC y).1.toNat) (nC y).2.2
abbrev oH:Pt:=⟨68,2,⟨[(6,.d i64)],[.x 3 24 bh,.r 3 3 0]⟩,⟨[],[]⟩,⟨[(4,.d .bool)],[]⟩⟩
abbrev vI:Type:=ap []×dj [.x 3 24 bh,.r 3 3 0]
def Ds(e:aU.q)(s:vI):Fr (vI ⊕ oH.R.X):=
 Jb (bif bif J (((List.length e.2.2.1):Int)>200)then Z else J (((List.length e.2.2.2.1):Int)>200)then Z else J (((List.length e.2.2.2.2.1):Int)>200)) (Jv (.inr ((Y,()),()))) (Jv (.inl ((),(s.2.1.1,()),())))
def sG(x:oH.M.X):Int×List aU.q×vI:=(x.1.1,x.2.1.1,x.1.2,x.2)
def We(x:oH.M.X):Prop:=True
def zij(s:vI):oH.E.X:=((),())
def qp7:vI:=(aY _,cf _)
def La:oH.R.X:=(aY _,cf _)
def zfe:af prog (.loop (au f42 1)) oH.M oH (FL Ds sG We zij Rd.back qp7 La):=
 sQ aL (λ_ _=>.n .o) aU.j (λx=>((x.2.1.1.length:Nat):Int)) (λx s=>((I6.wrap (x.1.1+1),s.1),s.2)) (λ_ _=>rfl)
def H2(y:oH.M.X):vI ⊕ oH.R.X:=eC Ds ((sG y).2.1.drop (sG y).1.toNat) (sG y).2.2
def YM(y:oH.M.X):Prop:=l6 Ds ((sG y).2.1.drop (sG y).1.toNat) (sG y).2.2
def qvi(x:ap [.d aD,.d bh]):Fr (aa [.bool]):=
 let a:=((0,()),x.1,(x.2.1.1,()),());let g:=oM a;let c:=((0,()),((uO (fq tM g)).2.1.1,()),());let b:=H2 ((0,()),((uO (fq tM (eC zK (List.drop (nC a).1.toNat (nC a).2.1) (nC a).2.2))).2.1.1,()),());Jb (bif bif J (((List.length x.1.2.2.2.1):Int)>60)then Z else J (((List.length x.2.1.1):Int)>100)then Z else J (((List.length x.1.2.2.1.2.2.1):Int)>50)) (Jv (Y,())) (Jd (InL (Wd a) (nC a)) (Jd (YL a) (Jb (dV g) (Jd (InL (We c) (sG c)) (Jd (YM c) (Jb (dV b) (Jv (Z,())) (Jv ((e9 La b).1.1,()))))) (Jv ((e9 KZ g).1.1,())))))
def qvj:ag prog 42 (bg [.d aD,.d bh] [.bool] qvi):=
 oc aL zfd zfe
def tX(c:ay.q):Bool:=J (c.2.2.2.2.1.length<=50)
def xz(v:aU.q):Bool:=J (v.2.2.1.length<=200)&&(J (v.2.2.2.1.length<=200)&&J (v.2.2.2.2.1.length<=200))
def pP(h:aD.q)(t:bh.q):Bool:=(J (h.2.2.2.1.length<=60)&&(J (t.1.length<=100)&&J (h.2.2.1.2.2.1.length<=50)))&&(h.2.2.2.1.all tX&&t.1.all xz)
def Ka:Ct:=⟨[.d aD,.d bh],[.bool],λx=>(pP x.1 x.2.1,()),λ_=>[]⟩
def ul(n:Nat)(k:Nat):J ((n:Int)>(k:Int))=!J (n<=k):=by rw[udy];simp only[ucv,ucu,uav];omega
def qsl(e:ay.q)(s:vH):(zK e s).get=if tX e=Z then .inl s else .inr ((Y,()),()):=by show(if J ((e.2.2.2.2.1.length:Int)>(50:Nat))=Z then _ else _)=_;rw[ul];unfold tX;cases J (e.2.2.2.2.1.length<=50)<;>rfl
def qyc(e:aU.q)(s:vI):(Ds e s).get=if xz e=Z then .inl s else .inr ((Y,()),()):=by show(if (bif bif J ((e.2.2.1.length:Int)>(200:Nat))then Z else J ((e.2.2.2.1.length:Int)>(200:Nat))then Z else J ((e.2.2.2.2.1.length:Int)>(200:Nat)))=Z then _ else _)=_;rw[ul,ul,ul];unfold xz;cases J (e.2.2.1.length<=200)<;>cases J (e.2.2.2.1.length<=200)<;>cases J (e.2.2.2.2.1.length<=200)<;>rfl
def Uj(l:List T)(s:σ):iZ (λ_ s=>s) l s=s:=by
 induction l with
 |nil=>rfl
 |cons e r a=>exact a
def qs8:ag prog 42 Ka:=
 conv qvj _ _ (λw F x G A _=>by
  obtain⟨h,t,_⟩:=x;obtain⟨v,C,rfl,B,E,D,rfl,u,_⟩:=A;have y:=aG.wf B.2.2;have p:=aG.wf u.2.2;have o:=yf y.2.2.2.1.1;have l:=yf p.1.1;have g:=tv qsl h.2.2.2.1 ((),(h,(t,())));rw[Js,Uj]at g;have a:oM ((0,()),(h,(t,())))=if h.2.2.2.1.all tX=Z then .inl ((),(h,(t,())))else .inr ((Y,()),()):=g
  have c:=tv qyc t.1 ((),(t,()));rw[Js,Uj]at c;have d:H2 ((0,()),(t,()))=if t.1.all xz=Z then .inl ((),(t,()))else .inr ((Y,()),()):=c
  have z:∀ s,YL s:=λs=>rR (step:=zK) (λe s=>⟨λ_=>uT,λ_=>uT⟩) _ _;have r:∀ s,YM s:=λs=>rR (step:=Ds) (λe s=>⟨λ_=>uT,λ_=>uT⟩) _ _;have k:(bif bif J ((h.2.2.2.1.length:Int)>(60:Nat))then Z else J ((t.1.length:Int)>(100:Nat))then Z else J ((h.2.2.1.2.2.1.length:Int)>(50:Nat)))=!(J (h.2.2.2.1.length<=60)&&(J (t.1.length<=100)&&J (h.2.2.1.2.2.1.length<=50))):=by rw[ul,ul,ul];cases J (h.2.2.2.1.length<=60)<;>cases J (t.1.length<=100)<;>cases J (h.2.2.1.2.2.1.length<=50)<;>rfl
  have f:dV (oM ((0,()),(h,(t,()))))=Z->(uO (fq tM (oM ((0,()),(h,(t,())))))).2.1=t:=by
   rw[a];cases h.2.2.2.1.all tX with
   |true=>exact λ_=>rfl
   |false=>exact λn=>(by cases n)
  have m:dV (oM ((0,()),(h,(t,()))))=Z->(((uO (fq tM (oM ((0,()),(h,(t,())))))).2.1.1.length:Int))<=9223372036854775807:=λn=>by rw[f n];exact l
  refine⟨⟨λ_=>uT,λ_=>⟨⟨uT,ufc _,ub4 _,o⟩,z _,λn=>⟨⟨uT,ufc _,ub4 _,m n⟩,r _,λ_=>uT,λ_=>uT⟩,λ_=>uT⟩⟩,?_⟩;show(if (bif bif J ((h.2.2.2.1.length:Int)>(60:Nat))then Z else J ((t.1.length:Int)>(100:Nat))then Z else J ((h.2.2.1.2.2.1.length:Int)>(50:Nat)))=Z then ((Y,()):Bool×Unit)else
   if dV (oM ((0,()),(h,(t,()))))=Z then (if dV (H2 ((0,()),((uO (fq tM (oM ((0,()),(h,(t,())))))).2.1,())))=Z then (Z,())else ((e9 La (H2 ((0,()),((uO (fq tM (oM ((0,()),(h,(t,())))))).2.1,())))).1.1,()))
   else ((e9 KZ (oM ((0,()),(h,(t,()))))).1.1,()))=(pP h t,())
  rw[k];unfold pP;by_cases b:h.2.2.2.1.all tX=Z;rw[ufw b]at a;rw[f (by rw[a];rfl),a,d,b];cases (J (h.2.2.2.1.length<=60)&&(J (t.1.length<=100)&&J (h.2.2.1.2.2.1.length<=50)))<;>cases t.1.all xz<;>rfl
  have i:h.2.2.2.1.all tX=false:=by simpa using b
  rw[a,i];cases (J (h.2.2.2.1.length<=60)&&(J (t.1.length<=100)&&J (h.2.2.1.2.2.1.length<=50)))<;>rfl)
def nL(a:Int):List dN.q->Int->Int
 |[],d=>d
 |b::r,d=>if b.1<a then nL a r d else b.2.1
def S3:Ct:=⟨[.d (.sl dN),.d i64],[i64],λx=>(nL x.2.1 x.1 10000,()),λ_=>[]⟩
def qa4:Code->Code
 |.seq _ (.scope c)=>c
 |_=>.skip
def Wt:Code->Code
 |.seq a _=>a
 |_=>.skip
def Eh:Code:=(f205.body.map qa4).getD .skip
def Sn:Code:=(f205.body.map Wt).getD .skip
def So:Code:=(findLabel Eh 0).getD .skip
def qE:LS:=⟨[(0,.d (.sl dN)),(1,.d i64)],[]⟩
def uZ:Pt:=⟨20,0,qE,⟨[],[]⟩,⟨[(4,.d i64)],[]⟩⟩
def Lz(x:qE.X):Fr uZ.Out:=
 match x with
 |((l,a,_),_)=>Jb ((l.length:Int)==0) (Jv (Rd.back ((10000,()),())))
  (Jd (0<=(0:Int)/\(0:Int)<l.length)
   (Jb (J ((l.getD (Int.toNat 0) dN.j).1<a))
    (Jd (0<=(U (1:Int)).getD 0/\(U (1:Int)).getD 0<=(none:Option Int).getD l.length/\(none:Option Int).getD l.length<=l.length)
     (Jv (Rd.next ((List.take ((none:Option Int).getD l.length-(U (1:Int)).getD 0).toNat (List.drop ((U (1:Int)).getD 0).toNat l),a,()),()))))
    (Jd (0<=(0:Int)/\(0:Int)<l.length) (Jv (Rd.back (((l.getD (Int.toNat 0) dN.j).2.1,()),()))))))
def Jg(x:qE.X):Fr uZ.Out:=Jv (.back ((nL x.1.2.1 x.1.1 10000,()),()))
def zmi:iU prog 0 Eh qE uZ Lz:=iU.of_run aL (bs:=0) rfl rfl rfl (λ_=>bm _ 0) (λx=>by kernel_rfl)
def zmj:iU prog 0 So qE uZ Lz:=iU.of_run aL (bs:=0) rfl rfl rfl (λ_=>bm _ 0) (λx=>by kernel_rfl)
def ql0 (l:List dN.q) (a:Int) (Q:uZ.Out->Prop) (c:Q (.back ((nL a l 10000,()),()))) :
  (Lz ((l,a,()),())).s7 λ
   |.next g=>True/\g.1.1.length<l.length/\(Jg g).s7 Q
   |.out y=>Q (.out y)
   |.back z=>Q (.back z)
   |.pan p=>Q (.pan p):=by
 cases l with
 |nil=>exact⟨λ_=>c,λh=>by cases h⟩
 |cons b r=>
  have f:(0:Int)<((b::r).length:Int):=by simp only[uc9];omega
  have i:(((b::r).length:Int)==0)=false:=by simp;omega
  refine⟨λh=>(by rw[i]at h;cases h),λ_=>⟨⟨ufc 0,f⟩,λh=>⟨⟨by decide,?_,ufc _⟩,uT,?_,?_⟩,λh=>⟨⟨ufc 0,f⟩,?_⟩⟩⟩;show(1:Int)<=((b::r).length:Int);omega;show(List.take (((b::r).length:Int)-1).toNat r).length<(b::r).length;rw[uc5];omega;show Q (.back ((nL a (List.take (((b::r).length:Int)-1).toNat r) 10000,()),()));have e:List.take (((b::r).length:Int)-1).toNat r=r:=ua3 (by simp);have d:=ucx h;rw[e];have:nL a (b::r) 10000=nL a r 10000:=ufw d;rw[<- this];exact c;have d:=uch h;have:nL a (b::r) 10000=b.2.1:=ufx d;rw[this]at c;exact c
def ql1:af prog (.scope Eh) qE uZ Jg:=
 iU.scope (n:=20) (id:=0) (N:=qE) (rest:=So) (by kernel_rfl) zmi zmj (inv:=λ_=>True) (μ:=λx=>x.1.1.length)
  (by rintro⟨⟨l,a,_⟩,_⟩ _ Q b;exact ql0 l a Q b)
  (λ_ _ _=>uT)
def ql2:ag prog 205 S3:=
 dz (VA (run:=vS (cQ prog eN 0 bK Sn 0) (uZ.han eN.Γ qE Jg)) (fn:=f205) (c:=.seq Sn (.scope Eh)) (ps:=[.d (.sl dN),.d i64]) (rs:=[i64])
  (fr:=λx=>Jv (nL x.2.1 x.1 10000,())) ([],0,()) (by kernel_rfl) (by kernel_rfl)
  (λE=>D6 (xl aL (bm _ 0)) (af.run aL rfl ql1)) (λx=>by kernel_rfl)) _ _ (λ_ _ _ _ _ _=>⟨uT,rfl⟩)
def Ck:aU.q:=(0,(0,0,0,0,()),[],[],[],0,())
def cE(a:Int):List aU.q->aU.q×Int
 |[]=>(Ck,7)
 |v::r=>if v.1<=a then (v,0)else cE a r
def Bt(T:Ty)(n:Nat)(x:ap [.d (.sl T)]):Fr (aa [.sl T]):=
 let a:=([]:List T.q);let b:=(a++x.1,());Jd (x.1=[] ->
   (Jb Z (Jv (a,())) (Jd (a.length+x.1.length<=maxLen/\(a.length+x.1.length)*n<=140737488355328) (Jv b))).ok /\
   (Jb Z (Jv (a,())) (Jd (a.length+x.1.length<=maxLen/\(a.length+x.1.length)*n<=140737488355328) (Jv b))).get =
    (Jb Y (Jv (a,())) (Jd (a.length+x.1.length<=maxLen/\(a.length+x.1.length)*n<=140737488355328) (Jv b))).get)
  (Jb Y (Jv (a,())) (Jd (a.length+x.1.length<=maxLen/\(a.length+x.1.length)*n<=140737488355328) (Jv b)))
def mK(T:Ty):Ct:=⟨[.d (.sl T)],[.sl T],λx=>(x.1,()),λx=>[x.1.length<=1000000]⟩
def KJ{T:Ty}(b:n<=1000){l:List T.q}(c:l.length<=1000000):(Bt T n (l,())).ok/\(Bt T n (l,())).get=(l,()):=by
 have a:([]:List T.q).length+l.length<=maxLen/\(([]:List T.q).length+l.length)*n<=140737488355328:=by refine⟨by simp;unfold maxLen;omega,?_⟩;have:(([]:List T.q).length+l.length)*n<=1000000*1000:=uef (by simp;omega) b;omega
 refine aw (λh=>?_) (aN rfl (aw a ⟨uT,rfl⟩));subst h;exact⟨⟨λ_=>uT,λh=>by cases h⟩,rfl⟩
def qom:ag prog 198 (mK dN):=
 dz (aT aL f198 (fr:=Bt dN 16)) _ _
  (λ_ _ x _ _ a=>KJ (by decide) a)
def qon:ag prog 199 (mK i64):=
 dz (aT aL f199 (fr:=Bt i64 8)) _ _
  (λ_ _ x _ _ a=>KJ (by decide) a)
def AW:ag prog 145 (mK ar):=
 dz (aT aL f145 (fr:=Bt ar 40)) _ _
  (λ_ _ x _ _ a=>KJ (by decide) a)
def kE(g:Int->Bool):List Int->Int->Option Int
 |[],_=>V
 |x::r,i=>if g x=Z then U i else kE g r (i+1)
abbrev Br:PT:=.fn [i64] [.bool]
def An:LS:=⟨[(0,.d aP),(1,Br),(7,.d i64),(8,.d i64)],[]⟩
def yG:Pt:=⟨19,0,An,⟨[],[]⟩,⟨[(4,.d i64)],[]⟩⟩
def U9(x:An.X):Fr yG.Out:=
 match x with
 |((l,g,n,i,_),_)=>Jb (J (i<n))
  (Jd (0<=i/\i<l.length)
   (Jb (g (l.getD i.toNat i64.j,())).1 (Jv (Rd.back ((i,()),())))
    (Jv (Rd.next ((l,g,n,I6.wrap (i+1),()),())))))
  (Jv (Rd.out ((),())))
def ww(l:List Int)(n i:Int):Prop:=0<=i/\i<=n/\n=l.length/\n<=9223372036854775807
def Rj(x:An.X):Fr yG.Out:=
 Jd (ww x.1.1 x.1.2.2.1 x.1.2.2.2.1) (Jb (kE (λn=>(x.1.2.1 (n,())).1) (x.1.1.drop x.1.2.2.2.1.toNat) x.1.2.2.2.1).isSome
   (Jv (.back (((kE (λn=>(x.1.2.1 (n,())).1) (x.1.1.drop x.1.2.2.2.1.toNat) x.1.2.2.2.1).getD (-1),()),()))) (Jv (.out ((),()))))
def zmr:af prog (au f258 0) An yG U9:=af.of_run aL (bs:=0) rfl rfl rfl (λ_=>bm _ 0) (λx=>by kernel_rfl)
def zb2 (l:List Int) (g:aa [i64]->aa [.bool]) (n i:Int) (c:ww l n i) (Q:yG.Out->Prop) (a:(Jb (kE (λn=>(g (n,())).1) (l.drop i.toNat) i).isSome (Jv (Rd.back (((kE (λn=>(g (n,())).1) (l.drop i.toNat) i).getD (-1),()),()))) (Jv (Rd.out ((),())))  : Fr yG.Out).s7 Q) :
  (U9 ((l,g,n,i,()),())).s7 λ
   |.next b=>ww b.1.1 b.1.2.2.1 b.1.2.2.2.1/\(b.1.2.2.1-b.1.2.2.2.1).toNat<(n-i).toNat/\(Rj b).s7 Q
   |.out y=>Q (.out y)
   |.back z=>Q (.back z)
   |.pan p=>Q (.pan p):=by
 obtain⟨x,A,t,u⟩:=c;subst t;refine⟨λh=>?_,λh=>?_⟩;have m:i<(l.length:Int):=ucx h;obtain⟨k,rfl⟩:∃ k:Nat,i=k:=⟨i.toNat,by omega⟩;have r:k<l.length:=by omega
 have s:l.getD (k:Int).toNat i64.j=l[k]:=by rw[show(k:Int).toNat=k by omega,uah,uaq r];rfl
 have w:I6.wrap ((k:Int)+1)=k+1:=IntWalk.i64_in _ (by omega);have v:l.drop (k:Int).toNat=l[k]::l.drop (k+1):=by exact(ual r)
 rw[v]at a;dsimp only[Fr.s7];rw[s,w];refine⟨⟨by omega,by omega⟩,λd=>?_,λd=>?_⟩;have:kE (λn=>(g (n,())).1) (l[k]::l.drop (k+1)) k=U (k:Int):=ufw d;rw[this]at a;exact a.1 rfl;have f:¬ (g (l[k],())).1=true:=by rw[d];decide
 have:kE (λn=>(g (n,())).1) (l[k]::l.drop (k+1)) k=kE (λn=>(g (n,())).1) (l.drop (k+1)) (k+1):=ufx f;rw[this]at a;have o:ww l l.length ((k:Int)+1):=⟨by omega,by omega,rfl,u⟩;refine⟨o,by omega,o,?_⟩;exact a;have m:¬ i<(l.length:Int):=uch h;have e:l.drop i.toNat=[]:=ua2 (by omega);rw[e]at a;exact a.2 rfl
def zdc:af prog (.loop (au f258 0)) An yG Rj:=by
 refine af.loop zmr (μ:=λx=>(x.1.2.2.1-x.1.2.2.2.1).toNat) ?_ (λx Q h=>h.1);rintro⟨⟨l,g,n,i,_⟩,_⟩ hinv Q hq;exact zb2 l g n i hinv Q hq.2
def Kf:Ct:=⟨[.d aP,Br],[i64],λx=>((kE (λn=>(x.2.1 (n,())).1) x.1 0).getD (-1),()),λ_=>[]⟩
def qzp:ag prog 258 Kf:=
 dz (cZ aL zdc (ps:=[.d aP,Br]) (fr:=λx=>Jd (ww x.1 x.1.length 0) (Jb (kE (λn=>(x.2.1 (n,())).1) x.1 0).isSome (Jv ((kE (λn=>(x.2.1 (n,())).1) x.1 0).getD (-1),())) (Jv (-1,()))))) _ _ (λw F x i c _=>by
  obtain⟨l,g,_⟩:=x;obtain⟨v,f,rfl,e,_⟩:=c;have a:=pg e;have b:ww l l.length 0:=⟨by omega,by omega,rfl,a⟩;refine aw b ?_;cases h:kE (λn=>(g (n,())).1) l 0 with
  |some k=>exact aV rfl ⟨uT,rfl⟩
  |none=>exact aN rfl ⟨uT,rfl⟩)
def Vb(g:Int->Bool):(l:List Int)->(i:Int)->0<=i->J ((kE g l i).getD (-1)>=0)=l.any g
 |[],i,_=>rfl
 |x::r,i,h=>by unfold kE;simp;split;rename_i a;rw[a];simpa using h;rename_i a;rw[Vb g r (i+1) (by omega)];simp at a;rw[a];rfl
def JM:Ct:=⟨[.d aP,Br],[.bool],λx=>(x.1.any λn=>(x.2.1 (n,())).1,()),λ_=>[]⟩
def qe2:Cx:=cx [(258,Kf)] []
def qe3:CxOK prog qe2:=aQ aH ⟨qzp,uT⟩ trivial
def qk6:ag prog 250 JM:=
 dz (aT qe3 f250 (fr:=λx=>Jv (J ((Kf.f (x.1,x.2.1,())).1>=0),())) (ps:=[.d aP,Br])) _ _
  (λ_ _ x _ _ _=>by obtain⟨l,g,_⟩:=x;exact⟨uT,ufv (Vb (λn=>(g (n,())).1) l 0 (ufc 0)) rfl⟩)
def Fu(n:Int):Bool:=bif J (n<0)then Z else J (n>100000)
def JZ:Ct:=⟨[.d i64],[.bool],λx=>(Fu x.1,()),λ_=>[]⟩
def qsi:ag prog 251 JZ:=
 dz (aT aL f251 (fr:=λx=>Jv (Fu x.1,())) (ps:=[.d i64])) _ _ (λ_ _ _ _ _ _=>⟨uT,rfl⟩)
def qsj(l:List Int):(!l.any Fu)=mU l:=by rw[List.not_any_eq_all_not];congr 1;funext n;unfold Fu;rw[udy];by_cases h:n<0;simp[h];omega;simp[h];omega
def qe4:Cx:=cx [(250,JM),(251,JZ)] []
def qe5:CxOK prog qe4:=aQ aH ⟨qk6,qsi,uT⟩ trivial
def qsk:ag prog 233 A0:=
 dz (aT qe5 f233 (fr:=λx=>Jd (∀ (y:aa [i64]),gN [i64] y->True) (Jv (!(JM.f (x.1,λy=>JZ.f (y.1,()),())).1,()))) (ps:=[.d aP])) _ _
  (λ_ _ x _ _ _=>by obtain⟨l,_⟩:=x;exact⟨⟨λ_ _=>uT,uT⟩,ufv (qsj l) rfl⟩)
def sN(v:aU.q):Bool:=
 J (1<=v.1/\v.1<=292194/\0<=v.2.2.2.2.2.1/\v.2.2.2.2.2.1<=1000000000000000/\v.2.2.1.length<=100/\1<=v.2.2.2.1.length/\v.2.2.2.1.length<=100/\v.2.2.2.2.1.length=8) &&
  (mU [v.2.1.1,v.2.1.2.1,v.2.1.2.2.1,v.2.1.2.2.2.1]&&(mU v.2.2.2.1&&(mU v.2.2.2.2.1&&Au v.2.2.1)))
def EE:Ct:=⟨[.d aU],[.bool],λx=>(sN x.1,()),λ_=>[]⟩
def qe6:Cx:=cx [(233,A0),(234,Eu),(198,mK dN),(199,mK i64)] []
def Qw:CxOK prog qe6:=aQ aH ⟨qsk,Sq,qom,qon,uT⟩ trivial
def D9(a b:Int):Bool:=bif bif bif J (a<1)then Z else J (a>292194)then Z else J (b<0)then Z else J (b>1000000000000000)
def DA(n z p:Nat):Bool:=bif bif bif J ((n:Int)>100)then Z else J ((z:Int)<1)then Z else J ((z:Int)>100)then Z else (p:Int) != 8
def Vv(x:ap [.d aU]):Fr (aa [.bool]):=
 Jb (D9 x.1.1 x.1.2.2.2.2.2.1) (Jv (Y,()))
  (Jb (DA x.1.2.2.1.length x.1.2.2.2.1.length x.1.2.2.2.2.1.length) (Jv (Y,()))
   (Jv (bif bif bif (A0.f ([x.1.2.1.1,x.1.2.1.2.1,x.1.2.1.2.2.1,x.1.2.1.2.2.2.1],())).1 then (A0.f (x.1.2.2.2.1,())).1 else Y then (A0.f (x.1.2.2.2.2.1,())).1 else Y then (Eu.f (x.1.2.2.1,())).1 else Y,())))
def zru(a b:Int)(n z p:Nat):(!(D9 a b || DA n z p))=J (1<=a/\a<=292194/\0<=b/\b<=1000000000000000/\n<=100/\1<=z/\z<=100/\p=8):=by
 have c:D9 a b=J (a<1\/a>292194\/b<0\/b>1000000000000000):=by unfold D9;simp;cases J (a<1)<;>cases J (a>292194)<;>cases J (b<0)<;>simp
 have d:DA n z p=J ((n:Int)>100\/(z:Int)<1\/(z:Int)>100\/(p:Int)≠8):=by unfold DA;simp;cases J ((n:Int)>100)<;>cases J ((z:Int)<1)<;>cases J ((z:Int)>100)<;>simp[bne,Bool.beq_eq_decide_eq]
 rw[c,d,udy];simp;omega
def zpu:ag prog 204 EE:=
 dz (aT Qw f204 (fr:=Vv)) _ _
  (λ_ _ x _ _ _=>by
   obtain⟨v,_⟩:=x;unfold sN;rw[<- zru];unfold Vv;cases a:D9 v.1 v.2.2.2.2.2.1 with
   |true=>exact aV rfl ⟨uT,rfl⟩
   |false=>
    refine aN rfl ?_;cases b:DA v.2.2.1.length v.2.2.2.1.length v.2.2.2.2.1.length with
    |true=>exact aV rfl ⟨uT,rfl⟩
    |false=>refine aN rfl ⟨uT,ufv ?_ rfl⟩;show(bif bif bif mU _ then mU _ else Y then mU _ else Y then Au _ else Y)=_;cases mU [v.2.1.1,v.2.1.2.1,v.2.1.2.2.1,v.2.1.2.2.2.1]<;>cases mU v.2.2.2.1<;>cases mU v.2.2.2.2.1<;>rfl)
def DB(v:aU.q):Prop:=v.2.2.1.length<=1000000/\v.2.2.2.1.length<=1000000/\v.2.2.2.2.1.length<=1000000
def qmi:Ct:=⟨[.d aU],[aU],λx=>(x.1,()),λx=>[DB x.1]⟩
def ziy:ag prog 133 qmi:=
 dz (aT Qw f133 (fr:=λx=>Jd (x.1.2.2.1.length<=1000000) (Jd (x.1.2.2.2.1.length<=1000000) (Jd (x.1.2.2.2.2.1.length<=1000000) (Jv (x.1,()))))) (ps:=[.d aU])) _ _
  (λ_ _ x _ _ a=>⟨⟨a.1,a.2.1,a.2.2,uT⟩,rfl⟩)
section
open Go.Shelf
attribute [local go_sem] Oper.semAt_some
def jO(f:Nat->Nat)(k:Nat):List Nat:=(List.range k).map f
def xG(f:Nat->Nat)(k:Nat):jO f (k+1)=jO f k++[f k]:=by simp[jO,ud2]
def FM(f:Nat->Nat)(k:Nat):(jO f k).length=k:=by simp[jO]
def qdw(c:Nat->Nat->Value)(k:Nat):Value:=.agg #[c k 0,c k 1,c k 2,c k 3,c k 4,c k 5,c k 6,c k 7,c k 8]
def qls (n:Nat) (hn:1<=n) (l Bs n₀ b off len cap:Nat) (c:Nat->Nat->Value) (hreach:len<=1000000) (A:Option Addr) (hA:0<len->A=some ⟨b,off,none⟩/\b<n₀) (J Jx:List (Fin len)->World->Prop)
  (hY:∀ pre (k:Fin len) W,J pre W->pre.length<len->YieldAt Fence.wide (n-1) prog l #[.int .i64 ((k.1:Nat):Int),qdw c k.1] W λe W'=>
   (e=.returned (.bool true)/\J (pre++[k]) W'/\cU n₀ Bs Bs W W')\/(e=.returned (.bool false)/\Jx (pre++[k]) W'))
  (W:World) (hBs:W.heap[Bs]?= some (.cells #[.slice A len cap] 22 (0,0))) (hc:∀ k j,k<len->j<9->W.cell? ⟨b,off+(k*9+j),none⟩=some (c k j)) (h0:J [] W) :
  CallsIn Fence.wide n prog 197 #[.func (.yield l) #[] #[],.pointer (some ⟨Bs,0,none⟩)] W λe W'=>(∃ v,e=.returned v) /\
   ((∃ ys:List (Fin len),ys.map Fin.val=jO (λj=>len-1-j) len/\J ys W')\/(∃ pre:List (Fin len),(∃ k,k<=len/\pre.map Fin.val=jO (λj=>len-1-j) k)/\Jx pre W')):=by
 have hro:Fence.wide.round=none:=rfl;refine callsIn_of_wp func197 rfl trivial ?_ hro;simp only[ntmps197,ucq,uc9,udm,Nat.reduceAdd,Nat.reduceSub,ubn,ubo,ucy,ubx,udn,uc4];have c0:=cn hBs 0
 gi_wp2
 gi_loopw [3] (λi wr=>∃ (k:Nat) (pre:List (Fin len)),k<=len/\i=.int .i64 ((len:Int)-1-k)/\pre.map Fin.val=jO (λj=>len-1-j) k/\J pre wr/\cU n₀ Bs Bs W wr)
  (λi _=>(intOf i+1).toNat)
 case atStart=>exact⟨0,[],ufh _,by simp,rfl,h0,cU.refl _ _ _ _⟩
 case round=>
  obtain⟨k,pre,hk,rfl,hpre,hJs,hnx⟩:=hrel;have e0:=cn (hnx.2.1.trans hBs) 0;by_cases hlt:k<len
  ·obtain⟨rfl,hb⟩:=hA (by omega);obtain⟨fn,tmps,assign,body,hy,hR⟩:=hY pre ⟨len-1-k,by omega⟩ wr hJs (by have:=ufu List.length hpre;rw[FM,ud3]at this;omega);have hcx:∀ j,j<9->wr.cell? ⟨b,off+(len-1-k)*9+j,none⟩=some (c (len-1-k) j):=λj hj=>by
    rw[uei];exact(hnx.1.cell hb).trans (hc _ j (by omega) hj)
   have x0:=hcx 0 (by omega);have x1:=hcx 1 (by omega);have x2:=hcx 2 (by omega);have x3:=hcx 3 (by omega);have x4:=hcx 4 (by omega);have x5:=hcx 5 (by omega);have x6:=hcx 6 (by omega);have x7:=hcx 7 (by omega);have x8:=hcx 8 (by omega);rw[uez]at x0;have ek:((len-1-k:Nat):Int)=(len:Int)-1-k:=by omega
   rw[ek]at hy;unfold qdw at hy
   gi_wp2
   refine hR.mono ?_;rintro e W3 (⟨rfl,hJ3,hk3⟩|⟨rfl,hJx3⟩)
   ·gi_wp2
    go_roundw
    case rel=>exact⟨k+1,pre++[⟨len-1-k,by omega⟩],by omega,by simp;omega,by rw[xG,udx,hpre];rfl,hJ3,hnx.trans hk3⟩
    case measure=>simp[intOf];omega
   ·gi_wp2
    refine ue3 (ue4 rfl _ _ _) rfl ?_;exact⟨⟨_,rfl⟩,.inr ⟨_,⟨k+1,by omega,by rw[xG,udx,hpre];rfl⟩,hJx3⟩⟩
  ·obtain rfl:k=len:=by omega
   gi_wp2
   go_end0
   exact⟨⟨_,rfl⟩,.inl ⟨_,hpre,hJs⟩⟩
end
end Go.Proofs.YtdadnmgajcfkfaaGreat
namespace Go.Ab
open Go Go.RowKit
open Go.Ab.Fr renaming val->Jv,need->Jd,br->Jb
def Ty.plain:Ty->Bool
 |.fm _=>Y
 |.ic _ _=>Y
 |.sl e=>e.plain&&J (0<e.size)
 |.pair a b=>a.plain&&b.plain
 |_=>Z
def Qg:{t:Ty} -> {x:t.q} -> {g:Nat->Value->Prop}->0<t.size->aG w F t x g->∃ j u,g j u
 |.int _,_,_,_,h=>⟨0,_,h.1⟩
 |.bool,_,_,_,h=>⟨0,_,h⟩
 |.str,_,_,_,h=>⟨0,_,h.1⟩
 |.sl _,_,_,_,h=>by obtain⟨A,c,d,_⟩:=h;exact⟨0,_,d⟩
 |.unit,_,_,h,_=>absurd h (by decide)
 |.pair a b,_,_,h,f=>by
  by_cases k:0<a.size;exact Qg k f.1;have l:0<b.size:=by simp only[Ty.size]at h;omega
  obtain⟨j,u,m⟩:=Qg l f.2;exact⟨_,u,m⟩
 |.fm _,_,_,_,h=>by obtain⟨r,i,n,d,_⟩:=h;exact⟨0,_,d⟩
 |.ic _ _,_,_,_,h=>by
  rcases h with ⟨o,u,_,e,_⟩|⟨_,e⟩
  exact⟨0,_,e⟩;exact⟨0,_,e⟩
 |.fc _,_,_,_,h=>by obtain⟨u,d,_⟩:=h;exact⟨0,_,d⟩
def K8{a:Addr}(h:w.cell? a=U u):∃ arr ty p,w.heap[a.block]?= U (.cells arr ty p):=by unfold World.cell? at h;split at h;rename_i arr ty p b;exact⟨arr,ty,p,b⟩;cases h
def aG.only{G:Nat->Prop}(f:∀ b,F b->(∃ arr ty p,w.heap[b]?= U (.cells arr ty p))->G b):{t:Ty} -> {x:t.q} -> {g:Nat->Value->Prop}->t.plain=Z->aG w F t x g->aG w G t x g
 |.int _,_,_,_,h=>h
 |.bool,_,_,_,h=>h
 |.str,_,_,_,h=>h
 |.sl e,_,_,d,h=>by
  obtain⟨A,c,n,o,r,s⟩:=h;simp only[Ty.plain,udc,ucu]at d;refine⟨A,c,n,o,r,λi x C=>?_⟩;obtain⟨k,v,z,m⟩:=s i x C;obtain⟨j,u,B⟩:=Qg d.2 m;have l:=K8 B;have y:(k.add (i*e.size+j)).block=k.block:=by unfold Addr.add;split<;>rfl
  rw[y]at l;exact⟨k,v,f _ z l,aG.only f d.1 m⟩
 |.unit,_,_,_,_=>trivial
 |.pair a b,_,_,d,h=>by simp only[Ty.plain,udc]at d;exact⟨aG.only f d.1 h.1,aG.only f d.2 h.2⟩
 |.fm _,_,_,d,_=>by cases d
 |.ic _ _,_,_,d,_=>by cases d
 |.fc _,_,_,_,h=>h
def bJ.only{G:Nat->Prop}(a:∀ b,F b->(∃ arr ty p,w.heap[b]?= U (.cells arr ty p))->G b){t:Ty}{x:t.q}(c:t.plain=Z)(h:bJ w F t x v):bJ w G t x v:=
 ⟨h.1,h.2.1,h.2.2.only a c⟩
end Go.Ab
namespace Go.Proofs.YtdadnmgajcfkfaaGreat
open Go Go.Ab Go.RowKit Go.Proofs Go.Shelf Tryz
open Go.Ab.Fr renaming val->Jv,need->Jd,br->Jb
section
attribute [local go_sem] Oper.semAt_some
structure VC where
 p:Nat->Int
 A:Nat->Option Addr
 l:Nat->Nat
 c:Nat->Nat
def iW(d:VC):Array Value:=#[.int .i64 (d.p 0),.int .i64 (d.p 1),.int .i64 (d.p 2),.int .i64 (d.p 3),.int .i64 (d.p 4),.slice (d.A 0) (d.l 0) (d.c 0),.slice (d.A 1) (d.l 1) (d.c 1),.slice (d.A 2) (d.l 2) (d.c 2),.int .i64 (d.p 5)]
def kr(d:VC):Value:=.agg (iW d)
def qdx{x:aU.q}(h:aG w F aU x g):∃ d:VC,(∀ j u,(iW d)[j]?= U u->g j u)/\d.p 0=x.1:=by
 obtain⟨r,⟨f,i,k,l,_⟩,⟨b,m,s,_⟩,⟨c,n,t,_⟩,⟨e,o,v,_⟩,y,_⟩:=h;refine⟨⟨λj=>match j with|0=>x.1|1=>x.2.1.1|2=>x.2.1.2.1|3=>x.2.1.2.2.1|4=>x.2.1.2.2.2.1|_=>x.2.2.2.2.2.1,λj=>match j with|0=>b|1=>c|_=>e,λj=>match j with|0=>x.2.2.1.length|1=>x.2.2.2.1.length|_=>x.2.2.2.2.1.length,λj=>match j with|0=>m|1=>n|_=>o⟩,λj u a=>?_,rfl⟩
 match j,a with
 |0,a=>cases a;exact r.1
 |1,a=>cases a;exact f.1
 |2,a=>cases a;exact i.1
 |3,a=>cases a;exact k.1
 |4,a=>cases a;exact l.1
 |5,a=>cases a;exact s
 |6,a=>cases a;exact t
 |7,a=>cases a;exact v
 |8,a=>cases a;exact y.1
 |j+9,a=>simp[iW]at a
def zrt{x:aU.q}(h:bJ w F aU x v):∃ d:VC,v=kr d/\d.p 0=x.1:=by obtain⟨e,rfl⟩:=h.2.1.1 rfl;have k:=h.1;obtain⟨d,g,f⟩:=qdx h.2.2;refine⟨d,?_,f⟩;congr 1;apply ufp;exact k;intro i a b;have:=g i (iW d)[i] (uam b);have c:e[i]?= U (iW d)[i]:=this;rw[uam a]at c;exact ud4 c
def zY:Array Value:=#[.int .i64 0,.int .i64 0,.int .i64 0,.int .i64 0,.int .i64 0,.slice V 0 0,.slice V 0 0,.slice V 0 0,.int .i64 0]
def RJ(F:Nat->Prop)(x:aU.q)(d:VC)(W e:World):Prop:=
 ∃ c,bJ e c aU x (kr d)/\∀ b,c b->(F b\/W.heap.size<=b)/\∃ a f p,e.heap[b]?= U (.cells a f p)
def ziw{x:aU.q}(k:∀ b,F b->b<w.heap.size)(i:Below w.heap.size w W)(s:bJ w F aU x v)(r:DB x):
  Calls prog 133 #[v] W λe w'=>∃ d,e=.returned (kr d)/\Below W.heap.size W w'/\RJ F x d W w':=by
 have g:=s.mono (λ_ h=>h) (λb h=>i.block b (k b h));refine(ziy.2 W F (x,()) [v] (λb h=>ucb (k b h) i.size) ⟨v,[],rfl,g,rfl⟩ r).mono ?_;rintro e w' ⟨u,l,rfl,c,y,m,n⟩;have a:=n;obtain⟨d,rfl,_⟩:=zrt a;exact⟨d,rfl,c,λb=>l b/\∃ f t p,w'.heap[b]?= U (.cells f t p),a.only (λb h o=>⟨h,o⟩) rfl,λb h=>⟨(m b h.1).1,h.2⟩⟩
structure AtI (w:World) (day:Int) (sv:Value) (fr:Nat->Int) (pre:List (Fin len)) (W:World):Prop where
 x3:Boxed W (w.heap.size+1) 3 (.int .i64 day)
 x4:W.heap[w.heap.size+2]?= some (.cells zY 190 (0,0))
 x5:Boxed W (w.heap.size+3) 38 (.int .i64 0)
 xs:Boxed W (w.heap.size+4) 22 sv
 bel:Below w.heap.size w W
 sz:w.heap.size+5<=W.heap.size
 no:∀ k∈pre,¬ fr k.1<=day
structure AtX (w:World) (F:Nat->Prop) (day:Int) (x:Nat->aU.q) (fr:Nat->Int) (c:Code) (pre:List (Fin len)) (W:World):Prop where
 ret:c=.ret
 res:∃ ini k d F',pre=ini++[k]/\(∀ k∈ini,¬ fr k.1<=day)/\fr k.1<=day/\W.heap[w.heap.size+2]?= some (.cells (iW d) 190 (0,0))/\bJ W F' aU (x k.1) (kr d)/\(∀ b,F' b->(F b\/w.heap.size<=b)/\∃ arr ty p,W.heap[b]?= some (.cells arr ty p))
 x5:Boxed W (w.heap.size+3) 38 (.int .i64 0)
 bel:Below w.heap.size w W
def tu{X i:World}{a:Option Nat}{p:Nat×Nat}(h:X.heap[b]?= U (.cells cs t p))(f:X.grownBy i a)(g:∀ r,a=U r->B<=r/\∃ o:Obj,X.heap[r]?= U o/\o.isCells=Y):i.heap[b]?= U (.cells cs t p):=
 (f.block b (uaf.1 h).1 (λe=>by obtain⟨_,o,c,d⟩:=g b e.symm;rw[h]at c;cases c;cases d)).trans h
def qll{i:Value}{d:Nat->Int}(f:w.heap.size<=B):OwnFrom B (λ(c:List (Fin len)) W=>AtI w day i d c W):=λc X l g h a b=>⟨ku h.x3 a b,tu h.x4 a b,ku h.x5 a b,ku h.xs a b,h.bel.grown a h.bel.size (λk e=>uep f (b k e).1),uep h.sz a.size,h.no⟩
def qlm{x:Nat->aU.q}{A:Nat->Int}(C:w.heap.size<=B)(c:Code):OwnFrom B (λ(i:List (Fin len)) W=>AtX w F day x A c i W):=λi X G E h f g=>by refine⟨h.ret,?_,ku h.x5 f g,h.bel.grown f h.bel.size (λk e=>uep C (g k e).1)⟩;obtain⟨n,k,d,s,t,u,v,y,z,o⟩:=h.res;refine⟨n,k,d,s,t,u,v,tu y f g,z.mono (λ_ h=>h) (λb m=>?_),λb m=>?_⟩;obtain⟨_,a,r,p,l⟩:=o b m;rw[l];exact tu l f g;obtain⟨D,a,r,p,l⟩:=o b m;exact⟨D,a,r,p,tu l f g⟩
def Qm(w0:Nat)(c:Nat->VC)(a:Nat->Nat->Act)(k:Nat)(d:Act)(W:World):Prop:=∃ b,w0<=b/\W.heap[b]?= U (.cells (iW (c k)) 190 (0,0))/\d=a k b
def qli{w0:Nat}{c:Nat->VC}{a:Nat->Nat->Act}(k:Nat)(d:Act):OwnFrom B (λ(_:Unit) W=>Qm w0 c a k d W):=λ_ X n m l h i=>by obtain⟨b,e,f,g⟩:=l;exact⟨b,e,tu f h i,g⟩
def qlu(n:Nat)(A:Option Addr)(b a:Nat)(w:World):
  CallsIn Fence.wide n prog 132 #[.slice A b a] w λe w'=>e=.returned (.func (.func 197) #[] #[.pointer (U ⟨w.heap.size,0,V⟩)])/\w'=w.alloc (.cells #[.slice A b a] 22):=by
 refine callsIn_of_wp func132 rfl trivial ?_ rfl;simp only[ntmps132,ucq,uc9,udm,Nat.reduceAdd,Nat.reduceSub,ubn,ubo,ucy,ubx,udn,uc4]
 gi_wp2
 go_ret
 exact⟨rfl,rfl⟩
def qek(w:World)(F:Nat->Prop)(a:Int)(x:Nat->aU.q)(f:Nat->Int)(c:Nat)(e:Ending)(h:World):Prop:=
 (e=.returned (.tuple #[.agg zY,.int .i64 7])/\∀ k,k<c->¬ f k<=a) \/
 ∃ k d g,k<c/\f k<=a/\(∀ j,k<j->j<c->¬ f j<=a)/\e=.returned (.tuple #[kr d,.int .i64 0])/\bJ h g aU (x k) (kr d)/\(∀ b,g b->(F b\/w.heap.size<=b)/\b<h.heap.size)
def qba{v s p n l i f d b:Value}(h:W.heap[B]?= U (.cells #[v,s,p,n,l,i,f,d,b] t (0,0)))(a c e g k m o r u:Value):
  (W.setCells B 0 [a,c,e,g,k,m,o,r,u]).heap[B]?= U (.cells #[a,c,e,g,k,m,o,r,u] t (0,0)):=by
 have w:=uc1 W B 0 _ t a h;rw[show(#[v,s,p,n,l,i,f,d,b]:Array Value).setIfInBounds 0 a = #[a,s,p,n,l,i,f,d,b] from rfl]at w;have x:=uc1 _ B 1 _ t c w;rw[show(#[a,s,p,n,l,i,f,d,b]:Array Value).setIfInBounds 1 c = #[a,c,p,n,l,i,f,d,b] from rfl]at x;have y:=uc1 _ B 2 _ t e x;rw[show(#[a,c,p,n,l,i,f,d,b]:Array Value).setIfInBounds 2 e = #[a,c,e,n,l,i,f,d,b] from rfl]at y;have z:=uc1 _ B 3 _ t g y;rw[show(#[a,c,e,n,l,i,f,d,b]:Array Value).setIfInBounds 3 g = #[a,c,e,g,l,i,f,d,b] from rfl]at z;have A:=uc1 _ B 4 _ t k z;rw[show(#[a,c,e,g,l,i,f,d,b]:Array Value).setIfInBounds 4 k = #[a,c,e,g,k,i,f,d,b] from rfl]at A;have C:=uc1 _ B 5 _ t m A;rw[show(#[a,c,e,g,k,i,f,d,b]:Array Value).setIfInBounds 5 m = #[a,c,e,g,k,m,f,d,b] from rfl]at C;have D:=uc1 _ B 6 _ t o C;rw[show(#[a,c,e,g,k,m,f,d,b]:Array Value).setIfInBounds 6 o = #[a,c,e,g,k,m,o,d,b] from rfl]at D;have E:=uc1 _ B 7 _ t r D;rw[show(#[a,c,e,g,k,m,o,d,b]:Array Value).setIfInBounds 7 r = #[a,c,e,g,k,m,o,r,b] from rfl]at E;have F:=uc1 _ B 8 _ t u E;exact F
def HG{k:Nat}(h:k≠B):(a:List Value)->(o:Nat)->(W:World)->(W.setCells B o a).heap[k]?= W.heap[k]?
 |[],_,_=>rfl
 |v::r,o,W=>(HG h r (o+1) _).trans (uck W _ k v h)
def Pn(h:n<=B):(a:List Value)->(o:Nat)->(W:World)->Below n W (W.setCells B o a)
 |[],_,W=>ufk n W
 |v::r,o,W=>((ufk n W).setCell h v).trans (Pn h r (o+1) _)
def Po:(a:List Value)->(o:Nat)->(W:World)->KeepsOthers W (W.setCells B o a)
 |[],_,W=>KeepsOthers.refl W
 |v::r,o,W=>(KeepsOthers.setCell W _ v).trans (Po r (o+1) _)
def za3(h:Below W.heap.size W W'):KeepsFrom B W W':=
 ⟨h.size,λk o _ a _=>(h.block k (uaf.1 a).1).trans a⟩
def Sk{R:Ending->World->Prop}{D z:Nat}{l m p s t u v w x y A B C E F G H a b c d e f g h i k:Value}{n:Int}(z4:W.heap[z+2]?= U (.cells #[l,m,p,s,t,u,v,w,x] 190 (0,0)))(z5:Boxed W (z+3) 38 (.int .i64 n))(L:W.heap[D]?= U (.deferred (U [])))(hD:z+5<=D)(M:R (.returned (.tuple #[.agg #[l,m,p,s,t,u,v,w,x],.int .i64 n])) (W.putObj D (.deferred V))):
  bodyPostM Fence.wide 8 prog f75 R .ret { tmps:=#[y,A,B,C,.pointer (U ⟨z+1+1,0,V⟩),.pointer (U ⟨z+1+1+1,0,V⟩),E,F,G,H,a,b,c,d,e,f,g,h,i,k],defers:=[{ target:=.collected D,args:=#[] }] } W:=by
 have N:=(World.putObj_heap_other (r:=D) (o:=.deferred V) (by omega)).trans z4;have O:=(World.putObj_heap_other (r:=D) (o:=.deferred V) (by omega)).trans z5;obtain⟨P,Q,S,T,u4,u5,u6,u7,u8⟩:=uM λj _=>cn N j;have K:=cn O 0;refine⟨by simp,.inl ⟨_,_,rfl,run_takeDeferred L,?_⟩⟩;refine⟨.tuple #[.agg #[l,m,p,s,t,u,v,w,x],.int .i64 n],?_,M⟩;simp[results,results75,go_sem,P,Q,S,T,u4,u5,u6,u7,u8,K]
def qlp(b H a t:Nat)(i:Int)(c:Nat->VC)(x:Nat->aU.q)(F:Nat->Prop)(w:World)(hlen:a<=1000000)(A:Option Addr)(hA:0<a->A=U ⟨b,H,V⟩/\b<w.heap.size)(hbF:∀ q,F q->q<w.heap.size)(hc:∀ k j u,k<a->(iW (c k))[j]?= U u->w.cell? ⟨b,H+(k*9+j),V⟩=U u)(z:∀ k W,k<a->Below w.heap.size w W->Calls prog 133 #[kr (c k)] W λe w'=>∃ d,e=.returned (kr d)/\Below W.heap.size W w'/\RJ F (x k) d W w'):
  CallsIn Fence.wide 8 prog 75 #[.agg #[.slice A a t],.int .i64 i] w λe w'=>qek w F i x (λk=>(c k).p 0) a e w'/\Below w.heap.size w w':=by
 refine callsIn_of_wp_marks func75 rfl trivial ?_ rfl;simp only[ntmps75,ucq,uc9,udm,Nat.reduceAdd,Nat.reduceSub,ubn,ubo,ucy,ubx,udn,uc4]
 gi_wp2_with (refine⟨uT,?_⟩;gi_at_call 132;refine(qlu _ _ _ _ _).mono ?_;rintro e w' ⟨rfl,rfl⟩)
 let L:List Obj:=[.cells #[.slice A a t] 24,.cells #[.int .i64 i] 3,.cells zY 190,.cells #[.int .i64 0] 38,.cells #[.slice A a t] 22]
 obtain⟨R,hsz,g⟩:=wB L w;show Code.wpIn _ _ _ _ _ _ (mG w L);generalize mG w L=W0 at *;replace hsz:W0.heap.size=w.heap.size+5:=hsz;have q4:=g 4 _ rfl;have hI0:AtI w i (.slice A a t) (λk=>(c k).p 0) ([]:List (Fin a)) W0:=⟨g 1 _ rfl,g 2 _ rfl,g 3 _ rfl,q4,R,by omega,λk hk=>by cases hk⟩;refine wpIn_rangeFunc_ownH rfl (by omega) (gf:=197) (lb:=#[.pointer (U ⟨w.heap.size+1+1+1+1,0,V⟩)]) rfl trivial (enters_of func197 (by kernel_rfl) rfl)
  (α:=Fin a) (encs:=λ(k:Fin a)=>#[.int .i64 ((k.1:Nat):Int),kr (c k.1)]) (Kp:=cU w.heap.size (w.heap.size+4) (w.heap.size+4)) (S:=λys=>ys.map Fin.val=jO (λj=>a-1-j) a) (Sp:=λs=>∃ k,k<=a/\s.map Fin.val=jO (λj=>a-1-j) k) (N:=a) (w0:=W0)
  (λl J Jx W hW _ _ hY h0=>qls 7 (by omega) l (w.heap.size+4) w.heap.size b H a t (λk j=>(iW (c k)).getD j undef) hlen A hA J Jx hY W ((hW.block _ (by omega)).trans q4) (λk j hk hj=>have hb:=(hA (by omega)).2;((hW.mono (by omega)).cell (p:=⟨b,H+(k*9+j),V⟩) hb).trans ((R.cell (p:=⟨b,H+(k*9+j),V⟩) hb).trans (hc k j _ hk (by match j,hj with|0,_|1,_|2,_|3,_|4,_|5,_|6,_|7,_|8,_=>rfl)))) h0)
  (λh k=>h.trans k) (λW l o o' hl ho hoc how=>⟨belowK_b (w:=w) (ufb _) W l o o' (by omega) ho hoc how,World.putObj_heap_other (by omega),World.putObj_heap_other (by omega)⟩) (ufk _ _) (λ_=>rfl)
  (λs W=>AtI w i (.slice A a t) (λk=>(c k).p 0) s W)
  (λcd s W=>AtX w F i x (λk=>(c k).p 0) cd s W)
  (qll (by omega)) (qlm (by omega)) hI0
  (λk a' W=>Qm W0.heap.size c (λk Bx=>{ tmps:=#[.agg #[.slice A a t],.int .i64 i,.pointer (U ⟨w.heap.size,0,V⟩),.pointer (U ⟨w.heap.size+1,0,V⟩),.pointer (U ⟨w.heap.size+1+1,0,V⟩),.pointer (U ⟨w.heap.size+1+1+1,0,V⟩),undef,.pointer (U ⟨Bx,0,V⟩),
   .pointer (U ⟨w.heap.size,0,V⟩),.slice A a t,.func (.func 197) #[] #[.pointer (U ⟨w.heap.size+1+1+1+1,0,V⟩)],.int .i64 (k:Int),kr (c k),undef,undef,undef,undef,undef,undef,undef],defers:=[] }) k.1 a' W)
  (λk a'=>qli k.1 a') ?assign ?body ?done ?stop
 case assign=>
  rintro l s ⟨k,P⟩ W K f hK;unfold kr iW
  gi_wp2
  have hsz1:=f.sz;have hB:=(ufk w.heap.size W).alloc (by have:=f.bel.size;omega) (.cells (iW (c k)) 190);exact hK _ _ ((KeepsOthers.alloc _ _).from _) (cU.below ((ufk _ W).alloc (ufb _) _) f.bel.size (by omega) (by omega))
   ⟨f.x3.alloc _,(udb _ _ _ (by omega)).trans f.x4,f.x5.alloc _,f.xs.alloc _,f.bel.alloc f.bel.size _,by simp;omega,f.no⟩ ⟨W.heap.size,by omega,World.alloc_heap_new W _,rfl⟩
 case body=>
  rintro l s ⟨k,P⟩ a' W hl ⟨r,hr⟩ f ⟨Bx,hBx,bX,rfl⟩ hlt;have bX':=bX;unfold iW at bX';obtain⟨y0,y1,y2,y3,y4,y5,y6,y7,y8⟩:=uM λj _=>cn bX' j;simp at y0 y1 y2 y3 y4 y5 y6 y7 y8;have c3:=f.x3.cell;have C:=z k W P f.bel;unfold kr iW at C;clear bX' hr hc z
  gi_wp2
  refine⟨uT,?_⟩;refine(CallsIn.inRound l (callsIn_wide.2 C)).mono ?_;rintro e v ⟨d,rfl,M,hres⟩;have hsz1:=f.sz;have Q:=(M.block (w.heap.size+2) (by omega)).trans f.x4;have z5:v.heap[w.heap.size+3]?= _:=(M.block (w.heap.size+3) (by omega)).trans f.x5;unfold zY at Q;obtain⟨u0,u1,u2,u3,u4,u5,u6,u7,u8⟩:=uM λj _=>cn Q j;simp at u0 u1 u2 u3 u4 u5 u6 u7 u8;have ff:∀ j,v.frozen? ⟨w.heap.size+2,j,V⟩=false:=λj=>by simp[World.frozen?,Q]
  have g5:=cn z5 0;have h5:v.frozen? ⟨w.heap.size+3,0,V⟩=false:=by simp[World.frozen?,z5]
  gi_wp2
  have y:(c k).p 0<=i:=by assumption
  have s4:=qba Q (.int .i64 (d.p 0)) (.int .i64 (d.p 1)) (.int .i64 (d.p 2)) (.int .i64 (d.p 3)) (.int .i64 (d.p 4)) (.slice (d.A 0) (d.l 0) (d.c 0)) (.slice (d.A 1) (d.l 1) (d.c 1)) (.slice (d.A 2) (d.l 2) (d.c 2)) (.int .i64 (d.p 5));have s5:Boxed (v.setCells (w.heap.size+2) 0 [.int .i64 (d.p 0),.int .i64 (d.p 1),.int .i64 (d.p 2),.int .i64 (d.p 3),.int .i64 (d.p 4),.slice (d.A 0) (d.l 0) (d.c 0),.slice (d.A 1) (d.l 1) (d.c 1),.slice (d.A 2) (d.l 2) (d.c 2),.int .i64 (d.p 5)]) (w.heap.size+3) 38 (.int .i64 0):=(HG (by omega) _ _ _).trans z5;have kk:=Po (B:=w.heap.size+2) [.int .i64 (d.p 0),.int .i64 (d.p 1),.int .i64 (d.p 2),.int .i64 (d.p 3),.int .i64 (d.p 4),.slice (d.A 0) (d.l 0) (d.c 0),.slice (d.A 1) (d.l 1) (d.c 1),.slice (d.A 2) (d.l 2) (d.c 2),.int .i64 (d.p 5)] 0 v;have bb:=Pn (B:=w.heap.size+2) (n:=w.heap.size) (by omega) [.int .i64 (d.p 0),.int .i64 (d.p 1),.int .i64 (d.p 2),.int .i64 (d.p 3),.int .i64 (d.p 4),.slice (d.A 0) (d.l 0) (d.c 0),.slice (d.A 1) (d.l 1) (d.c 1),.slice (d.A 2) (d.l 2) (d.c 2),.int .i64 (d.p 5)] 0 v;have oo:∀ q,q≠w.heap.size+2->(v.setCells (w.heap.size+2) 0 [.int .i64 (d.p 0),.int .i64 (d.p 1),.int .i64 (d.p 2),.int .i64 (d.p 3),.int .i64 (d.p 4),.slice (d.A 0) (d.l 0) (d.c 0),.slice (d.A 1) (d.l 1) (d.c 1),.slice (d.A 2) (d.l 2) (d.c 2),.int .i64 (d.p 5)]).heap[q]?= v.heap[q]? := λq g=>HG g _ _ _;show KeepsFrom _ W ((v.setCells (w.heap.size+2) 0 [.int .i64 (d.p 0),.int .i64 (d.p 1),.int .i64 (d.p 2),.int .i64 (d.p 3),.int .i64 (d.p 4),.slice (d.A 0) (d.l 0) (d.c 0),.slice (d.A 1) (d.l 1) (d.c 1),.slice (d.A 2) (d.l 2) (d.c 2),.int .i64 (d.p 5)]).setCell ⟨w.heap.size+3,0,V⟩ (.int .i64 0))/\AtX w F i x (λk=>(c k).p 0) .ret (s++[⟨k,P⟩]) ((v.setCells (w.heap.size+2) 0 [.int .i64 (d.p 0),.int .i64 (d.p 1),.int .i64 (d.p 2),.int .i64 (d.p 3),.int .i64 (d.p 4),.slice (d.A 0) (d.l 0) (d.c 0),.slice (d.A 1) (d.l 1) (d.c 1),.slice (d.A 2) (d.l 2) (d.c 2),.int .i64 (d.p 5)]).setCell ⟨w.heap.size+3,0,V⟩ (.int .i64 0));generalize v.setCells (w.heap.size+2) 0 [.int .i64 (d.p 0),.int .i64 (d.p 1),.int .i64 (d.p 2),.int .i64 (d.p 3),.int .i64 (d.p 4),.slice (d.A 0) (d.l 0) (d.c 0),.slice (d.A 1) (d.l 1) (d.c 1),.slice (d.A 2) (d.l 2) (d.c 2),.int .i64 (d.p 5)]=W2 at *;obtain⟨F',hF1,hF2⟩:=hres;have bel2:Below w.heap.size w W2:=(f.bel.trans (M.mono f.bel.size)).trans bb;have hne:∀ q,F' q->q≠w.heap.size+2/\q≠w.heap.size+3:=λq g=>by
   have hs0:=f.sz;rcases(hF2 q g).1 with h|h
   have:=hbF q h;omega;omega
  have G:∀ q,F' q->(W2.setCell ⟨w.heap.size+3,0,V⟩ (.int .i64 0)).heap[q]?= v.heap[q]? := λq g=>(uck _ _ q _ (hne q g).2).trans (oo q (hne q g).1);refine⟨(za3 M).trans ((kk.trans (KeepsOthers.setCell _ _ _)).from _),rfl,⟨s,⟨k,P⟩,d,F',rfl,f.no,y,(uck _ _ _ _ (by show w.heap.size+2≠w.heap.size+3;omega)).trans s4,hF1.mono (λ_ h=>h) G,λq g=>?_⟩,s5.set _,bel2.setCell (p:=⟨w.heap.size+3,0,V⟩) (by show w.heap.size<=w.heap.size+3;omega) _⟩;obtain⟨q1,T,ty,p,q2⟩:=hF2 q g;exact⟨q1.elim .inl (λh=>.inr (uep f.bel.size h)),T,ty,p,(G q g).trans q2⟩;have y:¬ (c k).p 0<=i:=by simp_all
  exact⟨KeepsFrom.refl _ _,cU.refl _ _ _ _,f.x3,f.x4,f.x5,f.xs,f.bel,f.sz,λq g=>(udt.1 g).elim (f.no q) (λe=>by simp at e;subst e;exact y)⟩
 case done=>
  rintro D zs W hD hzs f hK;have Q:=f.x4;have z5:W.heap[w.heap.size+3]?= _:=f.x5;unfold zY at Q;obtain⟨u0,u1,u2,u3,u4,u5,u6,u7,u8⟩:=uM λj _=>cn Q j;simp at u0 u1 u2 u3 u4 u5 u6 u7 u8;have ff:∀ j,W.frozen? ⟨w.heap.size+2,j,V⟩=false:=λj=>by simp[World.frozen?,Q]
  have g5:=cn z5 0;have h5:W.frozen? ⟨w.heap.size+3,0,V⟩=false:=by simp[World.frozen?,z5]
  clear z hc
  gi_wp2
  have s4:=qba Q (.int .i64 0) (.int .i64 0) (.int .i64 0) (.int .i64 0) (.int .i64 0) (.slice V 0 0) (.slice V 0 0) (.slice V 0 0) (.int .i64 0);have s5:Boxed (W.setCells (w.heap.size+2) 0 [.int .i64 0,.int .i64 0,.int .i64 0,.int .i64 0,.int .i64 0,.slice V 0 0,.slice V 0 0,.slice V 0 0,.int .i64 0]) (w.heap.size+3) 38 (.int .i64 0):=(HG (by omega) _ _ _).trans z5;have kk:=(Po (B:=w.heap.size+2) [.int .i64 0,.int .i64 0,.int .i64 0,.int .i64 0,.int .i64 0,.slice V 0 0,.slice V 0 0,.slice V 0 0,.int .i64 0] 0 W).same D _ hK rfl;have bb:=f.bel.trans (Pn (B:=w.heap.size+2) (n:=w.heap.size) (by omega) [.int .i64 0,.int .i64 0,.int .i64 0,.int .i64 0,.int .i64 0,.slice V 0 0,.slice V 0 0,.slice V 0 0,.int .i64 0] 0 W);have kk':=(KeepsOthers.setCell (W.setCells (w.heap.size+2) 0 [.int .i64 0,.int .i64 0,.int .i64 0,.int .i64 0,.int .i64 0,.slice V 0 0,.slice V 0 0,.slice V 0 0,.int .i64 0]) ⟨w.heap.size+3,0,V⟩ (.int .i64 7)).same D _ kk rfl;have bb':=bb.setCell (p:=⟨w.heap.size+3,0,V⟩) (by show w.heap.size<=w.heap.size+3;omega) (.int .i64 7);refine Sk ((uck _ _ _ _ (by show w.heap.size+2≠w.heap.size+3;omega)).trans s4) (s5.set (.int .i64 7)) kk' (by omega) ⟨.inl ⟨rfl,λk hk=>?_⟩,bb'.trans (belowK_b (w:=w) (ufb _) _ D _ _ (by omega) kk' rfl rfl)⟩;have hm:k∈zs.map Fin.val:=by rw[hzs];exact ue8.2 ⟨a-1-k,uea.2 (by omega),by show a-1-(a-1-k)=k;omega⟩
  obtain⟨q,g,rfl⟩:=ue8.1 hm;exact f.no q g
 case stop=>
  rintro D cd s W hD ⟨m,hm,E⟩ h hK;obtain rfl:=h.ret
  gi_wp2
  obtain⟨ini,k,d,F',e1,e2,e3,e4,e5,e6⟩:=h.res;refine Sk e4 h.x5 hK (by omega) ⟨.inr ⟨k.1,d,F',k.2,e3,λj hj1 hj2=>?_,rfl,?_,λq g=>?_⟩,h.bel.trans (belowK_b (w:=w) (ufb _) _ D _ _ (by omega) hK rfl rfl)⟩;subst e1;have hl:=ufu List.length E;rw[FM,ud3,ub6]at hl;obtain rfl:m=ini.length+1:=by simpa using hl.symm
  rw[xG,udx]at E;obtain⟨h2,h3⟩:=List.append_inj' E rfl;have hlast:k.1=a-1-ini.length:=by simpa using h3
  have hin:j∈(ini.map Fin.val):=by rw[h2];exact ue8.2 ⟨a-1-j,uea.2 (by omega),by show a-1-(a-1-j)=j;omega⟩
  obtain⟨q,g,rfl⟩:=ue8.1 hin;exact e2 q g;refine e5.mono (λ_ h=>h) (λq g=>?_);obtain⟨_,T,ty,p,O⟩:=e6 q g;exact World.putObj_heap_other (λe=>by subst e;rw[hK]at O;cases O);obtain⟨h1,T,ty,p,O⟩:=e6 q g;refine⟨h1,?_⟩;have:=(uaf.1 O).1;simpa[World.putObj]using this
end
section
def zrv{l:List aU.q}(h:aG w F (.sl aU) l (λ_ u=>u=v)):
  ∃ (A:Option Addr) (f:Nat) (b off:Nat) (c:Nat->VC),v=.slice A l.length f/\(0<l.length->A=U ⟨b,off,V⟩/\F b) /\
   (∀ k j u,k<l.length->(iW (c k))[j]?= U u->w.cell? ⟨b,off+(k*9+j),V⟩=U u)/\∀ k x,l[k]?= U x->(c k).p 0=x.1/\bJ w F aU x (kr (c k)):=by
 obtain⟨A,f,G,W,H,D⟩:=h;by_cases M:0<l.length;obtain⟨m,K,P,Q⟩:=D 0 l[0] (uaq M);have g:m.spot=none:=by
  have a:w.cell? (m.add (0*aU.size+0))=U (.int .i64 l[0].1):=Q.1.1;have R:m.add (0*aU.size+0)=m:=by simp[Addr.add]
  rw[R]at a;unfold World.cell? at a;split at a;split at a;cases a;rename_i g;cases B:m.spot with
  |none=>rfl
  |some _=>rw[B]at g;exact absurd rfl g
  cases a
 obtain⟨b,off,sp⟩:=m;subst g;have o:∀ k,∃ d:VC,∀ x,l[k]?= U x->(∀ j u,(iW d)[j]?= U u->w.cell? ⟨b,off+(k*9+j),V⟩=U u)/\d.p 0=x.1/\bJ w F aU x (kr d):=by
  intro k;cases z:l[k]? with
  |none=>exact⟨⟨λ_=>0,λ_=>V,λ_=>0,λ_=>0⟩,λx C=>by cases C⟩
  |some x=>
   obtain⟨O,n,_,N⟩:=D k x z;rw[K]at n;cases n;obtain⟨d,L,E⟩:=qdx N;refine⟨d,λy T=>?_⟩;cases T;have i:=λj u s=>by
    have:=L j u s;rw[show aU.size=9 from rfl]at this;have e:(⟨b,off,V⟩:Addr).add (k*9+j)=⟨b,off+(k*9+j),V⟩:=by unfold Addr.add;split<;>simp_all
    rw[e]at this;exact this
   refine⟨i,E,rfl,⟨λ_=>⟨_,rfl⟩,λ_=>rfl⟩,?_⟩;refine N.mono (λ_ h=>h) (λ_ _=>rfl) λj u s S=>?_;have t:=s;have H:=L j (iW d)[j] (uam t);have D:=S.symm.trans H;show(iW d)[j]?= U u;rw[uam t];exact D.symm
 obtain⟨c,r⟩:=Classical.axiomOfChoice o;refine⟨A,f,b,off,c,G.symm,λ_=>⟨K,P⟩,λk j u z s=>(r k l[k] (uaq z)).1 j u s,λk x C=>(r k x C).2⟩;refine⟨A,f,0,0,λ_=>⟨λ_=>0,λ_=>V,λ_=>0,λ_=>0⟩,G.symm,λh=>absurd h M,λk j u z=>absurd z (by omega),λk x C=>?_⟩;have:=(uak.1 C).1;omega
def Qc(c:Int)(b:List aU.q):(a:List aU.q)->(∀ v∈a,¬ v.1<=c)->cE c (a++b)=cE c b
 |[],_=>rfl
 |v::a,h=>by have d:=h v (by simp);have:cE c (v::a++b)=cE c (a++b):=ufx d;rw[this];exact Qc c b a λx e=>h x (by simp[e])
def zrq{l:List aU.q}(h:∀ v∈l,¬ v.1<=day):cE day l.reverse=(Ck,7):=by have:=Qc day [] l.reverse λv a=>h v (List.mem_reverse.1 a);rw[uds]at this;exact this
def zrr{l:List aU.q}{k:Nat}{x:aU.q}(d:l[k]?= U x)(g:x.1<=day)(h:∀ j y,k<j->l[j]?= U y->¬ y.1<=day):cE day l.reverse=(x,0):=by
 obtain⟨b,rfl⟩:=uak.1 d;have a:l=l.take k++l[k]::l.drop (k+1):=by rw[<- ual b,uba]
 have e:l.reverse=(l.drop (k+1)).reverse++(l[k]::(l.take k).reverse):=by
  conv=>lhs;rw[a]
  simp
 rw[e,Qc];exact ufw g;intro v f;obtain⟨j,c⟩:=ubs (List.mem_reverse.1 f);rw[ub1]at c;exact h _ v (by omega) c
def bf(t:bh.q):Prop:=t.1.length<=1000000/\∀ v∈t.1,DB v
def Ks:Ct:=⟨[.d bh,.d i64],[aU,i64],λx=>((cE x.2.1 x.1.1.reverse).1,(cE x.2.1 x.1.1.reverse).2,()),λx=>[bf x.1]⟩
def zgt(w:World)(F:Nat->Prop):bJ w F aU Ck (.agg zY):=by
 have a:inR .i64 0:=⟨by decide,by decide⟩;refine⟨rfl,⟨λ_=>⟨_,rfl⟩,λ_=>rfl⟩,⟨rfl,a⟩,⟨⟨rfl,a⟩,⟨rfl,a⟩,⟨rfl,a⟩,⟨rfl,a⟩,uT⟩,?_,?_,?_,⟨rfl,a⟩,uT⟩
 all_goals exact⟨V,0,rfl,ufb _,ufh _,λi x b=>by simp[Ck]at b⟩
def ZQ{x:aU.q}{n:Int}(h:bJ w F aU x u)(a : -9223372036854775808<=n/\n<=9223372036854775807):jF w F [aU,i64] (x,n,()) (.tuple #[u,.int .i64 n]):=
 ⟨_,rfl,_,_,rfl,h,_,_,rfl,⟨rfl,⟨λh=>(by cases h),λ⟨b,h⟩=>(by cases h)⟩,rfl,a⟩,rfl⟩
def zp2:ag prog 75 Ks:=by
 refine⟨enters (fn:=f75) (by kernel_rfl) rfl rfl,λw F xs vs hbd hr hok=>?_⟩;obtain⟨⟨l,ut⟩,day,_⟩:=xs;obtain⟨va,vs',rfl,hva,vb,vs'',rfl,hvb,hn⟩:=hr;cases hn;have hva':bJ w F bh (l,ut) va:=hva;have hvb':bJ w F i64 day vb:=hvb;have hb2:vb=.int .i64 day:=by
  have h:aK prog w F (λ_ _=>True) (eR i64 day) vb:=iH hvb';exact h.2.1
 subst hb2;obtain⟨cs,rfl⟩:=hva'.2.1.1 rfl;have hs:cs.size=1:=hva'.1;obtain⟨hsl,_⟩:aG w F (.sl aU) l (λj u=>cs[j]?= some u)/\True:=⟨hva'.2.2.1,uT⟩;have hcs:cs = #[cs.getD 0 undef]:=by
  apply ufp
  ·simp[hs]
  ·intro i h1 h2;have:i=0:=by omega
   subst this;simp[Array.getD,hs]
 rw[hcs];have hsl':aG w F (.sl aU) l (λ_ u=>u=cs.getD 0 undef):=by
  obtain⟨A,c,h1,h2⟩:=hsl;refine⟨A,c,?_,h2⟩;simp[Array.getD,hs];rw[uam (by omega)]at h1;exact(ud4 h1).symm
 obtain⟨A,cap,b,off,c,e1,hA,hc,hx⟩:=zrv hsl';rw[e1];obtain⟨hfew1,hfew2⟩:bf (l,ut):=hok;have key:=qlp b off l.length cap day c (λk=>l.getD k aU.j) F w hfew1 A (λh=>⟨(hA h).1,hbd b (hA h).2⟩) hbd hc (λk W hk hW=>by
  obtain⟨_,h2⟩:=hx k l[k] (uaq hk);have e:l.getD k aU.j=l[k]:=by rw[uah,uaq hk];rfl
  rw[e];exact ziw hbd hW h2 (hfew2 _ (udi hk)))
 refine(callsIn_wide.1 key).mono ?_;rintro e w' ⟨he,hbel⟩;rcases he with ⟨rfl,hno⟩|⟨k,d,F',hk,hday,hafter,rfl,hrep,hF'⟩
 ·have hv:cE day l.reverse=(Ck,7):=zrq λv hv=>by
   obtain⟨j,hj⟩:=ubs hv;have:=hno j (uak.1 hj).1;dsimp only at this;rw[(hx j v hj).1]at this;exact this
  refine⟨_,F,rfl,hbel,λ_ h=>h,λb hb=>⟨.inl hb,ucb (hbd b hb) hbel.size⟩,?_⟩;show jF w' F [aU,i64] ((cE day l.reverse).1,(cE day l.reverse).2,()) _;rw[hv];exact ZQ (zgt _ _) (n:=7) (by decide)
 ·have hlk:l[k]?= some l[k]:=uaq hk;have hv:cE day l.reverse=(l[k],0):=zrr hlk (by dsimp only at hday;rw[(hx k _ hlk).1]at hday;exact hday) λj y hj hy=>by
   have:=hafter j hj (uak.1 hy).1;dsimp only at this;rw[(hx j y hy).1]at this;exact this
  have e:l.getD k aU.j=l[k]:=by rw[uah,hlk];rfl
  dsimp only at hrep;rw[e]at hrep;refine⟨_,λb=>F b\/F' b,rfl,hbel,λ_ h=>.inl h,λb hb=>?_,?_⟩
  ·rcases hb with h|h
   ·exact⟨.inl h,ucb (hbd b h) hbel.size⟩
   ·exact hF' b h
  ·show jF w' _ [aU,i64] ((cE day l.reverse).1,(cE day l.reverse).2,()) _;rw[hv];exact ZQ (hrep.mono (λ_ h=>.inr h) (λ_ _=>rfl)) (n:=0) (by decide)
attribute [local go_sem] Oper.semAt_some
def qk0(f d b:Nat)(k:Int)(A:Option Addr)(a c:Nat)(w:World)(i:Boxed w f 3 (.int .i64 k))(h:Boxed w d 389 (.slice A a c))(g:Boxed w b 4 (.bool Y)):
  CallsD prog 231 #[.pointer (U ⟨f,0,V⟩),.pointer (U ⟨d,0,V⟩),.pointer (U ⟨b,0,V⟩)] .returning w λe l w'=>l=.returning/\(∃ v,e=.returned v)/\w'=w.setCell ⟨b,0,V⟩ (.bool (J (k=a))):=by
 have m:=i.cell;have n:=h.cell;have o:=g.cell;have p:=g.frozen
 go_enter_d func231,ntmps231
 go_wp2
 go_end0
 exact⟨⟨_,rfl⟩,by rw[Bool.beq_eq_decide_eq]⟩
structure AllI (w:World) (b off cap:Nat) (bs:Nat->Bool) (k:Nat) (W:World):Prop where
 x0:Boxed W w.heap.size 389 (.slice (some ⟨b,off,none⟩) 4 cap)
 x1:Boxed W (w.heap.size+1) 4 (.bool false)
 x2:Boxed W (w.heap.size+2) 3 (.int .i64 k)
 bel:Below w.heap.size w W
 sz:w.heap.size+3<=W.heap.size
 yes:∀ j,j<k->bs j=true
structure FourFn (w:World) (b off:Nat) (g:Nat->Nat) (caps:Nat->Array Value) (bs:Nat->Bool):Prop where
 blk:b<w.heap.size
 cell:∀ k,k<4->w.cell? ⟨b,off+k,none⟩=some (.func (.func (g k)) #[] (caps k))
 enter:∀ k,k<4->∀ args w,(callFunc (g k) args).run prog w=.ok (.enter (g k) args) w
 call:∀ k,k<4->∀ W,Below w.heap.size w W->Calls prog (g k) (caps k) W λe W'=>e=.returned (.bool (bs k))/\Below W.heap.size W W'
def Sa{w W: World}{b u a: Nat}{E: Nat -> Bool}{k: Nat}{r: Bool}{y z A B C D g h i l m n o s t: Value}(d : AllI w b u a E k W)(F : J ((k : Int)=(4 : Nat)) = r):
    bodyPostD prog f190 (λe w' => e=.returned (.bool r) /\ Below w.heap.size w w') .ret
      { tmps := #[y, .pointer (U ⟨w.heap.size, 0, V⟩), .pointer (U ⟨w.heap.size + 1, 0, V⟩), .pointer (U ⟨w.heap.size + 1 + 1, 0, V⟩), z, A, .func (.func 231) #[] #[.pointer (U ⟨w.heap.size + 1 + 1, 0, V⟩), .pointer (U ⟨w.heap.size, 0, V⟩), .pointer (U ⟨w.heap.size + 1, 0, V⟩)], B, C, D, g, h, i, l, m, n, o, s, t],
        defers := [{ target := .fn (.func 231) #[.pointer (U ⟨w.heap.size + 1 + 1, 0, V⟩), .pointer (U ⟨w.heap.size, 0, V⟩), .pointer (U ⟨w.heap.size + 1, 0, V⟩)], args := #[] }] } W := by
  refine ufg (f := 231) (args := #[.pointer (U ⟨w.heap.size + 2, 0, V⟩), .pointer (U ⟨w.heap.size, 0, V⟩), .pointer (U ⟨w.heap.size + 1, 0, V⟩)]) (by simp) (by simp[go_sem]) ?_
  refine(qk0 (w.heap.size + 2) w.heap.size (w.heap.size + 1) k _ 4 a W d.x2 d.x0 d.x1).mono ?_
  rintro e H G ⟨rfl, ⟨v, rfl⟩, rfl⟩
  have c := (d.x1.set (.bool (J ((k : Int)=(4 : Nat))))).cell
  have x := d.bel.setCell (p := ⟨w.heap.size + 1, 0, V⟩) (by show w.heap.size <= w.heap.size + 1;omega) (.bool (J ((k : Int)=(4 : Nat))))
  rw[F]at c x |-
  refine⟨.bool r, ?_, rfl, x⟩
  simp[results, results190, go_sem, c]
def qk2(b off cap : Nat)(g : Nat -> Nat)(caps : Nat -> Array Value)(bs : Nat -> Bool)(w : World)(h : FourFn w b off g caps bs):
    Calls prog 190 #[.slice (some ⟨b, off, none⟩) 4 cap] w λe w' => e=.returned (.bool (bs 0 && (bs 1 && (bs 2 && bs 3)))) /\ Below w.heap.size w w' := by
  have hmf : ∀ (fn : Fn) (first cap : Array Value) (w : World), (Instr.makeFunc fn first cap).run prog w=.ok (.func fn first cap) w := λ_ _ _ _ => rfl
  go_enter_defers func190, ntmps190
  go_wp2
  have z0 := (udb ((w.alloc (.cells #[.slice (some ⟨b, off, none⟩) 4 cap] 389)).alloc (.cells #[.bool false] 4)) (.cells #[.int .i64 0] 3) w.heap.size (by simp only[udg];omega)).trans ((udb _ _ _ (by simp only[udg];omega)).trans (World.alloc_heap_new w (.cells #[.slice (some ⟨b, off, none⟩) 4 cap] 389)))
  have z1' := World.alloc_heap_new (w.alloc (.cells #[.slice (some ⟨b, off, none⟩) 4 cap] 389)) (.cells #[.bool false] 4)
  rw[udg]at z1'
  have z1 := (udb ((w.alloc (.cells #[.slice (some ⟨b, off, none⟩) 4 cap] 389)).alloc (.cells #[.bool false] 4)) (.cells #[.int .i64 0] 3) (w.heap.size + 1) (by simp only[udg];omega)).trans z1'
  have z2 : (((w.alloc (.cells #[.slice (some ⟨b, off, none⟩) 4 cap] 389)).alloc (.cells #[.bool false] 4)).alloc (.cells #[.int .i64 0] 3)).heap[w.heap.size + 2]?= some (.cells #[.int .i64 0] 3 (0, 0)) := by
    have := World.alloc_heap_new ((w.alloc (.cells #[.slice (some ⟨b, off, none⟩) 4 cap] 389)).alloc (.cells #[.bool false] 4)) (.cells #[.int .i64 0] 3)
    rwa [udg, udg]at this
  have hbel : Below w.heap.size w (((w.alloc (.cells #[.slice (some ⟨b, off, none⟩) 4 cap] 389)).alloc (.cells #[.bool false] 4)).alloc (.cells #[.int .i64 0] 3)) := (((ufk _ w).alloc (ufb _) _).alloc (by simp) _).alloc (by simp;omega) _
  have hsz : (((w.alloc (.cells #[.slice (some ⟨b, off, none⟩) 4 cap] 389)).alloc (.cells #[.bool false] 4)).alloc (.cells #[.int .i64 0] 3)).heap.size = w.heap.size + 3 := by simp
  have hI0 : AllI w b off cap bs 0 (((w.alloc (.cells #[.slice (some ⟨b, off, none⟩) 4 cap] 389)).alloc (.cells #[.bool false] 4)).alloc (.cells #[.int .i64 0] 3)) := ⟨z0, z1, z2, hbel, by omega, λj hj => by omega⟩
  go_loopw [9] (λi wr => ∃ k : Nat, k <= 4 /\ i=.int .i64 k /\ AllI w b off cap bs k wr)
    (λi _ => 4 - (intOf i).toNat)
  case atStart => exact⟨0, by omega, rfl, hI0⟩
  case round =>
    obtain⟨k, hk, rfl, hi⟩ := hrel
    by_cases hlt : k < 4
    · have hc : wr.cell? ⟨b, off + k, none⟩ = some (.func (.func (g k)) #[] (caps k)) := (hi.bel.cell (p := ⟨b, off + k, none⟩) h.blk).trans (h.cell k hlt)
      have he := h.enter k hlt
      have c2 := hi.x2.cell
      have f2 := hi.x2.frozen
      go_wp2
      refine(h.call k hlt wr hi.bel).mono ?_
      rintro e w1 ⟨rfl, hb1⟩
      have hs := hi.sz
      have y0 : Boxed w1 _ _ _ := (hb1.block _ (by omega)).trans hi.x0
      have y1 : Boxed w1 _ _ _ := (hb1.block (w.heap.size + 1) (by omega)).trans hi.x1
      have y2 : Boxed w1 _ _ _ := (hb1.block (w.heap.size + 2) (by omega)).trans hi.x2
      have hi1 : AllI w b off cap bs k w1 := ⟨y0, y1, y2, hi.bel.trans (hb1.mono hi.bel.size), uep hi.sz hb1.size, hi.yes⟩
      have d2 := y2.cell
      have e2 := y2.frozen
      clear hc he c2 f2
      cases hbk : bs k with
      | false =>
        go_wp2
        refine Sa hi1 ?_
        have h4 : ¬ ((k : Int)=(4 : Nat)) := by omega
        rw[udw h4]
        have : k = 0 \/ k = 1 \/ k = 2 \/ k = 3 := by omega
        rcases this with rfl | rfl | rfl | rfl <;> rw[hbk] <;> simp
      | true =>
        go_wp2
        go_roundw
        case rel => exact⟨k + 1, by omega, by simp, y0.other (by omega) _, y1.other (by omega) _, y2.set _, hi1.bel.setCell (p := ⟨w.heap.size + 2, 0, none⟩) (by show w.heap.size <= w.heap.size + 2;omega) _, by simp;exact hi1.sz, λj hj => by
          by_cases hjk : j = k
          · rw[hjk];exact hbk
          · exact hi.yes j (by omega)⟩
        case measure => simp[intOf];omega
    · obtain rfl : k = 4 := by omega
      go_wp2
      refine Sa hi ?_
      rw[hi.yes 0 (by omega), hi.yes 1 (by omega), hi.yes 2 (by omega), hi.yes 3 (by omega)]
      rfl
end
end Go.Proofs.YtdadnmgajcfkfaaGreat
