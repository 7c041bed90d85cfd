/-
  Parts of the proof, one behind the other.
-/
import Derived.Test.YtdokapnnagbehaaGreatMd
import Derived.ScopeJumps
set_option linter.all false
set_option maxRecDepth 100000
set_option maxHeartbeats 4000000
open Option renaming some->U,none->V
open Bool renaming true->Z,false->Y
open Decidable renaming decide->J
open Go Go.RowKit
variable {T α σ ρ β:Type} {P:Program} {ad:Addr} {arr cs cur:Array Value} {f:FuncId} {x a y day:Int} {k:IntKind} {l:List Int} {xs vs news:List Value} {off i n b c d j B m len:Nat} {F F' K:Nat->Prop} {R g R':Nat->Value->Prop} {o:Oper} {p:Prop} {e ety t ty el:TypeId} {v u vx:Value} {w w' W' W:World}
namespace Go.Ab
section
variable {α:Type} {key:α->Int}
def bY(key:α->Int)(l:List α):Prop:=l.Pairwise λx y=>key x<=key y
def bh(key:α->Int)(l s:List α):Prop:=∀ k,s.filter (λx=>key x==k)=l.filter (λx=>key x==k)
def bh.refl(l:List α):bh key l l:=λ_=>rfl
def bh.trans{a b c:List α}(h:bh key a b)(k:bh key b c):bh key a c:=λn=>(k n).trans (h n)
def bh.symm{a b:List α}(h:bh key a b):bh key b a:=λn=>(h n).symm
def bh.app{a b c d:List α}(h:bh key a b)(k:bh key c d):bh key (a++c) (b++d):=λn=>by simp[h n,k n]
def bh.mem{l s:List α}(h:bh key l s){x:α}:x∈s↔x∈l:=by
 have:=uft (x ∈ ·) (h (key x));simpa using this
def bh.swap{a b:List α}(h:∀ x∈a,∀ y∈b,key x≠key y):bh key (a++b) (b++a):=λn=>by
 simp only[ucj];by_cases e:∃ x∈a,key x=n;obtain⟨x,i,f⟩:=e;have g:b.filter (λx=>key x==n)=[]:=by
  rw[List.filter_eq_nil_iff];intro y d;have:=h x i y d;simp;omega
 rw[g];simp;have c:a.filter (λx=>key x==n)=[]:=by
  rw[List.filter_eq_nil_iff];intro y d f;exact e ⟨y,d,by simpa using f⟩
 rw[c];simp
def WH:{s t:List α}->bY key s->bY key t->bh key s t->s=t
 |[],t,_,_,h=>by
  cases t with
  |nil=>rfl
  |cons y t=>have:=(h.mem (x:=y)).1 (by simp);simp at this
 |x::s,[],_,_,h=>by have:=(h.mem (x:=x)).2 (by simp);simp at this
 |x::s,y::t,f,g,h=>by
  have a:=uca.1 f;have b:=uca.1 g;have i:key x<=key y:=by
   rcases uei.1 ((h.mem (x:=y)).1 (by simp))with e|e
   exact Int.le_of_eq (by rw[e]);exact a.1 y e
  have j:key y<=key x:=by
   rcases uei.1 ((h.mem (x:=x)).2 (by simp))with e|e
   exact Int.le_of_eq (by rw[e]);exact b.1 x e
  have d:key x=key y:=by omega
  have c:=h (key x);simp only[List.filter_cons,d,beq_self_eq_true,if_true,udq]at c;obtain⟨rfl,c⟩:=c;have:s=t:=WH a.2 b.2 λn=>by
   have:=h n;simp only[List.filter_cons]at this;split at this;simpa using this;exact this
  rw[this]
def rl(lt:α->α->Bool)(x:α):List α->List α
 |[]=>[x]
 |y::r=>if lt y x then y::rl lt x r else x::y::r
def cM(lt:α->α->Bool):List α->List α
 |[]=>[]
 |x::r=>rl lt x (cM lt r)
def zqp{lt:α->α->Bool}{x:α}:(l:List α)->(rl lt x l).Perm (x::l)
 |[]=>List.Perm.refl _
 |y::r=>by
  simp only[rl];split;exact(List.Perm.cons y (zqp r)).trans (List.Perm.swap x y r);exact List.Perm.refl _
def KS{lt:α->α->Bool}:(l:List α)->(cM lt l).Perm l
 |[]=>List.Perm.refl _
 |x::r=>(zqp _).trans (List.Perm.cons x (KS r))
def mj{lt:α->α->Bool}(l:List α):(cM lt l).length=l.length:=(KS l).length_eq
def yZ{lt:α->α->Bool}{l:List α}{x:α}:x∈cM lt l↔x∈l:=(KS l).mem_iff
def dd(lt:α->α->Bool)(key:α->Int)(l:List α):Prop:=∀ x∈l,∀ y∈l,lt x y=J (key x<key y)
def dd.sub{lt:α->α->Bool}{l s:List α}(h:dd lt key l)(a:∀ x∈s,x∈l):dd lt key s:=λx b y c=>h x (a x b) y (a y c)
def RJ{lt:α->α->Bool}{x:α}:{l:List α}->dd lt key (x::l)->bY key l->bY key (rl lt x l)/\bh key (x::l) (rl lt x l)
 |[],_,_=>⟨uay _ _,bh.refl _⟩
 |y::r,h,m=>by
  have d:=uca.1 m;have g:=h y (by simp) x (by simp);simp only[rl];split;rename_i e;rw[e]at g;have t:key y<key x:=by simpa using g.symm
  obtain⟨n,i⟩:=RJ (x:=x) (h.sub (by intro z c;simp at c |-;rcases c with rfl|c<;>simp[*])) d.2;refine⟨uca.2 ⟨λz c=>?_,n⟩,?_⟩;rcases uei.1 ((i.mem).1 c)with rfl|c
  omega;exact d.1 z c;have o:bh key ([x]++[y]) ([y]++[x]):=bh.swap λa j b k=>by simp at j k;subst j;subst k;omega
  have p:=o.app (bh.refl r);have q:=(bh.refl [y]).app i;exact p.trans q;rename_i e;have s:lt y x=false:=by simpa using e
  rw[s]at g;have f:key x<=key y:=by simpa using g.symm
  exact⟨uca.2 ⟨λz c=>by
   rcases uei.1 c with rfl|c
   exact f;exact ue3 f (d.1 z c),m⟩,bh.refl _⟩
def nC{lt:α->α->Bool}:{l:List α}->dd lt key l->bY key (cM lt l)/\bh key l (cM lt l)
 |[],_=>⟨List.Pairwise.nil,bh.refl _⟩
 |x::r,h=>by
  obtain⟨b,c⟩:=nC (l:=r) (h.sub (by intro z a;simp[a]));obtain⟨d,e⟩:=RJ (x:=x) (h.sub (by
   intro z a;rcases uei.1 a with rfl|a
   simp;simp[yZ.1 a])) b
  exact⟨d,bh.trans (bh.app (bh.refl [x]) c) e⟩
def mQ{lt:α->α->Bool}{l s:List α}(h:dd lt key l)(d:bY key s)(c:bh key l s):s=cM lt l:=by
 obtain⟨a,b⟩:=nC h;exact WH d a (c.symm.trans b)
def bA(lt:α->α->Bool)(a b:Nat)(l:List α):List α:=l.take a++(cM lt ((l.take b).drop a)++l.drop b)
def rE{lt:α->α->Bool}{a:Nat}{p s q:List α}(e:p.length=a)(f:(p++s).length=b):bA lt a b (p++(s++q))=p++(cM lt s++q):=by
 subst e f;have c:(p++(s++q)).take (p++s).length=p++s:=by rw[<- ucr];exact udz rfl
 have d:(p++(s++q)).drop (p++s).length=q:=by rw[<- ucr];exact ud0 rfl
 unfold bA;rw[c,d,udz rfl,ud0 rfl]
def KT{l:List α}{a:Nat}(c:a<=b)(e:b<=l.length):∃ p s q,l=p++(s++q)/\p.length=a/\s.length=b-a/\q.length=l.length-b:=
 ⟨l.take a,(l.take b).drop a,l.drop b,by
  have d:(l.take b).take a=l.take a:=by rw[ud8,udp c]
  rw[<- ucr,<- d,uba,uba],by simp;omega,by simp;omega,by simp⟩
def fx(l:List α)(d:α)(i j:Nat):List α:=(l.set i (l.getD j d)).set j (l.getD i d)
end
section
variable {α:Type} {key:α->Int} {d:α}
def Ce{p s q:List α}(h:i<s.length):(p++(s++q)).getD (p.length+i) d=s.getD i d:=by
 simp[uae,uaj h]
def VB{p r q:List α}{x y:α}(hi:i=p.length)(e:j=p.length+1+r.length):fx (p++(x::(r++(y::q)))) d i j=p++(y::(r++(x::q))):=by
 subst hi e;unfold fx;have a:(p++(x::(r++(y::q)))).getD (p.length+1+r.length) d=y:=by
  rw[show p++(x::(r++(y::q)))=(p++[x]++r)++(y::q) by simp];simp only[uah];rw[uae (by simp;omega)];simp[show p.length+1+r.length-(p.length+(r.length+1))=0 by omega]
 have b:(p++(x::(r++(y::q)))).getD p.length d=x:=by simp
 rw[a,b];have c:(p++(x::(r++(y::q)))).set p.length y=p++(y::(r++(y::q))):=by simp
 rw[c];rw[show p++(y::(r++(y::q)))=(p++[y]++r)++(y::q) by simp,List.set_append_right _ _ (by simp;omega)];simp[show p.length+1+r.length-(p.length+(r.length+1))=0 by omega]
def VD{p q:List α}{x y:α}(hi:i=p.length):fx (p++(x::(y::q))) d i (i+1)=p++(y::(x::q)):=
 VB (r:=[]) hi (by simp[hi])
def zbe{l:List α}(h:i≠j):fx l d j i=fx l d i j:=by
 unfold fx;rw[List.set_comm _ _ (by omega)]
def VF{p q:List α}{x y:α}(hi:i=p.length):fx (p++(x::(y::q))) d (i+1) i=p++(y::(x::q)):=by
 rw[zbe (by omega),VD hi]
def fp(lt:α->α->Bool)(d:α)(a:Nat):Nat->List α->List α
 |0,l=>l
 |j+1,l=>if a<j+1 then bif lt (l.getD (j+1) d) (l.getD j d)then fp lt d a j (fx l d (j+1) j)else l else l
def lI(lt:α->α->Bool)(d:α)(a:Nat):Nat->Nat->List α->List α
 |0,_,l=>l
 |n+1,i,l=>lI lt d a n (i+1) (fp lt d a i l)
def Vm(s:List α):s=[] \/ ∃ t y,s=t++[y]:=by
 cases h:s.reverse with
 |nil=>exact .inl (by simpa using h)
 |cons y t=>exact .inr ⟨t.reverse,y,by have:=uft List.reverse h;simpa using this⟩
def RK{lt:α->α->Bool}{p:List α}{x:α}:(n:Nat)->(s q:List α)->s.length=n->dd lt key (s++[x])->bY key s ->
  ∃ t,fp lt d p.length (p.length+n) (p++(s++(x::q)))=p++(t++q)/\bY key t/\bh key (s++[x]) t
 |0,s,q,l,_,_=>by
  obtain rfl:=uaz.1 l;refine⟨[x],?_,uay _ _,bh.refl _⟩;cases G:p.length with
  |zero=>simp[fp]
  |succ j=>simp[fp]
 |n+1,s,q,l,r,u=>by
  rcases Vm s with rfl|⟨c,y,rfl⟩
  simp at l;have e:c.length=n:=by simpa using l
  have g:=ubp.1 u;have m:p++((c++[y])++(x::q))=(p++c)++(y::(x::q)):=by simp
  have F:=r x (by simp) y (by simp);have A:(p++((c++[y])++(x::q))).getD (p.length+n+1) d=x:=by
   rw[m];simp only[uah];rw[uae (by simp;omega)];simp[e]
  have B:(p++((c++[y])++(x::q))).getD (p.length+n) d=y:=by
   rw[m];simp only[uah];simp[e]
  rw[show p.length+(n+1)=(p.length+n)+1 by omega];simp only[fp,A,B];rw[ufv (by omega),F];by_cases k:key x<key y;simp only[k,cond_true];rw[m,VF (by simp[e])];obtain⟨t,C,D,o⟩:=RK (x:=x) n c (y::q) e (r.sub (by intro z v;simp at v |-;rcases v with h|h<;>simp[h])) g.1;have w:(p++c)++(x::(y::q))=p++(c++(x::(y::q))):=by simp
  rw[w,C];refine⟨t++[y],by simp,?_,?_⟩;refine ubp.2 ⟨D,uay _ _,λa i b f=>?_⟩;simp at f;subst f;rcases uds.1 (o.mem.1 i)with h|h
  exact g.2.2 a h _ (by simp);simp at h;subst h;omega;have E:bh key ((c++[y])++[x]) (c++[x]++[y]):=by
   rw[ucr,ucr];exact(bh.refl c).app (bh.swap λa i b f=>by simp at i f;subst i f;omega)
  exact E.trans (o.app (bh.refl [y]));simp only[k,cond_false];refine⟨c++[y]++[x],by simp,?_,bh.refl _⟩;refine ubp.2 ⟨u,uay _ _,λa i b f=>?_⟩;simp at f;subst f;rcases uds.1 i with h|h
  have:=g.2.2 a h y (by simp);omega;simp at h;subst h;omega
def RM{lt:α->α->Bool}{p q:List α}:(u s:List α)->dd lt key (s++u)->bY key s->∃ t,lI lt d p.length u.length (p.length+s.length) (p++(s++(u++q)))=p++(t++q)/\bY key t/\bh key (s++u) t
 |[],s,_,b=>⟨s,by simp[lI],b,by simpa using bh.refl s⟩
 |x::u,s,f,b=>by
  obtain⟨t,c,i,e⟩:=RK (x:=x) s.length s (u++q) rfl (f.sub (by intro z a;simp at a |-;rcases a with h|h<;>simp[h])) b;have g:t.length=s.length+1:=by
   have:=uft List.length c;have j:∀ (n:Nat) (l:List α),(fp lt d p.length n l).length=l.length:=by
    intro n
    induction n with
    |zero=>intro l;rfl
    |succ n k=>
     intro l;simp only[fp];split;cases lt (l.getD (n+1) d) (l.getD n d);rfl;simp[k,fx];rfl
   rw[j]at this;simp at this;omega
  obtain⟨v,m,o,r⟩:=RM u t (f.sub (by
   intro z a;rcases uds.1 a with h|h
   have:=e.mem.1 h;simp at this |-;rcases this with h|h<;>simp[h]
   simp[h])) i
  refine⟨v,?_,o,?_⟩;simp only[uc9,lI,uc4];rw[c,show p.length+s.length+1=p.length+t.length by omega];exact m;have:s++x::u=(s++[x])++u:=by simp
  rw[this];exact(e.app (bh.refl u)).trans r
def qn1{lt:α->α->Bool}{a:Nat}{l:List α}(f:a<=b)(m:b<=l.length)(n:dd lt key l):lI lt d a (b-(a+1)) (a+1) l=bA lt a b l:=by
 obtain⟨p,s,q,rfl,o,h,_⟩:=KT f m;subst o;cases s with
 |nil=>
  have:b=p.length:=by simp at h;omega
  subst this;rw[rE rfl (by simp)];simp[lI,cM]
 |cons x u=>
  simp at h;have g:b=p.length+(1+u.length):=by omega
  subst g;rw[rE rfl (by simp;omega)];have c:=n.sub λz r=>ua6 _ (ubk _ r);obtain⟨t,i,j,k⟩:=RM (d:=d) u [x] (by simpa using c) (uay _ _);have e:=mQ c j (by simpa using k);subst e;rw[<- i];simp[show p.length+(1+u.length)-(p.length+1)=u.length by omega]
def nG(d:α):Nat->Nat->List α->List α
 |0,_,l=>l
 |n+1,k,l=>nG d n (k+1) (fx l d k (k+1))
def mM(d:α):Nat->Nat->List α->List α
 |0,_,l=>l
 |n+1,k,l=>mM d n (k-1) (fx l d k (k-1))
def Wr{x:α}:(s p q:List α)->nG d s.length p.length (p++(x::(s++q)))=p++(s++(x::q))
 |[],p,q=>by simp[nG]
 |y::s,p,q=>by
  simp only[uc9,nG,uc4];rw[VD rfl];have:=Wr (x:=x) s (p++[y]) q;simpa using this
def Pu{x:α}:(n:Nat)->(s p q:List α)->s.length=n->mM d n (p.length+n) (p++(s++(x::q)))=p++(x::(s++q))
 |0,s,p,q,h=>by
  obtain rfl:=uaz.1 h;simp[mM]
 |n+1,s,p,q,h=>by
  rcases Vm s with rfl|⟨a,y,rfl⟩
  simp at h;have b:a.length=n:=by simpa using h
  rw[show p.length+(n+1)=(p.length+n)+1 by omega];simp only[mM,ub0];have c:p++((a++[y])++(x::q))=(p++a)++(y::(x::q)):=by simp
  rw[c,VF (by simp[b])];have:=Pu (x:=x) n a p (y::q) b;simpa using this
def e9(d:α):Nat->Nat->Nat->List α->List α
 |0,_,_,l=>l
 |n+1,a,b,l=>e9 d n (a+1) (b+1) (fx l d a b)
def Ej:(x z y p q:List α)->x.length=z.length->∀ {b:Nat},b=p.length+x.length+y.length->e9 d x.length p.length b (p++(x++(y++(z++q))))=p++(z++(y++(x++q)))
 |[],z,y,p,q,h,b,a=>by
  obtain rfl:=uaz.1 h.symm;simp[e9]
 |u::x,[],y,p,q,h,b,a=>by simp at h
 |u::x,v::z,y,p,q,h,b,a=>by
  simp only[uc9,e9,uc4];have c:p++(u::(x++(y++(v::(z++q)))))=p++(u::((x++y)++(v::(z++q)))):=by simp
  rw[c,VB rfl (by simp at a |-;omega)];have:=Ej x z (y++[u]) (p++[v]) q (by simpa using h) (b:=b+1) (by simp at a |-;omega);simpa using this
def dH(d:α)(m:Nat):Nat->Nat->Nat->List α->Nat×List α
 |0,i,_,l=>(i,l)
 |f+1,i,j,l=>if i=j then (i,l)else if i>j then dH d m f (i-j) j (e9 d j (m-i) m l)else dH d m f i (j-i) (e9 d i (m-i) (m+j-i) l)
def pC(d:α)(a m b:Nat)(l:List α):List α:=let r:=dH d m (b-a) (m-a) (b-m) l;e9 d r.1 (m-r.1) m r.2
def K3{m:Nat}:(f:Nat)->(x y p q:List α)->x.length+y.length<=f->0<x.length->0<y.length->m=p.length+x.length ->
  e9 d (dH d m f x.length y.length (p++(x++(y++q)))).1 (m-(dH d m f x.length y.length (p++(x++(y++q)))).1) m (dH d m f x.length y.length (p++(x++(y++q)))).2=p++(y++(x++q))
 |0,x,y,p,q,h,s,_,_=>by omega
 |f+1,x,y,p,q,h,s,t,r=>by
  simp only[dH];split;rename_i u;subst r;have:=Ej (d:=d) x y [] p q u (b:=p.length+x.length) (by simp);simpa using this;split;rename_i k j;obtain⟨a,c,rfl,l⟩:∃ a c,x=a++c/\a.length=y.length:=⟨x.take y.length,x.drop y.length,by simp,by simp;omega⟩;simp only[ub6]at r h j s |-;have e:=Ej (d:=d) a y c p q l (b:=m) (by omega);have o:m-(a.length+c.length)=p.length:=by omega
  rw[o,<- l];rw[show p++(a++c++(y++q))=p++(a++(c++(y++q))) by simp,e];have:=K3 (m:=m) f c a (p++y) q (by omega) (by omega) (by omega) (by simp;omega);rw[show a.length+c.length-a.length=c.length by omega];simpa using this;rename_i k j;obtain⟨g,i,rfl,n⟩:∃ g i,y=g++i/\i.length=x.length:=⟨y.take (y.length-x.length),y.drop (y.length-x.length),by simp,by simp;omega⟩;simp only[ub6]at r h j t k |-;have e:=Ej (d:=d) x i g p q n.symm (b:=m+(g.length+i.length)-x.length) (by omega);have o:m-x.length=p.length:=by omega
  rw[o];rw[show p++(x++(g++i++q))=p++(x++(g++(i++q))) by simp,e];have:=K3 (m:=m) f i g p (x++q) (by omega) (by omega) (by omega) (by omega);rw[show g.length+i.length-x.length=g.length by omega,<- n];simpa using this
def UA{a:Nat}{x y p q:List α}(c:0<x.length)(e:0<y.length)(f:a=p.length)(h:m=a+x.length)(g:b=m+y.length):pC d a m b (p++(x++(y++q)))=p++(y++(x++q)):=by
 have:=K3 (d:=d) (m:=m) (b-a) x y p q (by omega) c e (by omega);unfold pC;rw[show m-a=x.length by omega,show b-m=y.length by omega];exact this
def cp(Q:Nat->Bool):Nat->Nat->Nat->Nat
 |0,i,_=>i
 |f+1,i,j=>if i<j then bif Q ((i+j)/2)then cp Q f ((i+j)/2+1) j else cp Q f i ((i+j)/2)else i
def wM{Q:Nat->Bool}:(f i j:Nat)->j-i<=f->i<=j->(∀ u v,i<=u->u<=v->v<j->Q v=Z->Q u=Z) ->
  i<=cp Q f i j/\cp Q f i j<=j/\(∀ k,i<=k->k<cp Q f i j->Q k=Z)/\(∀ k,cp Q f i j<=k->k<j->Q k=Y)
 |0,i,j,h,d,_=>by
  simp only[cp];exact⟨ue9 _,d,λk b c=>by omega,λk b c=>by omega⟩
 |f+1,i,j,h,d,a=>by
  simp only[cp];by_cases g:i<j;rw[ufv g];cases o:Q ((i+j)/2)with
  |true=>
   simp only[cond_true];obtain⟨q,r,l,m⟩:=wM (Q:=Q) f ((i+j)/2+1) j (by omega) (by omega) (λu v s e t=>a u v (by omega) e t);refine⟨by omega,r,λk b c=>?_,m⟩;by_cases n:k<=(i+j)/2;exact a k _ b n (by omega) o;exact l k (by omega) c
  |false=>
   simp only[cond_false];obtain⟨q,r,l,m⟩:=wM (Q:=Q) f i ((i+j)/2) (by omega) (by omega) (λu v s e t=>a u v s e (by omega));refine⟨q,by omega,l,λk b c=>?_⟩;by_cases n:k<(i+j)/2;exact m k b n;cases p:Q k with
   |false=>rfl
   |true=>rw[a _ k (by omega) (by omega) c p]at o;cases o
  rw[ufw g];exact⟨ue9 _,d,λk b c=>by omega,λk b c=>by omega⟩
end
section
variable {α:Type} {key:α->Int} {d:α}
def bf(a b:Nat)(l:List α):List α:=(l.take b).drop a
def rZ{p s q:List α}{a:Nat}(d:p.length=a)(e:a+s.length=b):bf a b (p++(s++q))=s:=by
 subst d e;unfold bf;have c:(p++(s++q)).take (p.length+s.length)=p++s:=by rw[<- ucr];exact udz (by simp)
 rw[c,ud0 rfl]
def Vf{l:List α}{a:Nat}(f:a<=m)(g:m<=b)(h:b<=l.length):∃ p q,l=p++(bf a m l++(bf m b l++q))/\p.length=a/\(bf a m l).length=m-a/\(bf m b l).length=b-m/\q.length=l.length-b:=by
 obtain⟨p,s,q,rfl,c,i,n⟩:=KT (ueo f g) h;obtain⟨x,y,rfl,j⟩:∃ x y,s=x++y/\x.length=m-a:=⟨s.take (m-a),s.drop (m-a),by simp,by simp;omega⟩;have k:y.length=b-m:=by simp at i;omega
 have d:bf a m (p++(x++y++q))=x:=by
  rw[ucr];exact rZ c (by omega)
 have e:bf m b (p++(x++y++q))=y:=by
  rw[show p++(x++y++q)=(p++x)++(y++q) by simp];exact rZ (by simp;omega) (by omega)
 rw[d,e];exact⟨p,q,by simp,c,j,k,by omega⟩
def rF{lt:α->α->Bool}{a:Nat}{l:List α}(c:a<=b)(d:b<=l.length):(bA lt a b l).length=l.length:=by
 unfold bA;simp[mj];omega
def Vn{lt:α->α->Bool}{l:List α}(h:dd lt key l)(a:bY key l):cM lt l=l:=(mQ h a (bh.refl l)).symm
def Ka{lt:α->α->Bool}{a:Nat}{l:List α}(c:a<=b)(d:b<=l.length)(e:dd lt key l):bh key l (bA lt a b l):=by
 obtain⟨p,s,q,rfl,f,i,_⟩:=KT c d;rw[rE f (by simp;omega)];have h:=(nC (l:=s) (e.sub λz g=>ua6 _ (ubk _ g))).2;exact(bh.refl p).app (h.app (bh.refl q))
def zem(lt:α->α->Bool)(d:α)(a m b:Nat)(l:List α):Nat:=
 cp (λc=>!lt (l.getD ((a+b)/2+m-1-c) d) (l.getD c d)) ((if (a+b)/2<m then (a+b)/2 else m)-(if (a+b)/2<m then (a+b)/2+m-b else a)) (if (a+b)/2<m then (a+b)/2+m-b else a) (if (a+b)/2<m then (a+b)/2 else m)
def cT(d:α)(m b a:Nat)(l:List α):List α:=if b<m/\m<a then pC d b m a l else l
def pO(lt:α->α->Bool)(d:α)(a m b:Nat)(l:List α):List α:=
 if m-a=1 then nG d (cp (λh=>lt (l.getD h d) (l.getD a d)) (b-m) m b-1-a) a l
 else if b-m=1 then mM d (m-cp (λh=>!lt (l.getD m d) (l.getD h d)) (m-a) a m) m l
 else
  let c:=zem lt d a m b l
  let aX:=(a+b)/2
  let e:=aX+m-c
  let f:=cT d m c e l
  let g:=if a<c/\c<aX then bA lt a aX f else f
  if aX<e/\e<b then bA lt aX b g else g
def oW{l:List α}(c:bY key l)(b:i<=j)(a:j<l.length):key (l.getD i d)<=key (l.getD j d):=by
 rcases uep i j with h|h
 have:=uan.1 c i j (by omega) a h;simpa[uah,uaq a,uaq (show i<l.length by omega)]using this;have:i=j:=by omega
 subst this;exact ufa _
def fo{l:List α}(h:i<l.length):l.getD i d∈l:=by
 simp[uah,uaq h]
def oJ{l:List α}{x:α}(h:x∈l):∃ i,i<l.length/\l.getD i d=x:=by
 obtain⟨i,hi,rfl⟩:=List.getElem_of_mem h;exact⟨i,hi,by simp[uah,uaq hi]⟩
def VK{lt:α->α->Bool}{a:Nat}{p A B q:List α}(hp:p.length=a)(hA:A.length=m-a)(hB:B.length=b-m)(h1:a<m)(h2:m<b)(hl:dd lt key (A++B))(E:bY key A)(F:bY key B):
  ∃ t G w H,A=t++G/\B=w++H/\a+t.length=zem lt d a m b (p++(A++(B++q)))/\m+w.length+zem lt d a m b (p++(A++(B++q)))=(a+b)/2+m /\
   (∀ x∈t,∀ y∈H,key x<=key y)/\(∀ y∈w,∀ x∈G,key y<key x):=by
 have M:∀ i,i<A.length->(p++(A++(B++q))).getD (a+i) d=A.getD i d:=λi hi=>by rw[<- hp];exact Ce hi
 have N:∀ i,i<B.length->(p++(A++(B++q))).getD (m+i) d=B.getD i d:=λi hi=>by
  rw[show p++(A++(B++q))=(p++A)++(B++q) by simp,show m=(p++A).length by simp;omega];exact Ce hi
 generalize hL:p++(A++(B++q))=L at M N |-;have s:∀ c,a<=c->c<m->m<=(a+b)/2+m-1-c->(a+b)/2+m-1-c<b ->
   (!lt (L.getD ((a+b)/2+m-1-c) d) (L.getD c d))=J (key (A.getD (c-a) d)<=key (B.getD ((a+b)/2+m-1-c-m) d)):=λc T K W c4=>by
  have k:=M (c-a) (by omega);have l:=N ((a+b)/2+m-1-c-m) (by omega);rw[show a+(c-a)=c by omega]at k;rw[show m+((a+b)/2+m-1-c-m)=(a+b)/2+m-1-c by omega]at l;rw[k,l,hl _ (ua6 _ (fo (by omega))) _ (ubk _ (fo (by omega)))];rw[udx];simp
 generalize r:(if (a+b)/2<m then (a+b)/2+m-b else a)=g;generalize o:(if (a+b)/2<m then (a+b)/2 else m)=f;have b1:a<=g/\g<=f/\f<=m/\f<=(a+b)/2/\(a+b)/2+m<=b+g/\(g=a\/g+b=(a+b)/2+m)/\(f=m\/f=(a+b)/2):=by
  subst r o;split<;>omega
 obtain⟨T,K,W,c4,c5,c6,c7⟩:=b1;obtain⟨r1,r2,R,S⟩:=wM (Q:=λc=>!lt (L.getD ((a+b)/2+m-1-c) d) (L.getD c d)) (f-g) g f (ue9 _) K (λu v hu huv hv h=>by
  rw[s v (by omega) (by omega) (by omega) (by omega)]at h;rw[s u (by omega) (by omega) (by omega) (by omega)];simp only[ucu]at h |-;have O:=oW (d:=d) E (i:=u-a) (j:=v-a) (by omega) (by omega);have P:=oW (d:=d) F (i:=(a+b)/2+m-1-v-m) (j:=(a+b)/2+m-1-u-m) (by omega) (by omega);omega)
 have hS:zem lt d a m b L=cp (λc=>!lt (L.getD ((a+b)/2+m-1-c) d) (L.getD c d)) (f-g) g f:=by
  unfold zem;rw[r,o]
 rw[hS];generalize cp (λc=>!lt (L.getD ((a+b)/2+m-1-c) d) (L.getD c d)) (f-g) g f=e at r1 r2 R S |-;refine⟨A.take (e-a),A.drop (e-a),B.take ((a+b)/2-e),B.drop ((a+b)/2-e),by simp,by simp,?_,?_,?_,?_⟩;simp;omega;simp;omega;intro x C y D;obtain⟨i,hi,rfl⟩:=oJ (d:=d) C;obtain⟨j,z,rfl⟩:=oJ (d:=d) D;simp at hi z;have k:(A.take (e-a)).getD i d=A.getD i d:=by simp[uah,show i<e-a by omega]
 have l:(B.drop ((a+b)/2-e)).getD j d=B.getD ((a+b)/2-e+j) d:=by simp[uah]
 rw[k,l];have n:=R (e-1) (by omega) (by omega);rw[s (e-1) (by omega) (by omega) (by omega) (by omega)]at n;simp only[ucu]at n;have O:=oW (d:=d) E (i:=i) (j:=e-1-a) (by omega) (by omega);have P:=oW (d:=d) F (i:=(a+b)/2+m-1-(e-1)-m) (j:=(a+b)/2-e+j) (by omega) (by omega);omega;intro y D x C;obtain⟨i,hi,rfl⟩:=oJ (d:=d) C;obtain⟨j,z,rfl⟩:=oJ (d:=d) D;simp at hi z;have k:(A.drop (e-a)).getD i d=A.getD (e-a+i) d:=by simp[uah]
 have l:(B.take ((a+b)/2-e)).getD j d=B.getD j d:=by simp[uah,show j<(a+b)/2-e by omega]
 rw[k,l];have n:=S e (ue9 _) (by omega);rw[s e (by omega) (by omega) (by omega) (by omega)]at n;simp only[uav]at n;have O:=oW (d:=d) E (i:=e-a) (j:=e-a+i) (by omega) (by omega);have P:=oW (d:=d) F (i:=j) (j:=(a+b)/2+m-1-e-m) (by omega) (by omega);omega
def zae{lt:α->α->Bool}{a c d b:List α}(j:dd lt key ((a++c)++(d++b)))(v:bY key (a++c))(w:bY key (d++b))(n:∀ x∈a,∀ y∈b,key x<=key y)(k:∀ y∈d,∀ x∈c,key y<key x):
  cM lt (a++d)++cM lt (c++b)=cM lt ((a++c)++(d++b)):=by
 have q:dd lt key (a++d):=j.sub λz g=>by simp at g |-;rcases g with h|h<;>simp[h]
 have r:dd lt key (c++b):=j.sub λz g=>by simp at g |-;rcases g with h|h<;>simp[h]
 obtain⟨s1,o⟩:=nC q;obtain⟨u,p⟩:=nC r;have s:=ubp.1 v;have t:=ubp.1 w;refine mQ j (ubp.2 ⟨s1,u,λx e y f=>?_⟩) ?_;rw[yZ]at e f;rcases uds.1 e with e|e<;>rcases uds.1 f with f|f
 exact s.2.2 x e y f;exact n x e y f;exact uet (k x e y f);exact t.2.2 x e y f;have l:bh key (a++(c++d)++b) (a++(d++c)++b):=((bh.refl a).app (bh.swap λx e y f=>by have:=k y f x e;omega)).app (bh.refl b);have m:=o.app p;have i:bh key ((a++c)++(d++b)) ((a++d)++(c++b)):=by simpa using l
 exact i.trans m
def zbi{lt:α->α->Bool}{a:Nat}{p A B q:List α}(P:p.length=a)(K:A.length=m-a)(L:B.length=b-m)(h1:a<m)(h2:m<b)(w:dd lt key (A++B))(W:bY key A)(sB:bY key B):pO lt d a m b (p++(A++(B++q)))=p++(cM lt (A++B)++q):=by
 unfold pO;split
 rename_i hm;cases A with
 |nil=>simp at K;omega
 |cons x A=>
  obtain rfl:A=[]:=by simp at K;exact uaz.1 (by omega)
  have gx:(p++([x]++(B++q))).getD a d=x:=by subst P;simp[uah]
  have gB:∀ i,i<B.length->(p++([x]++(B++q))).getD (m+i) d=B.getD i d:=λi hi=>by
   rw[show p++([x]++(B++q))=(p++[x])++(B++q) by simp,show m=(p++[x]).length by simp;omega];exact Ce hi
  have t:∀ k,m<=k->k<b->lt ((p++([x]++(B++q))).getD k d) ((p++([x]++(B++q))).getD a d)=J (key (B.getD (k-m) d)<key x):=λk k1 k2=>by
   have:=gB (k-m) (by omega);rw[show m+(k-m)=k by omega]at this;rw[this,gx];exact w _ (ua6 _ (fo (by omega))) _ (by simp)
  obtain⟨r1,r2,S,T⟩:=wM (Q:=λh=>lt ((p++([x]++(B++q))).getD h d) ((p++([x]++(B++q))).getD a d)) (b-m) m b (ue9 _) (by omega) (λu v C huv hv h=>by
   rw[t v (by omega) hv]at h;rw[t u C (by omega)];simp only[ucu]at h |-;have:=oW (d:=d) sB (i:=u-m) (j:=v-m) (by omega) (by omega);omega)
  generalize cp (λh=>lt ((p++([x]++(B++q))).getD h d) ((p++([x]++(B++q))).getD a d)) (b-m) m b=r at r1 r2 S T |-;obtain⟨c,g,rfl,hB1⟩:∃ c g,B=c++g/\c.length=r-m:=⟨B.take (r-m),B.drop (r-m),by simp,by simp;omega⟩;have hB':c.length+g.length=b-m:=by simpa using L
  have E:∀ y∈c,key y<key x:=λy l=>by
   obtain⟨j,O,rfl⟩:=oJ (d:=d) l;have:=S (m+j) (by omega) (by omega);rw[t (m+j) (by omega) (by omega)]at this;simp only[ucu,uax]at this
   rwa [show(c++g).getD j d=c.getD j d by simp[uah,uaj O]]at this
  have F:∀ y∈g,key x<=key y:=λy l=>by
   obtain⟨j,O,rfl⟩:=oJ (d:=d) l;have:=T (r+j) (by omega) (by omega);rw[t (r+j) (by omega) (by omega)]at this;simp only[uav]at this;rw[show(c++g).getD (r+j-m) d=g.getD j d by
    simp only[uah];rw[uae (by omega),show r+j-m-c.length=j by omega]]at this
   omega
  rw[show r-1-a=c.length by omega];have R:=Wr (d:=d) (x:=x) c p (g++q);rw[P]at R;have e0:p++([x]++(c++g++q))=p++(x::(c++(g++q))):=by simp
  rw[e0,R];have H:=ubp.1 sB;have hS:c++(x::g)=cM lt ([x]++(c++g)):=by
   refine mQ w (ubp.2 ⟨H.1,uca.2 ⟨λy l=>F y l,H.2.1⟩,λy l z n=>?_⟩) ?_;rcases uei.1 n with rfl|n
   exact uet (E y l);exact H.2.2 y l z n;have D:bh key (([x]++c)++g) ((c++[x])++g):=(bh.swap λu C y l=>by simp at C;subst C;have:=E y l;omega).app (bh.refl g);simpa using D
  rw[<- hS];simp
 split
 rename_i _ hm;cases B with
 |nil=>simp at L;omega
 |cons x B=>
  obtain rfl:B=[]:=by simp at L;exact uaz.1 (by omega)
  have gx:(p++(A++([x]++q))).getD m d=x:=by
   rw[show p++(A++([x]++q))=(p++A)++(x::q) by simp,show m=(p++A).length by simp;omega];simp only[uah];rw[uae (ue9 _)];simp
  have gA:∀ i,i<A.length->(p++(A++([x]++q))).getD (a+i) d=A.getD i d:=λi hi=>by rw[<- P];exact Ce hi
  have t:∀ k,a<=k->k<m->(!lt ((p++(A++([x]++q))).getD m d) ((p++(A++([x]++q))).getD k d))=J (key (A.getD (k-a) d)<=key x):=λk k1 k2=>by
   have:=gA (k-a) (by omega);rw[show a+(k-a)=k by omega]at this;rw[this,gx,w _ (ua6 _ (by simp)) _ (ubk _ (fo (by omega))),udx];simp
  obtain⟨r1,r2,S,T⟩:=wM (Q:=λh=>!lt ((p++(A++([x]++q))).getD m d) ((p++(A++([x]++q))).getD h d)) (m-a) a m (ue9 _) (by omega) (λu v C huv hv h=>by
   rw[t v (by omega) hv]at h;rw[t u C (by omega)];simp only[ucu]at h |-;have:=oW (d:=d) W (i:=u-a) (j:=v-a) (by omega) (by omega);omega)
  generalize cp (λh=>!lt ((p++(A++([x]++q))).getD m d) ((p++(A++([x]++q))).getD h d)) (m-a) a m=r at r1 r2 S T |-;obtain⟨e,f,rfl,hA1⟩:∃ e f,A=e++f/\e.length=r-a:=⟨A.take (r-a),A.drop (r-a),by simp,by simp;omega⟩;have hA':e.length+f.length=m-a:=by simpa using K
  have E:∀ y∈e,key y<=key x:=λy l=>by
   obtain⟨j,O,rfl⟩:=oJ (d:=d) l;have:=S (a+j) (by omega) (by omega);rw[t (a+j) (by omega) (by omega)]at this;simp only[ucu,uax]at this
   rwa [show(e++f).getD j d=e.getD j d by simp[uah,uaj O]]at this
  have F:∀ y∈f,key x<key y:=λy l=>by
   obtain⟨j,O,rfl⟩:=oJ (d:=d) l;have:=T (r+j) (by omega) (by omega);rw[t (r+j) (by omega) (by omega)]at this;simp only[uav]at this;rw[show(e++f).getD (r+j-a) d=f.getD j d by
    simp only[uah];rw[uae (by omega),show r+j-a-e.length=j by omega]]at this
   omega
  have N:=Pu (d:=d) (x:=x) f.length f (p++e) q rfl;have e0:p++(e++f++([x]++q))=(p++e)++(f++(x::q)):=by simp
  have D:m=(p++e).length+f.length:=by simp;omega
  rw[e0,show m-r=f.length by omega];rw[<- D]at N;rw[N];have G:=ubp.1 W;have hS:e++(x::f)=cM lt ((e++f)++[x]):=by
   refine mQ w (ubp.2 ⟨G.1,uca.2 ⟨λy l=>uet (F y l),G.2.1⟩,λy l z n=>?_⟩) ?_;rcases uei.1 n with rfl|n
   exact E y l;exact G.2.2 y l z n;have D:bh key (e++(f++[x])) (e++([x]++f)):=(bh.refl e).app (bh.swap λu C y l=>by simp at l;subst l;have:=F u C;omega);simpa using D
  rw[<- hS];simp
 obtain⟨e,f,c,g,rfl,rfl,D,e2,E,F⟩:=VK (d:=d) (q:=q) P K L h1 h2 w W sB;simp only;generalize zem lt d a m b (p++(e++f++(c++g++q)))=st at D e2 |-;simp only[ub6]at K L;have hen:(a+b)/2+m-st=m+c.length:=by omega
 rw[hen];have hR:cT d m st (m+c.length) (p++(e++f++(c++g++q)))=p++(e++c++(f++g++q)):=by
  unfold cT;split;rename_i hc;have:=UA (d:=d) (a:=st) (m:=m) (b:=m+c.length) (x:=f) (y:=c) (p:=p++e) (q:=g++q) (by omega) (by omega) (by simp;omega) (by omega) rfl;simpa using this;rename_i hc;by_cases M:c=[];subst M;simp;have:=ubz.2 M;have:f=[]:=uaz.1 (by omega);subst this;simp
 rw[hR];have l1:dd lt key (e++c):=w.sub λz n=>by simp at n |-;rcases n with h|h<;>simp[h]
 have l2:dd lt key (f++g):=w.sub λz n=>by simp at n |-;rcases n with h|h<;>simp[h]
 have G:=ubp.1 W;have H:=ubp.1 sB;have hmid:(a+b)/2=a+(e.length+c.length):=by omega
 have hL:(if a<st/\st<(a+b)/2 then bA lt a ((a+b)/2) (p++(e++c++(f++g++q)))else p++(e++c++(f++g++q)))=p++(cM lt (e++c)++(f++g++q)):=by
  split;exact rE P (by simp;omega);rename_i hc;have:cM lt (e++c)=e++c:=by
   refine Vn l1 ?_;by_cases o:e=[];subst o;simpa[bY]using H.1;have:=ubz.2 o;have:c=[]:=uaz.1 (by omega);subst this;simpa[bY]using G.1
  rw[this]
 rw[hL];have hRt:(if (a+b)/2<m+c.length/\m+c.length<b then bA lt ((a+b)/2) b (p++(cM lt (e++c)++(f++g++q)))else p++(cM lt (e++c)++(f++g++q)))=p++(cM lt (e++c)++(cM lt (f++g)++q)):=by
  split;have:=rE (lt:=lt) (a:=(a+b)/2) (b:=b) (p:=p++cM lt (e++c)) (s:=f++g) (q:=q) (by simp[mj];omega) (by simp[mj];omega);simpa using this;rename_i hc;have:cM lt (f++g)=f++g:=by
   refine Vn l2 ?_;by_cases o:f=[];subst o;simpa[bY]using H.2.1;have:=ubz.2 o;have:g=[]:=uaz.1 (by omega);subst this;simpa[bY]using G.2.1
  rw[this]
 rw[hRt,<- zae w W sB E F];simp
end
section
variable {α:Type} {key:α->Int}
def Vc{lt:α->α->Bool}{a d c:Nat}{l:List α}(e:c<=a)(f:a<=l.length):bf d c (bA lt a b l)=bf d c l:=by
 unfold bf bA;rw[List.take_append_of_le_length (by simp;omega),ud8,udp e]
def Vd{a:Nat}{l:List α}:(bf a b l).length=min b l.length-a:=by simp[bf]
def Ve{lt:α->α->Bool}{a:Nat}{l:List α}(c:a<=b)(d:b<=l.length):bf a b (bA lt a b l)=cM lt (bf a b l):=by
 unfold bA;exact rZ (by simp;omega) (by rw[mj];simp;omega)
def Pw{lt:α->α->Bool}{a:Nat}{l:List α}(d:a<=b)(e:b<=l.length)(f:b<=c):(bA lt a b l).drop c=l.drop c:=by
 unfold bA;rw[<- ucr,List.drop_append,ua2 (by simp[mj];omega)];simp[mj];congr 1;omega
def DB{a:Nat}{l s:List α}(h:l.drop c=s.drop c)(d:c<=a):bf a b l=bf a b s:=by
 unfold bf;rw[List.drop_take,List.drop_take];have:∀ t:List α,t.drop a=(t.drop c).drop (a-c):=λt=>by rw[List.drop_drop];congr 1;omega
 rw[this l,this s,h]
def wt(key:α->Int)(w:Nat)(l:List α):Prop:=∀ k,bY key (bf (k*w) (k*w+w) l)
def dV(lt:α->α->Bool)(w n:Nat):Nat->Nat->List α->Nat×List α
 |0,a,l=>(a,l)
 |f+1,a,l=>if a+w<=n then dV lt w n f (a+w) (bA lt a (a+w) l)else (a,l)
structure BlkW (key:α->Int) (w n:Nat) (l:List α) (r:Nat×List α):Prop where
 mul:∃ c,r.1=c*w
 le:r.1<=n
 lt:n<r.1+w
 len:r.2.length=n
 same:bh key l r.2
 drop:r.2.drop r.1=l.drop r.1
 done:∀ k,k*w+w<=r.1->bY key (bf (k*w) (k*w+w) r.2)
def wK{lt:α->α->Bool}{w:Nat}(v:0<w):(f a:Nat)->(l:List α)->n<f+a->a<=n->l.length=n->(∃ c,a=c*w)->dd lt key l->(∀ k,k*w+w<=a->bY key (bf (k*w) (k*w+w) l)) ->
  BlkW key w n l (dV lt w n f a l)
 |0,a,l,h,p,_,_,_,_=>by omega
 |f+1,a,l,h,p,t,⟨c,i⟩,j,q=>by
  simp only[dV];split;rename_i m;have d:=Ka (key:=key) (lt:=lt) (a:=a) (b:=a+w) (by omega) (by omega) j;have e:bY key (bf a (a+w) (bA lt a (a+w) l)):=by
   rw[Ve (by omega) (by omega)];refine(nC (j.sub λz o=>?_)).1;exact ubq (ubr o)
  have r:=wK v f (a+w) (bA lt a (a+w) l) (by omega) m (by rw[rF (by omega) (by omega)];exact t) ⟨c+1,by rw[i,uew]⟩ (j.sub λz o=>d.mem.1 o) (λk s=>by
   rcases uct k c with h|h|h
   have g:(k+1)*w<=c*w:=ube _ h;rw[uew]at g;rw[Vc (by omega) (by omega)];exact q k (by omega);subst h;rw[<- i];exact e;have g:(c+1)*w<=k*w:=ube _ h;rw[uew]at g;omega)
  refine⟨r.mul,r.le,r.lt,r.len,d.trans r.same,?_,r.done⟩;rw[r.drop];obtain⟨y,u⟩:=r.mul;have:a+w<=(dV lt w n f (a+w) (bA lt a (a+w) l)).1:=by
   have:∀ (f a:Nat) (l:List α),a<=(dV lt w n f a l).1:=by
    intro f
    induction f with
    |zero=>intro a l;exact ue9 _
    |succ f x=>
     intro a l;simp only[dV];split;exact ueo (by omega) (x _ _);exact ue9 _
   exact this _ _ _
  exact Pw (by omega) (by omega) this;exact⟨⟨c,i⟩,p,by omega,t,bh.refl _,rfl,λk s=>q k s⟩
def BlkW.last{lt:α->α->Bool}{w:Nat}{l:List α}{r:Nat×List α}(h:BlkW key w n l r)(j:dd lt key l):wt key w (bA lt r.1 n r.2)/\bh key l (bA lt r.1 n r.2)/\(bA lt r.1 n r.2).length=n:=by
 have a:=h.len;have d:=j.sub λz g=>h.same.mem.1 g;refine⟨λk=>?_,h.same.trans (Ka h.le (by omega) d),by rw[rF h.le (by omega)];exact a⟩;obtain⟨c,i⟩:=h.mul;have m:=h.le;have o:=h.lt;rcases uct k c with b|b|b
 have f:(k+1)*w<=c*w:=ube _ b;rw[uew]at f;rw[Vc (by omega) (by omega)];exact h.done k (by omega);subst b;rw[<- i];have:bf r.1 (r.1+w) (bA lt r.1 n r.2)=bf r.1 n (bA lt r.1 n r.2):=by
  have e:=rF (lt:=lt) h.le (Nat.le_of_eq a.symm);unfold bf;rw[ua3 (by omega),ua3 (by omega)]
 rw[this,Ve h.le (by omega)];exact(nC (d.sub λz g=>ubq (ubr g))).1;have f:(c+1)*w<=k*w:=ube _ b;rw[uew]at f;have:bf (k*w) (k*w+w) (bA lt r.1 n r.2)=[]:=by
  have e:=rF (lt:=lt) h.le (Nat.le_of_eq a.symm);apply uab;rw[Vd];omega
 rw[this];exact List.Pairwise.nil
def kU(lt:α->α->Bool)(w n:Nat)(l:List α):List α:=
 let r:=dV lt (2*w) n (n+1) 0 l
 if r.1+w<n then bA lt r.1 n r.2 else r.2
def TW{lt:α->α->Bool}{w:Nat}{l:List α}(o:0<w)(j:l.length=n)(e:dd lt key l)(h:wt key w l):
  wt key (2*w) (kU lt w n l)/\bh key l (kU lt w n l)/\(kU lt w n l).length=n:=by
 have r:=wK (w:=2*w) (by omega) (n+1) 0 l (by omega) (by omega) j ⟨0,by simp⟩ e (λk a=>by omega);unfold kU;generalize dV lt (2*w) n (n+1) 0 l=d at r |-;simp only;split;exact r.last e;rename_i m;refine⟨λk=>?_,r.same,r.len⟩;obtain⟨c,i⟩:=r.mul;have f:=r.len;rcases uct k c with a|a|a
 have b:(k+1)*(2*w)<=c*(2*w):=ube _ a;rw[uew]at b;exact r.done k (by omega);subst a;have b:k*(2*w)=(2*k)*w:=by rw[uev 2 k,uen]
 have g:bf (k*(2*w)) (k*(2*w)+2*w) d.2=bf ((2*k)*w) ((2*k)*w+w) d.2:=by
  rw[<- b];unfold bf;rw[ua3 (by omega),ua3 (by omega)]
 rw[g,DB r.drop (by omega)];exact h (2*k);have b:(c+1)*(2*w)<=k*(2*w):=ube _ a;rw[uew]at b;have:bf (k*(2*w)) (k*(2*w)+2*w) d.2=[]:=by
  apply uab;rw[Vd];omega
 rw[this];exact List.Pairwise.nil
def eK(lt:α->α->Bool)(n:Nat):Nat->Nat->List α->List α
 |0,_,l=>l
 |f+1,w,l=>if w<n then eK lt n f (2*w) (kU lt w n l)else l
def TX{lt:α->α->Bool}:(f w:Nat)->(l:List α)->0<w->n<=f+w->l.length=n->dd lt key l->wt key w l->eK lt n f w l=cM lt l
 |0,w,l,g,j,e,a,b=>by
  simp only[eK];refine mQ a ?_ (bh.refl l);have:=b 0;unfold bf at this;simpa[ua3 (show l.length<=w by omega)]using this
 |f+1,w,l,g,j,e,a,b=>by
  simp only[eK];split;obtain⟨h,c,i⟩:=TW g e a b;rw[TX f (2*w) _ (by omega) (by omega) i (a.sub λz d=>c.mem.1 d) h];obtain⟨k,m⟩:=nC (a.sub λz d=>c.mem.1 d);exact mQ a k (c.trans m);refine mQ a ?_ (bh.refl l);have:=b 0;unfold bf at this;simpa[ua3 (show l.length<=w by omega)]using this
def KV(lt:α->α->Bool)(l:List α):List α:=
 let r:=dV lt 20 l.length (l.length+1) 0 l
 eK lt l.length l.length 20 (bA lt r.1 l.length r.2)
def zap{lt:α->α->Bool}{l:List α}(a:dd lt key l):KV lt l=cM lt l:=by
 have r:=wK (w:=20) (by omega) (l.length+1) 0 l (by omega) (by omega) rfl ⟨0,by simp⟩ a (λk h=>by omega);unfold KV;obtain⟨d,b,e⟩:=r.last a;rw[TX _ 20 _ (by omega) (by omega) e (a.sub λz c=>b.mem.1 c) d];obtain⟨f,g⟩:=nC (a.sub λz c=>b.mem.1 c);exact mQ a f (b.trans g)
end
section
open Go Go.RowKit
def Tr.jn(l:Nat):Tr->Tr
 |.leaf (.jump i) s=>if i=l then .leaf .normal s else .need False (.leaf .ret s)
 |.leaf .normal s=>.need False (.leaf .ret s)
 |.leaf e s=>.leaf e s
 |.br b x y=>.br b (x.jn l) (y.jn l)
 |.need p x=>.need p (x.jn l)
 |.two p x y=>.two p (x.jn l) (y.jn l)
def wn{l:Nat}{Q:XE->St->Prop}:{t:Tr}->(t.jn l).sat Q->t.sat λe s=>match e with
  |.jump i=>i=l/\Q .normal s
  |.normal=>False
  |e=>Q e s
 |.leaf e s,a=>by
  cases e with
  |normal=>exact a.1
  |exit i=>exact a
  |ret=>exact a
  |panic p=>exact a
  |val v=>exact a
  |jump i=>
   simp only[Tr.jn]at a;split at a;rename_i h;exact⟨h,a⟩;exact a.1.elim
 |.br b x y,a=>⟨λc=>wn (a.1 c),λc=>wn (a.2 c)⟩
 |.need p x,a=>⟨a.1,wn a.2⟩
 |.two p x y,a=>⟨λc=>wn (a.1 c),wn a.2⟩
def WR(P:Program)(E:Env)(l:Nat)(p:Pt)(Q:p.Out->Prop)(e:Exit)(a:Act)(w:World):Prop:=
 ∃ r,Q r/\match r with
  |.next m=>e=.goto l/\I P E (p.M.tpl p.n m) a w
  |.out y=>e=.exit p.id/\I P E (p.E.tpl p.n y) a w
  |.back z=>e=.ret/\I P E (p.R.tpl p.n z) a w
  |.pan v=>e=.panic [{ v:=v.val,recovered:=Y }]/\∃ s,s.n=p.n/\I P E s a w
def gi(P:Program)(l:Nat)(c:Code)(L:LS)(p:Pt)(f:L.X->Fr p.Out):Prop:=
 ∀ (E:Env) (a:Act) (w:World) (x:L.X) (Q:p.Out->Prop),I P E (L.tpl p.n x) a w->(f x).satP Q->c.wp P (WR P E l p Q) a w
def US(P:Program)(C:Cx)(bs:Nat)(Λ:Nat->St->Option Tr)(l:Nat)(c:Code)(L:LS)(p:Pt)(x:L.X):Option (Fr p.Out):=
 match cr P C bs Λ c 0 (L.tpl p.n x)with
 |some t=>p.lp.rdOf C.Γ (t.jn l)
 |none=>V
def lr(P:Program)(E:Env)(c:Code)(run:St->Option Tr):Prop:=
 ∀ s t,run s=U t->∀ Q:XE->St->Prop,t.sat Q->∀ (a:Act) (w:World),I P E s a w->c.wp P (eq P E Q) a w
def sq(a b:St->Option Tr)(s:St):Option Tr:=
 match a s with
 |some t=>t.bind b
 |none=>V
def KC(P:Program)(run:St->Option Tr)(fn:Func)(ps:List PT)(rs:List Ty)(xs:ag ps):Option (Fr (aa rs)):=
 if (fn.name == "runtime.NumGoroutine")=Y/\ps.length<=fn.ntmps then match run (sj fn.ntmps (eI ps xs))with
  |some t=>ib P fn.results.toList rs t
  |none=>V
 else V
section
variable {P:Program} {E:Env}
def gi.of_run{C:Cx}(o:CxOK P C){bs l:Nat}{Λ:Nat->St->Option Tr}{c:Code}{L:LS}{p:Pt}(s:p.M.low=Z)(r:p.E.low=Z)(u:p.R.low=Z)(hΛ:∀ E,bP P E Λ c 0){f:L.X->Fr p.Out}(A:∀ x,US P C bs Λ l c L p x=U (f x)):gi P l c L p f:=by
 intro E a w x Q hi z;have j:=A x;unfold US at j;split at j<;>try trivial
 rename_i t B;have m:=wn (p.lp.rd_sat j z);refine wp_mono (fR o c 0 (hΛ E) B m hi) ?_;rintro e G w' ⟨F,D,rfl,h,b⟩;cases F with
 |normal=>exact b.elim
 |exit i=>
  obtain⟨rfl,d,y,q,n,k,g⟩:=b;have:=jG o.ct r h n k;rw[d]at this;exact⟨.out y,g,rfl,this⟩
 |ret=>
  obtain⟨d,y,q,n,k,g⟩:=b;have:=jG o.ct u h n k;rw[d]at this;exact⟨.back y,g,rfl,this⟩
 |panic v=>exact⟨.pan v,b.2,rfl,D,b.1,h⟩
 |val _=>exact b.elim
 |jump _=>
  obtain⟨rfl,d,y,q,n,k,g⟩:=b;have:=jG o.ct s h n k;rw[d]at this;exact⟨.next y,g,rfl,this⟩
def gi.scope {c rest:Code} {L N Eo R:LS} {id l:Nat} {f:L.X->Fr (Rd L.X Eo.X R.X)} (hf:findLabel c l=U rest) (T:gi P l c L ⟨n,id,L,Eo,R⟩ f) (W:gi P l rest L ⟨n,id,L,Eo,R⟩ f)
  {F:L.X->Fr (Rd N.X Eo.X R.X)} {inv:L.X->Prop} {μ:L.X->Nat}
  (q:∀ x,inv x->∀ Q:Rd N.X Eo.X R.X->Prop,(F x).satP Q->(f x).satP λ
   |.next b=>inv b/\μ b<μ x/\(F b).satP Q
   |.out y=>Q (.out y)
   |.back z=>Q (.back z)
   |.pan p=>Q (.pan p)) (o:∀ x Q,(F x).satP Q->inv x):ae P (.scope c) L ⟨n,id,N,Eo,R⟩ F:=by
 intro E a w x Q hi S;have key:∀ x a w (i:Code) (J:Nat->Act->World->Prop),(∀ a w (b:L.X),inv b->μ b<μ x->I P E (L.tpl n b) a w->(F b).satP Q->∃ m,m<μ x/\J m a w)->gi P l i L ⟨n,id,L,Eo,R⟩ f->inv x->I P E (L.tpl n x) a w->(F x).satP Q ->
   i.wp P (Exit.jump l (λa w=>∃ m,m<μ x/\J m a w) (zI P E ⟨n,id,N,Eo,R⟩ Q)) a w:=by
  intro x a w i J D h hx H C;refine wp_mono (h E a w x _ H (q x hx Q C)) ?_;rintro e O w' ⟨r,k,j⟩;cases r with
  |next b=>
   obtain⟨rfl,d⟩:=j;exact⟨rfl,D O w' b k.1 k.2.1 d k.2.2⟩
  |out y=>
   obtain⟨rfl,d⟩:=j;exact⟨.out y,k,rfl,d⟩
  |back z=>
   obtain⟨rfl,d⟩:=j;exact⟨.back z,k,rfl,d⟩
  |pan v=>
   obtain⟨rfl,d⟩:=j;exact⟨.pan v,k,rfl,d⟩
 have g:∀ {J B:Act->World->Prop} {i:Code} {a:Act} {w:World},(∀ a w,J a w->B a w)->i.wp P (Exit.jump l J (zI P E ⟨n,id,N,Eo,R⟩ Q)) a w->i.wp P (Exit.jump l B (zI P E ⟨n,id,N,Eo,R⟩ Q)) a w:=by
  intro J B i a w D h;refine wp_mono h λe O w' G=>?_;cases e with
  |goto l'=>exact⟨G.1,D _ _ G.2⟩
  |_=>exact G
 refine wp_scope_jumps l (λa w=>∃ m,∃ x,inv x/\μ x=m/\I P E (L.tpl n x) a w/\(F x).satP Q) (λa w=>u9 λm=>∃ x,inv x/\μ x=m/\I P E (L.tpl n x) a w/\(F x).satP Q) hf ?_ ?_;exact g (λa w ⟨m,_,h⟩=>⟨m,h⟩) (key x a w c (λm a w=>∃ x,inv x/\μ x=m/\I P E (L.tpl n x) a w/\(F x).satP Q) (λa w b s t u A=>⟨μ b,t,b,s,rfl,u,A⟩) T (o x Q S) hi S);rintro a w ⟨m,j⟩;obtain⟨⟨b,s,t,u,A⟩,_⟩:=uA (p:=λm=>∃ x,inv x/\μ x=m/\I P E (L.tpl n x) a w/\(F x).satP Q) ⟨m,j⟩;refine g (λa1 w1 ⟨K,r1,M⟩=>⟨⟨K,M⟩,?_⟩) (key b a w rest (λm a w=>∃ x,inv x/\μ x=m/\I P E (L.tpl n x) a w/\(F x).satP Q) (λa w b s t u A=>⟨μ b,t,b,s,rfl,u,A⟩) W s u A);rw[<- t];exact ucd ((uA ⟨K,M⟩).2 K M) r1
def ae.run{C:Cx}(u:CxOK P C){c:Code}{L:LS}{p:Pt}{F:L.X->Fr p.Out}(D:L.low=Z)(h:ae P c L p F):lr P E c (p.han C.Γ L F):=by
 intro s t j Q G a w hi;unfold Pt.han at j;split at j<;>try trivial
 rename_i q;split at j<;>try trivial
 rename_i x n K;cases j;obtain⟨l,o⟩:=jm _ G;have b:=jG u.ct D hi K l;rw[q]at b;refine wp_mono (h E a w x _ b (p.toTr_sat o)) ?_;rintro e B w' ⟨r,i,f⟩;cases r with
 |next m=>
  obtain⟨rfl,b⟩:=f;exact⟨.normal,_,rfl,b,i⟩
 |out y=>
  obtain⟨rfl,b⟩:=f;exact⟨.exit p.id,_,rfl,b,i⟩
 |back z=>
  obtain⟨rfl,b⟩:=f;exact⟨.ret,_,rfl,b,i⟩
 |pan v=>
  obtain⟨rfl,M,k,b⟩:=f;have d:I P E ⟨p.n,λ_=>.dead,λ_=>V,λ_=>.dead⟩ B w':=by
   have:=jG u.ct (L:=⟨[],[]⟩) rfl b rfl trivial;rw[k]at this;obtain⟨F',γ',h⟩:=this;exact⟨F',γ',h.n,h.df,h.step,h.mem,λt=>uT,λt g A v H=>(nomatch H),λt=>uT⟩
  exact⟨.panic v,_,rfl,d,i⟩
def zmz{C:Cx}(a:CxOK P C){bs:Nat}{Λ:Nat->St->Option Tr}{c:Code}(hΛ:bP P E Λ c 0):lr P E c (cr P C bs Λ c 0):=
 λ_ _ h _ b _ _ hi=>fR a c 0 hΛ h b hi
def z8{x y:Code}{j k:St->Option Tr}(n:lr P E x j)(o:lr P E y k):lr P E (.seq x y) (sq j k):=by
 intro s t h Q q a w hi;unfold sq at h;split at h<;>try trivial
 rename_i z g;refine wp_seq (wp_mono (n s z g _ (sx h q) a w hi) ?_);rintro e m w' ⟨A,d,rfl,b,c⟩;cases A with
 |normal=>
  obtain⟨u,r,f⟩:=c;exact o _ u r Q f m w' b
 |exit i=>exact⟨.exit i,d,rfl,b,c⟩
 |ret=>exact⟨.ret,d,rfl,b,c⟩
 |panic p=>exact⟨.panic p,d,rfl,b,c⟩
 |val v=>exact⟨.val v,d,rfl,b,c⟩
 |jump l=>exact⟨.jump l,d,rfl,b,c⟩
def QM{fn:Func}{c:Code}{run:St->Option Tr}{ps:List PT}{rs:List Ty}{fr:ag ps->Fr (aa rs)}(x0:ag ps)(W:P.funcs[f]?= U fn)(o:fn.body=U c)(M:∀ E,lr P E c run)(l:∀ xs,KC P run fn ps rs xs=U (fr xs)):af P f ⟨ps,rs,λxs=>(fr xs).get,λxs=>[(fr xs).ok]⟩:=by
 have B:=l x0;unfold KC at B;split at B<;>try trivial
 rename_i hc;obtain⟨g,hn⟩:=hc;refine⟨enters W o g,λw F xs vs G hr L=>ufd W o ?_⟩;have i:=l xs;unfold KC at i;rw[ufv ⟨g,hn⟩]at i;split at i<;>try trivial
 rename_i t ht;have hlen:vs.length=ps.length:=by
  have:∀ {ps:List PT} {xs:ag ps} {vs:List Value},cJ P w F ps xs vs->vs.length=ps.length:=by
   intro ps
   induction ps with
   |nil=>intro xs vs h;cases h;rfl
   |cons p r ih=>
    intro xs vs h;obtain⟨v,vs',rfl,_,h3⟩:=h;simp[ih h3]
  exact this hr
 have j:=vV (D:=[]) (n:=fn.ntmps) G (λR=>mO hr) (by omega);have Q:=M _ _ t ht _ (qX i L) _ _ j;have hsz:(vs.toArray).size=vs.length:=by simp
 refine wp_mono Q ?_;rintro e C w' ⟨xe,s0,rfl,⟨F0,γ',x⟩,S,s,O,n,a,K⟩;obtain⟨F',hi⟩:∃ F',InvG P _ s C w' [] F' γ':=by
  rcases O with rfl|rfl
  exact⟨F0,x⟩;exact Cd _ x
 have k:C.defers=[]/\∃ v,(results fn C.tmps).run P w'=.ok v w'/\fJ w F rs (fr xs).get (.returned v) w':=by
  unfold dh at a;split at a<;>try trivial
  rename_i avs n' A;split at a<;>try trivial
  rename_i axs u N;split at a<;>try trivial
  rename_i y q;injection a with a
  obtain⟨H,hy⟩:=uL a K;subst hy;obtain⟨us,z,m⟩:=nz hi A H;obtain⟨F'',hs,hm',_,T⟩:=iy hi.mem (dv hi) (cX.of λ_ _ h=>h) N m;obtain⟨γ0,B⟩:=hi.step;have d:=B.trans hs;refine⟨hi.df,_,pz z,_,F'',rfl,⟨d.os,d.tape,d.output,d.size,d.old⟩,d.hF,λb o=>⟨d.new b o,d.bd b o⟩,vH (lC q T)⟩
 rcases S with rfl|rfl
 exact k;exact k
end
end
end Go.Ab
