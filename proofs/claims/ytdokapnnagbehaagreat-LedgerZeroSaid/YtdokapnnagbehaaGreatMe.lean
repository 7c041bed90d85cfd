/-
  Parts of the proof, one behind the other.
-/
import Derived.Test.YtdokapnnagbehaaGreatMd
import Derived.ScopeJumps
set_option linter.all false
set_option maxRecDepth 100000
set_option maxHeartbeats 4000000
open Option renaming some->U,none->V
open Bool renaming true->Z,false->Y
open Decidable renaming decide->J
open Go Go.RowKit
variable {T α σ ρ β:Type} {P:Program} {ad:Addr} {arr cs cur:Array Value} {f:FuncId} {x a y day:Int} {k:IntKind} {l:List Int} {xs vs news:List Value} {off i n b c d j B m len:Nat} {F F' K:Nat->Prop} {R g R':Nat->Value->Prop} {o:Oper} {p:Prop} {e ety t ty el:TypeId} {v u vx:Value} {w w' W' W:World}
namespace Go.Ab
section
variable {α:Type} {key:α->Int}
def bY(key:α->Int)(l:List α):Prop:=l.Pairwise λx y=>key x<=key y
def bh(key:α->Int)(l s:List α):Prop:=∀ k,s.filter (λx=>key x==k)=l.filter (λx=>key x==k)
def bh.refl(l:List α):bh key l l:=λ_=>rfl
def bh.trans{a b c:List α}(h:bh key a b)(k:bh key b c):bh key a c:=λn=>(k n).trans (h n)
def bh.symm{a b:List α}(h:bh key a b):bh key b a:=λn=>(h n).symm
def bh.app{a b c d:List α}(h:bh key a b)(k:bh key c d):bh key (a++c) (b++d):=λn=>by simp[h n,k n]
def bh.mem{l s:List α}(h:bh key l s){x:α}:x∈s↔x∈l:=by
 have:=ufo (x ∈ ·) (h (key x));simpa using this
def bh.swap{a b:List α}(h:∀ x∈a,∀ y∈b,key x≠key y):bh key (a++b) (b++a):=λn=>by
 simp only[uci];by_cases m:∃ x∈a,key x=n;obtain⟨x,t,q⟩:=m;have hb:b.filter (λx=>key x==n)=[]:=by
  rw[List.filter_eq_nil_iff];intro y j;have:=h x t y j;simp;omega
 rw[hb];simp;have i:a.filter (λx=>key x==n)=[]:=by
  rw[List.filter_eq_nil_iff];intro y j q;exact m ⟨y,j,by simpa using q⟩
 rw[i];simp
def WH:{s t:List α}->bY key s->bY key t->bh key s t->s=t
 |[],t,_,_,h=>by
  cases t with
  |nil=>rfl
  |cons y t=>have:=(h.mem (x:=y)).1 (by simp);simp at this
 |x::s,[],_,_,h=>by have:=(h.mem (x:=x)).2 (by simp);simp at this
 |x::s,y::t,q,u,h=>by
  have i:=ub9.1 q;have j:=ub9.1 u;have w:key x<=key y:=by
   rcases uef.1 ((h.mem (x:=y)).1 (by simp))with e|e
   exact Int.le_of_eq (by rw[e]);exact i.1 y e
  have C:key y<=key x:=by
   rcases uef.1 ((h.mem (x:=x)).2 (by simp))with e|e
   exact Int.le_of_eq (by rw[e]);exact j.1 x e
  have m:key x=key y:=by omega
  have h0:=h (key x);simp only[List.filter_cons,m,beq_self_eq_true,if_true,udn]at h0;obtain⟨rfl,h0⟩:=h0;have:s=t:=WH i.2 j.2 λn=>by
   have:=h n;simp only[List.filter_cons]at this;split at this;simpa using this;exact this
  rw[this]
def rl(lt:α->α->Bool)(x:α):List α->List α
 |[]=>[x]
 |y::r=>if lt y x then y::rl lt x r else x::y::r
def cM(lt:α->α->Bool):List α->List α
 |[]=>[]
 |x::r=>rl lt x (cM lt r)
def RI{lt:α->α->Bool}{x:α}:(l:List α)->(rl lt x l).Perm (x::l)
 |[]=>List.Perm.refl _
 |y::r=>by
  simp only[rl];split;exact(List.Perm.cons y (RI r)).trans (List.Perm.swap x y r);exact List.Perm.refl _
def KS{lt:α->α->Bool}:(l:List α)->(cM lt l).Perm l
 |[]=>List.Perm.refl _
 |x::r=>(RI _).trans (List.Perm.cons x (KS r))
def mj{lt:α->α->Bool}(l:List α):(cM lt l).length=l.length:=(KS l).length_eq
def yZ{lt:α->α->Bool}{l:List α}{x:α}:x∈cM lt l↔x∈l:=(KS l).mem_iff
def dd(lt:α->α->Bool)(key:α->Int)(l:List α):Prop:=∀ x∈l,∀ y∈l,lt x y=J (key x<key y)
def dd.sub{lt:α->α->Bool}{l s:List α}(h:dd lt key l)(i:∀ x∈s,x∈l):dd lt key s:=λx j y m=>h x (i x j) y (i y m)
def RJ{lt:α->α->Bool}{x:α}:{l:List α}->dd lt key (x::l)->bY key l->bY key (rl lt x l)/\bh key (x::l) (rl lt x l)
 |[],_,_=>⟨uay _ _,bh.refl _⟩
 |y::r,h,w=>by
  have i:=ub9.1 w;have q:=h y (by simp) x (by simp);simp only[rl];split;rename_i j;rw[j]at q;have P:key y<key x:=by simpa using q.symm
  obtain⟨C,t⟩:=RJ (x:=x) (h.sub (by intro z hz;simp at hz |-;rcases hz with rfl|hz<;>simp[*])) i.2;refine⟨ub9.2 ⟨λz hz=>?_,C⟩,?_⟩;rcases uef.1 ((t.mem).1 hz)with rfl|hz
  omega;exact i.1 z hz;have F:bh key ([x]++[y]) ([y]++[x]):=bh.swap λa u b hb=>by simp at u hb;subst u;subst hb;omega
  have H:=F.app (bh.refl r);have N:=(bh.refl [y]).app t;exact H.trans N;rename_i j;have O:lt y x=false:=by simpa using j
  rw[O]at q;have m:key x<=key y:=by simpa using q.symm
  exact⟨ub9.2 ⟨λz hz=>by
   rcases uef.1 hz with rfl|hz
   exact m;exact ue0 m (i.1 z hz),w⟩,bh.refl _⟩
def nC{lt:α->α->Bool}:{l:List α}->dd lt key l->bY key (cM lt l)/\bh key l (cM lt l)
 |[],_=>⟨List.Pairwise.nil,bh.refl _⟩
 |x::r,h=>by
  obtain⟨i,j⟩:=nC (l:=r) (h.sub (by intro z hz;simp[hz]));obtain⟨m,q⟩:=RJ (x:=x) (h.sub (by
   intro z hz;rcases uef.1 hz with rfl|hz
   simp;simp[yZ.1 hz])) i
  exact⟨m,bh.trans (bh.app (bh.refl [x]) j) q⟩
def mQ{lt:α->α->Bool}{l s:List α}(h:dd lt key l)(q:bY key s)(m:bh key l s):s=cM lt l:=by
 obtain⟨i,j⟩:=nC h;exact WH q i (m.symm.trans j)
def bA(lt:α->α->Bool)(a b:Nat)(l:List α):List α:=l.take a++(cM lt ((l.take b).drop a)++l.drop b)
def rE{lt:α->α->Bool}{a:Nat}{p s q:List α}(m:p.length=a)(hb:(p++s).length=b):bA lt a b (p++(s++q))=p++(cM lt s++q):=by
 subst m hb;have i:(p++(s++q)).take (p++s).length=p++s:=by rw[<- ucq];exact udw rfl
 have j:(p++(s++q)).drop (p++s).length=q:=by rw[<- ucq];exact udx rfl
 unfold bA;rw[i,j,udw rfl,udx rfl]
def KT{l:List α}{a:Nat}(i:a<=b)(hb:b<=l.length):∃ p s q,l=p++(s++q)/\p.length=a/\s.length=b-a/\q.length=l.length-b:=
 ⟨l.take a,(l.take b).drop a,l.drop b,by
  have j:(l.take b).take a=l.take a:=by rw[ud5,udm i]
  rw[<- ucq,<- j,uba,uba],by simp;omega,by simp;omega,by simp⟩
def fx(l:List α)(d:α)(i j:Nat):List α:=(l.set i (l.getD j d)).set j (l.getD i d)
end
section
variable {α:Type} {key:α->Int} {d:α}
def Ce{p s q:List α}(h:i<s.length):(p++(s++q)).getD (p.length+i) d=s.getD i d:=by
 simp[uae,uaj h]
def VB{p r q:List α}{x y:α}(hi:i=p.length)(w:j=p.length+1+r.length):fx (p++(x::(r++(y::q)))) d i j=p++(y::(r++(x::q))):=by
 subst hi w;unfold fx;have m:(p++(x::(r++(y::q)))).getD (p.length+1+r.length) d=y:=by
  rw[show p++(x::(r++(y::q)))=(p++[x]++r)++(y::q) by simp];simp only[uah];rw[uae (by simp;omega)];simp[show p.length+1+r.length-(p.length+(r.length+1))=0 by omega]
 have t:(p++(x::(r++(y::q)))).getD p.length d=x:=by simp
 rw[m,t];have u:(p++(x::(r++(y::q)))).set p.length y=p++(y::(r++(y::q))):=by simp
 rw[u];rw[show p++(y::(r++(y::q)))=(p++[y]++r)++(y::q) by simp,List.set_append_right _ _ (by simp;omega)];simp[show p.length+1+r.length-(p.length+(r.length+1))=0 by omega]
def VD{p q:List α}{x y:α}(hi:i=p.length):fx (p++(x::(y::q))) d i (i+1)=p++(y::(x::q)):=
 VB (r:=[]) hi (by simp[hi])
def zbe{l:List α}(h:i≠j):fx l d j i=fx l d i j:=by
 unfold fx;rw[List.set_comm _ _ (by omega)]
def VF{p q:List α}{x y:α}(hi:i=p.length):fx (p++(x::(y::q))) d (i+1) i=p++(y::(x::q)):=by
 rw[zbe (by omega),VD hi]
def fp(lt:α->α->Bool)(d:α)(a:Nat):Nat->List α->List α
 |0,l=>l
 |j+1,l=>if a<j+1 then bif lt (l.getD (j+1) d) (l.getD j d)then fp lt d a j (fx l d (j+1) j)else l else l
def lI(lt:α->α->Bool)(d:α)(a:Nat):Nat->Nat->List α->List α
 |0,_,l=>l
 |n+1,i,l=>lI lt d a n (i+1) (fp lt d a i l)
def Vm(s:List α):s=[] \/ ∃ t y,s=t++[y]:=by
 cases h:s.reverse with
 |nil=>exact .inl (by simpa using h)
 |cons y t=>exact .inr ⟨t.reverse,y,by have:=ufo List.reverse h;simpa using this⟩
def RK{lt:α->α->Bool}{p:List α}{x:α}:(n:Nat)->(s q:List α)->s.length=n->dd lt key (s++[x])->bY key s ->
  ∃ t,fp lt d p.length (p.length+n) (p++(s++(x::q)))=p++(t++q)/\bY key t/\bh key (s++[x]) t
 |0,s,q,F,_,_=>by
  obtain rfl:=uaz.1 F;refine⟨[x],?_,uay _ _,bh.refl _⟩;cases hp:p.length with
  |zero=>simp[fp]
  |succ j=>simp[fp]
 |n+1,s,q,F,N,O=>by
  rcases Vm s with rfl|⟨i,y,rfl⟩
  simp at F;have m:i.length=n:=by simpa using F
  have u:=ubo.1 O;have e1:p++((i++[y])++(x::q))=(p++i)++(y::(x::q)):=by simp
  have hk:=N x (by simp) y (by simp);have P:(p++((i++[y])++(x::q))).getD (p.length+n+1) d=x:=by
   rw[e1];simp only[uah];rw[uae (by simp;omega)];simp[m]
  have Q:(p++((i++[y])++(x::q))).getD (p.length+n) d=y:=by
   rw[e1];simp only[uah];simp[m]
  rw[show p.length+(n+1)=(p.length+n)+1 by omega];simp only[fp,P,Q];rw[if_pos (by omega),hk];by_cases C:key x<key y;simp only[C,cond_true];rw[e1,VF (by simp[m])];obtain⟨t,S,W,H⟩:=RK (x:=x) n i (y::q) m (N.sub (by intro z hz;simp at hz |-;rcases hz with h|h<;>simp[h])) u.1;have e2:(p++i)++(x::(y::q))=p++(i++(x::(y::q))):=by simp
  rw[e2,S];refine⟨t++[y],by simp,?_,?_⟩;refine ubo.2 ⟨W,uay _ _,λa w b hb=>?_⟩;simp at hb;subst hb;rcases udp.1 (H.mem.1 w)with h|h
  exact u.2.2 a h _ (by simp);simp at h;subst h;omega;have h4:bh key ((i++[y])++[x]) (i++[x]++[y]):=by
   rw[ucq,ucq];exact(bh.refl i).app (bh.swap λa w b hb=>by simp at w hb;subst w hb;omega)
  exact h4.trans (H.app (bh.refl [y]));simp only[C,cond_false];refine⟨i++[y]++[x],by simp,?_,bh.refl _⟩;refine ubo.2 ⟨O,uay _ _,λa w b hb=>?_⟩;simp at hb;subst hb;rcases udp.1 w with h|h
  have:=u.2.2 a h y (by simp);omega;simp at h;subst h;omega
def RM{lt:α->α->Bool}{p q:List α}:(u s:List α)->dd lt key (s++u)->bY key s->∃ t,lI lt d p.length u.length (p.length+s.length) (p++(s++(u++q)))=p++(t++q)/\bY key t/\bh key (s++u) t
 |[],s,_,i=>⟨s,by simp[lI],i,by simpa using bh.refl s⟩
 |x::u,s,w,i=>by
  obtain⟨t,j,F,m⟩:=RK (x:=x) s.length s (u++q) rfl (w.sub (by intro z hz;simp at hz |-;rcases hz with h|h<;>simp[h])) i;have C:t.length=s.length+1:=by
   have:=ufo List.length j;have H:∀ (n:Nat) (l:List α),(fp lt d p.length n l).length=l.length:=by
    intro n
    induction n with
    |zero=>intro l;rfl
    |succ n N=>
     intro l;simp only[fp];split;cases lt (l.getD (n+1) d) (l.getD n d);rfl;simp[N,fx];rfl
   rw[H]at this;simp at this;omega
  obtain⟨S,O,P,Q⟩:=RM u t (w.sub (by
   intro z hz;rcases udp.1 hz with h|h
   have:=m.mem.1 h;simp at this |-;rcases this with h|h<;>simp[h]
   simp[h])) F
  refine⟨S,?_,P,?_⟩;simp only[uc7,lI,uc2];rw[j,show p.length+s.length+1=p.length+t.length by omega];exact O;have:s++x::u=(s++[x])++u:=by simp
  rw[this];exact(m.app (bh.refl u)).trans Q
def qn1{lt:α->α->Bool}{a:Nat}{l:List α}(j:a<=b)(hb:b<=l.length)(N:dd lt key l):lI lt d a (b-(a+1)) (a+1) l=bA lt a b l:=by
 obtain⟨p,s,q,rfl,O,w,_⟩:=KT j hb;subst O;cases s with
 |nil=>
  have:b=p.length:=by simp at w;omega
  subst this;rw[rE rfl (by simp)];simp[lI,cM]
 |cons x u=>
  simp at w;have m:b=p.length+(1+u.length):=by omega
  subst m;rw[rE rfl (by simp;omega)];have i:=N.sub λz hz=>ua6 _ (ubj _ hz);obtain⟨t,C,F,H⟩:=RM (d:=d) u [x] (by simpa using i) (uay _ _);have e:=mQ i F (by simpa using H);subst e;rw[<- C];simp[show p.length+(1+u.length)-(p.length+1)=u.length by omega]
def nG(d:α):Nat->Nat->List α->List α
 |0,_,l=>l
 |n+1,k,l=>nG d n (k+1) (fx l d k (k+1))
def mM(d:α):Nat->Nat->List α->List α
 |0,_,l=>l
 |n+1,k,l=>mM d n (k-1) (fx l d k (k-1))
def Wr{x:α}:(s p q:List α)->nG d s.length p.length (p++(x::(s++q)))=p++(s++(x::q))
 |[],p,q=>by simp[nG]
 |y::s,p,q=>by
  simp only[uc7,nG,uc2];rw[VD rfl];have:=Wr (x:=x) s (p++[y]) q;simpa using this
def Pu{x:α}:(n:Nat)->(s p q:List α)->s.length=n->mM d n (p.length+n) (p++(s++(x::q)))=p++(x::(s++q))
 |0,s,p,q,h=>by
  obtain rfl:=uaz.1 h;simp[mM]
 |n+1,s,p,q,h=>by
  rcases Vm s with rfl|⟨i,y,rfl⟩
  simp at h;have j:i.length=n:=by simpa using h
  rw[show p.length+(n+1)=(p.length+n)+1 by omega];simp only[mM,ubz];have e1:p++((i++[y])++(x::q))=(p++i)++(y::(x::q)):=by simp
  rw[e1,VF (by simp[j])];have:=Pu (x:=x) n i p (y::q) j;simpa using this
def e9(d:α):Nat->Nat->Nat->List α->List α
 |0,_,_,l=>l
 |n+1,a,b,l=>e9 d n (a+1) (b+1) (fx l d a b)
def Ej:(x z y p q:List α)->x.length=z.length->∀ {b:Nat},b=p.length+x.length+y.length->e9 d x.length p.length b (p++(x++(y++(z++q))))=p++(z++(y++(x++q)))
 |[],z,y,p,q,h,b,hb=>by
  obtain rfl:=uaz.1 h.symm;simp[e9]
 |u::x,[],y,p,q,h,b,hb=>by simp at h
 |u::x,v::z,y,p,q,h,b,hb=>by
  simp only[uc7,e9,uc2];have e1:p++(u::(x++(y++(v::(z++q)))))=p++(u::((x++y)++(v::(z++q)))):=by simp
  rw[e1,VB rfl (by simp at hb |-;omega)];have:=Ej x z (y++[u]) (p++[v]) q (by simpa using h) (b:=b+1) (by simp at hb |-;omega);simpa using this
def dH(d:α)(m:Nat):Nat->Nat->Nat->List α->Nat×List α
 |0,i,_,l=>(i,l)
 |f+1,i,j,l=>if i=j then (i,l)else if i>j then dH d m f (i-j) j (e9 d j (m-i) m l)else dH d m f i (j-i) (e9 d i (m-i) (m+j-i) l)
def pC(d:α)(a m b:Nat)(l:List α):List α:=let r:=dH d m (b-a) (m-a) (b-m) l;e9 d r.1 (m-r.1) m r.2
def K3{m:Nat}:(f:Nat)->(x y p q:List α)->x.length+y.length<=f->0<x.length->0<y.length->m=p.length+x.length ->
  e9 d (dH d m f x.length y.length (p++(x++(y++q)))).1 (m-(dH d m f x.length y.length (p++(x++(y++q)))).1) m (dH d m f x.length y.length (p++(x++(y++q)))).2=p++(y++(x++q))
 |0,x,y,p,q,h,N,_,_=>by omega
 |f+1,x,y,p,q,h,N,O,H=>by
  simp only[dH];split;rename_i P;subst H;have:=Ej (d:=d) x y [] p q P (b:=p.length+x.length) (by simp);simpa using this;split;rename_i u t;obtain⟨x1,x2,rfl,w⟩:∃ x1 x2,x=x1++x2/\x1.length=y.length:=⟨x.take y.length,x.drop y.length,by simp,by simp;omega⟩;simp only[ub5]at H h t N |-;have e:=Ej (d:=d) x1 y x2 p q w (b:=m) (by omega);have F:m-(x1.length+x2.length)=p.length:=by omega
  rw[F,<- w];rw[show p++(x1++x2++(y++q))=p++(x1++(x2++(y++q))) by simp,e];have:=K3 (m:=m) f x2 x1 (p++y) q (by omega) (by omega) (by omega) (by simp;omega);rw[show x1.length+x2.length-x1.length=x2.length by omega];simpa using this;rename_i u t;obtain⟨i,j,rfl,C⟩:∃ i j,y=i++j/\j.length=x.length:=⟨y.take (y.length-x.length),y.drop (y.length-x.length),by simp,by simp;omega⟩;simp only[ub5]at H h t O u |-;have e:=Ej (d:=d) x j i p q C.symm (b:=m+(i.length+j.length)-x.length) (by omega);have F:m-x.length=p.length:=by omega
  rw[F];rw[show p++(x++(i++j++q))=p++(x++(i++(j++q))) by simp,e];have:=K3 (m:=m) f j i p (x++q) (by omega) (by omega) (by omega) (by omega);rw[show i.length+j.length-x.length=i.length by omega,<- C];simpa using this
def UA{a:Nat}{x y p q:List α}(i:0<x.length)(j:0<y.length)(t:a=p.length)(u:m=a+x.length)(hb:b=m+y.length):pC d a m b (p++(x++(y++q)))=p++(y++(x++q)):=by
 have:=K3 (d:=d) (m:=m) (b-a) x y p q (by omega) i j (by omega);unfold pC;rw[show m-a=x.length by omega,show b-m=y.length by omega];exact this
def cp(Q:Nat->Bool):Nat->Nat->Nat->Nat
 |0,i,_=>i
 |f+1,i,j=>if i<j then bif Q ((i+j)/2)then cp Q f ((i+j)/2+1) j else cp Q f i ((i+j)/2)else i
def wM{Q:Nat->Bool}:(f i j:Nat)->j-i<=f->i<=j->(∀ u v,i<=u->u<=v->v<j->Q v=Z->Q u=Z) ->
  i<=cp Q f i j/\cp Q f i j<=j/\(∀ k,i<=k->k<cp Q f i j->Q k=Z)/\(∀ k,cp Q f i j<=k->k<j->Q k=Y)
 |0,i,j,h,w,_=>by
  simp only[cp];exact⟨ue6 _,w,λk q t=>by omega,λk q t=>by omega⟩
 |f+1,i,j,h,w,m=>by
  simp only[cp];by_cases F:i<j;rw[if_pos F];cases hq:Q ((i+j)/2)with
  |true=>
   simp only[cond_true];obtain⟨S,W,H,N⟩:=wM (Q:=Q) f ((i+j)/2+1) j (by omega) (by omega) (λu v hu C hv=>m u v (by omega) C hv);refine⟨by omega,W,λk q t=>?_,N⟩;by_cases O:k<=(i+j)/2;exact m k _ q O (by omega) hq;exact H k (by omega) t
  |false=>
   simp only[cond_false];obtain⟨S,W,H,N⟩:=wM (Q:=Q) f i ((i+j)/2) (by omega) (by omega) (λu v hu C hv=>m u v hu C (by omega));refine⟨S,by omega,H,λk q t=>?_⟩;by_cases O:k<(i+j)/2;exact N k q O;cases P:Q k with
   |false=>rfl
   |true=>rw[m _ k (by omega) (by omega) t P]at hq;cases hq
  rw[if_neg F];exact⟨ue6 _,w,λk q t=>by omega,λk q t=>by omega⟩
end
section
variable {α:Type} {key:α->Int} {d:α}
def bf(a b:Nat)(l:List α):List α:=(l.take b).drop a
def rZ{p s q:List α}{a:Nat}(j:p.length=a)(hb:a+s.length=b):bf a b (p++(s++q))=s:=by
 subst j hb;unfold bf;have i:(p++(s++q)).take (p.length+s.length)=p++s:=by rw[<- ucq];exact udw (by simp)
 rw[i,udx rfl]
def Vf{l:List α}{a:Nat}(j:a<=m)(t:m<=b)(u:b<=l.length):∃ p q,l=p++(bf a m l++(bf m b l++q))/\p.length=a/\(bf a m l).length=m-a/\(bf m b l).length=b-m/\q.length=l.length-b:=by
 obtain⟨p,s,q,rfl,i,w,hq⟩:=KT (uel j t) u;obtain⟨x,y,rfl,C⟩:∃ x y,s=x++y/\x.length=m-a:=⟨s.take (m-a),s.drop (m-a),by simp,by simp;omega⟩;have F:y.length=b-m:=by simp at w;omega
 have e1:bf a m (p++(x++y++q))=x:=by
  rw[ucq];exact rZ i (by omega)
 have e2:bf m b (p++(x++y++q))=y:=by
  rw[show p++(x++y++q)=(p++x)++(y++q) by simp];exact rZ (by simp;omega) (by omega)
 rw[e1,e2];exact⟨p,q,by simp,i,C,F,by omega⟩
def rF{lt:α->α->Bool}{a:Nat}{l:List α}(i:a<=b)(j:b<=l.length):(bA lt a b l).length=l.length:=by
 unfold bA;simp[mj];omega
def Vn{lt:α->α->Bool}{l:List α}(h:dd lt key l)(i:bY key l):cM lt l=l:=(mQ h i (bh.refl l)).symm
def Ka{lt:α->α->Bool}{a:Nat}{l:List α}(i:a<=b)(hb:b<=l.length)(j:dd lt key l):bh key l (bA lt a b l):=by
 obtain⟨p,s,q,rfl,m,t,_⟩:=KT i hb;rw[rE m (by simp;omega)];have h:=(nC (l:=s) (j.sub λz hz=>ua6 _ (ubj _ hz))).2;exact(bh.refl p).app (h.app (bh.refl q))
def zem(lt:α->α->Bool)(d:α)(a m b:Nat)(l:List α):Nat:=
 cp (λc=>!lt (l.getD ((a+b)/2+m-1-c) d) (l.getD c d)) ((if (a+b)/2<m then (a+b)/2 else m)-(if (a+b)/2<m then (a+b)/2+m-b else a)) (if (a+b)/2<m then (a+b)/2+m-b else a) (if (a+b)/2<m then (a+b)/2 else m)
def cT(d:α)(m j i:Nat)(l:List α):List α:=if j<m/\m<i then pC d j m i l else l
def pO(lt:α->α->Bool)(d:α)(a m b:Nat)(l:List α):List α:=
 if m-a=1 then nG d (cp (λh=>lt (l.getD h d) (l.getD a d)) (b-m) m b-1-a) a l
 else if b-m=1 then mM d (m-cp (λh=>!lt (l.getD m d) (l.getD h d)) (m-a) a m) m l
 else
  let i:=zem lt d a m b l
  let aX:=(a+b)/2
  let j:=aX+m-i
  let q:=cT d m i j l
  let l2:=if a<i/\i<aX then bA lt a aX q else q
  if aX<j/\j<b then bA lt aX b l2 else l2
def oW{l:List α}(t:bY key l)(q:i<=j)(m:j<l.length):key (l.getD i d)<=key (l.getD j d):=by
 rcases uem i j with h|h
 have:=uan.1 t i j (by omega) m h;simpa[uah,uaq m,uaq (show i<l.length by omega)]using this;have:i=j:=by omega
 subst this;exact ue7 _
def fo{l:List α}(h:i<l.length):l.getD i d∈l:=by
 simp[uah,uaq h]
def oJ{l:List α}{x:α}(h:x∈l):∃ i,i<l.length/\l.getD i d=x:=by
 obtain⟨i,hi,rfl⟩:=List.getElem_of_mem h;exact⟨i,hi,by simp[uah,uaq hi]⟩
def VK{lt:α->α->Bool}{a:Nat}{p A B q:List α}(hp:p.length=a)(hA:A.length=m-a)(hB:B.length=b-m)(h1:a<m)(h2:m<b)(hl:dd lt key (A++B))(sA:bY key A)(sB:bY key B):
  ∃ N A2 O B2,A=N++A2/\B=O++B2/\a+N.length=zem lt d a m b (p++(A++(B++q)))/\m+O.length+zem lt d a m b (p++(A++(B++q)))=(a+b)/2+m /\
   (∀ x∈N,∀ y∈B2,key x<=key y)/\(∀ y∈O,∀ x∈A2,key y<key x):=by
 have gA:∀ i,i<A.length->(p++(A++(B++q))).getD (a+i) d=A.getD i d:=λi hi=>by rw[<- hp];exact Ce hi
 have gB:∀ i,i<B.length->(p++(A++(B++q))).getD (m+i) d=B.getD i d:=λi hi=>by
  rw[show p++(A++(B++q))=(p++A)++(B++q) by simp,show m=(p++A).length by simp;omega];exact Ce hi
 generalize hL:p++(A++(B++q))=L at gA gB |-;have H:∀ c,a<=c->c<m->m<=(a+b)/2+m-1-c->(a+b)/2+m-1-c<b ->
   (!lt (L.getD ((a+b)/2+m-1-c) d) (L.getD c d))=J (key (A.getD (c-a) d)<=key (B.getD ((a+b)/2+m-1-c-m) d)):=λc c1 c2 c3 c4=>by
  have e1:=gA (c-a) (by omega);have e2:=gB ((a+b)/2+m-1-c-m) (by omega);rw[show a+(c-a)=c by omega]at e1;rw[show m+((a+b)/2+m-1-c-m)=(a+b)/2+m-1-c by omega]at e2;rw[e1,e2,hl _ (ua6 _ (fo (by omega))) _ (ubj _ (fo (by omega)))];rw[udu];simp
 generalize F:(if (a+b)/2<m then (a+b)/2+m-b else a)=s0;generalize C:(if (a+b)/2<m then (a+b)/2 else m)=w;have b1:a<=s0/\s0<=w/\w<=m/\w<=(a+b)/2/\(a+b)/2+m<=b+s0/\(s0=a\/s0+b=(a+b)/2+m)/\(w=m\/w=(a+b)/2):=by
  subst F C;split<;>omega
 obtain⟨c1,c2,c3,c4,c5,c6,c7⟩:=b1;obtain⟨r1,r2,r3,r4⟩:=wM (Q:=λc=>!lt (L.getD ((a+b)/2+m-1-c) d) (L.getD c d)) (w-s0) s0 w (ue6 _) c2 (λu v hu huv hv h=>by
  rw[H v (by omega) (by omega) (by omega) (by omega)]at h;rw[H u (by omega) (by omega) (by omega) (by omega)];simp only[uct]at h |-;have k1:=oW (d:=d) sA (i:=u-a) (j:=v-a) (by omega) (by omega);have k2:=oW (d:=d) sB (i:=(a+b)/2+m-1-v-m) (j:=(a+b)/2+m-1-u-m) (by omega) (by omega);omega)
 have hS:zem lt d a m b L=cp (λc=>!lt (L.getD ((a+b)/2+m-1-c) d) (L.getD c d)) (w-s0) s0 w:=by
  unfold zem;rw[F,C]
 rw[hS];generalize cp (λc=>!lt (L.getD ((a+b)/2+m-1-c) d) (L.getD c d)) (w-s0) s0 w=t at r1 r2 r3 r4 |-;refine⟨A.take (t-a),A.drop (t-a),B.take ((a+b)/2-t),B.drop ((a+b)/2-t),by simp,by simp,?_,?_,?_,?_⟩;simp;omega;simp;omega;intro x S y W;obtain⟨i,hi,rfl⟩:=oJ (d:=d) S;obtain⟨j,P,rfl⟩:=oJ (d:=d) W;simp at hi P;have e1:(A.take (t-a)).getD i d=A.getD i d:=by simp[uah,show i<t-a by omega]
 have e2:(B.drop ((a+b)/2-t)).getD j d=B.getD ((a+b)/2-t+j) d:=by simp[uah]
 rw[e1,e2];have hq:=r3 (t-1) (by omega) (by omega);rw[H (t-1) (by omega) (by omega) (by omega) (by omega)]at hq;simp only[uct]at hq;have k1:=oW (d:=d) sA (i:=i) (j:=t-1-a) (by omega) (by omega);have k2:=oW (d:=d) sB (i:=(a+b)/2+m-1-(t-1)-m) (j:=(a+b)/2-t+j) (by omega) (by omega);omega;intro y W x S;obtain⟨i,hi,rfl⟩:=oJ (d:=d) S;obtain⟨j,P,rfl⟩:=oJ (d:=d) W;simp at hi P;have e1:(A.drop (t-a)).getD i d=A.getD (t-a+i) d:=by simp[uah]
 have e2:(B.take ((a+b)/2-t)).getD j d=B.getD j d:=by simp[uah,show j<(a+b)/2-t by omega]
 rw[e1,e2];have hq:=r4 t (ue6 _) (by omega);rw[H t (by omega) (by omega) (by omega) (by omega)]at hq;simp only[uav]at hq;have k1:=oW (d:=d) sA (i:=t-a) (j:=t-a+i) (by omega) (by omega);have k2:=oW (d:=d) sB (i:=j) (j:=(a+b)/2+m-1-t-m) (by omega) (by omega);omega
def zae{lt:α->α->Bool}{i m q j:List α}(C:dd lt key ((i++m)++(q++j)))(W:bY key (i++m))(sB:bY key (q++j))(H:∀ x∈i,∀ y∈j,key x<=key y)(F:∀ y∈q,∀ x∈m,key y<key x):
  cM lt (i++q)++cM lt (m++j)=cM lt ((i++m)++(q++j)):=by
 have P:dd lt key (i++q):=C.sub λz hz=>by simp at hz |-;rcases hz with h|h<;>simp[h]
 have l2:dd lt key (m++j):=C.sub λz hz=>by simp at hz |-;rcases hz with h|h<;>simp[h]
 obtain⟨s1,N⟩:=nC P;obtain⟨s2,O⟩:=nC l2;have Q:=ubo.1 W;have S:=ubo.1 sB;refine mQ C (ubo.2 ⟨s1,s2,λx t y u=>?_⟩) ?_;rw[yZ]at t u;rcases udp.1 t with t|t<;>rcases udp.1 u with u|u
 exact Q.2.2 x t y u;exact H x t y u;exact ueq (F x t y u);exact S.2.2 x t y u;have e1:bh key (i++(m++q)++j) (i++(q++m)++j):=((bh.refl i).app (bh.swap λx t y u=>by have:=F y u x t;omega)).app (bh.refl j);have e2:=N.app O;have w:bh key ((i++m)++(q++j)) ((i++q)++(m++j)):=by simpa using e1
 exact w.trans e2
def zbi{lt:α->α->Bool}{a:Nat}{p A B q:List α}(hp:p.length=a)(hA:A.length=m-a)(hB:B.length=b-m)(h1:a<m)(h2:m<b)(P:dd lt key (A++B))(sA:bY key A)(sB:bY key B):pO lt d a m b (p++(A++(B++q)))=p++(cM lt (A++B)++q):=by
 unfold pO;split
 rename_i hm;cases A with
 |nil=>simp at hA;omega
 |cons x A=>
  obtain rfl:A=[]:=by simp at hA;exact uaz.1 (by omega)
  have gx:(p++([x]++(B++q))).getD a d=x:=by subst hp;simp[uah]
  have gB:∀ i,i<B.length->(p++([x]++(B++q))).getD (m+i) d=B.getD i d:=λi hi=>by
   rw[show p++([x]++(B++q))=(p++[x])++(B++q) by simp,show m=(p++[x]).length by simp;omega];exact Ce hi
  have O:∀ k,m<=k->k<b->lt ((p++([x]++(B++q))).getD k d) ((p++([x]++(B++q))).getD a d)=J (key (B.getD (k-m) d)<key x):=λk k1 k2=>by
   have:=gB (k-m) (by omega);rw[show m+(k-m)=k by omega]at this;rw[this,gx];exact P _ (ua6 _ (fo (by omega))) _ (by simp)
  obtain⟨r1,r2,r3,r4⟩:=wM (Q:=λh=>lt ((p++([x]++(B++q))).getD h d) ((p++([x]++(B++q))).getD a d)) (b-m) m b (ue6 _) (by omega) (λu v S huv hv h=>by
   rw[O v (by omega) hv]at h;rw[O u S (by omega)];simp only[uct]at h |-;have:=oW (d:=d) sB (i:=u-m) (j:=v-m) (by omega) (by omega);omega)
  generalize cp (λh=>lt ((p++([x]++(B++q))).getD h d) ((p++([x]++(B++q))).getD a d)) (b-m) m b=r at r1 r2 r3 r4 |-;obtain⟨t,F,rfl,hB1⟩:∃ t F,B=t++F/\t.length=r-m:=⟨B.take (r-m),B.drop (r-m),by simp,by simp;omega⟩;have hB':t.length+F.length=b-m:=by simpa using hB
  have W:∀ y∈t,key y<key x:=λy H=>by
   obtain⟨j,hj,rfl⟩:=oJ (d:=d) H;have:=r3 (m+j) (by omega) (by omega);rw[O (m+j) (by omega) (by omega)]at this;simp only[uct,uax]at this
   rwa [show(t++F).getD j d=t.getD j d by simp[uah,uaj hj]]at this
  have f2:∀ y∈F,key x<=key y:=λy H=>by
   obtain⟨j,hj,rfl⟩:=oJ (d:=d) H;have:=r4 (r+j) (by omega) (by omega);rw[O (r+j) (by omega) (by omega)]at this;simp only[uav]at this;rw[show(t++F).getD (r+j-m) d=F.getD j d by
    simp only[uah];rw[uae (by omega),show r+j-m-t.length=j by omega]]at this
   omega
  rw[show r-1-a=t.length by omega];have hup:=Wr (d:=d) (x:=x) t p (F++q);rw[hp]at hup;have e0:p++([x]++(t++F++q))=p++(x::(t++(F++q))):=by simp
  rw[e0,hup];have pB:=ubo.1 sB;have hS:t++(x::F)=cM lt ([x]++(t++F)):=by
   refine mQ P (ubo.2 ⟨pB.1,ub9.2 ⟨λy H=>f2 y H,pB.2.1⟩,λy H z hz=>?_⟩) ?_;rcases uef.1 hz with rfl|hz
   exact ueq (W y H);exact pB.2.2 y H z hz;have e1:bh key (([x]++t)++F) ((t++[x])++F):=(bh.swap λu S y H=>by simp at S;subst S;have:=W y H;omega).app (bh.refl F);simpa using e1
  rw[<- hS];simp
 split
 rename_i _ hm;cases B with
 |nil=>simp at hB;omega
 |cons x B=>
  obtain rfl:B=[]:=by simp at hB;exact uaz.1 (by omega)
  have gx:(p++(A++([x]++q))).getD m d=x:=by
   rw[show p++(A++([x]++q))=(p++A)++(x::q) by simp,show m=(p++A).length by simp;omega];simp only[uah];rw[uae (ue6 _)];simp
  have gA:∀ i,i<A.length->(p++(A++([x]++q))).getD (a+i) d=A.getD i d:=λi hi=>by rw[<- hp];exact Ce hi
  have O:∀ k,a<=k->k<m->(!lt ((p++(A++([x]++q))).getD m d) ((p++(A++([x]++q))).getD k d))=J (key (A.getD (k-a) d)<=key x):=λk k1 k2=>by
   have:=gA (k-a) (by omega);rw[show a+(k-a)=k by omega]at this;rw[this,gx,P _ (ua6 _ (by simp)) _ (ubj _ (fo (by omega))),udu];simp
  obtain⟨r1,r2,r3,r4⟩:=wM (Q:=λh=>!lt ((p++(A++([x]++q))).getD m d) ((p++(A++([x]++q))).getD h d)) (m-a) a m (ue6 _) (by omega) (λu v S huv hv h=>by
   rw[O v (by omega) hv]at h;rw[O u S (by omega)];simp only[uct]at h |-;have:=oW (d:=d) sA (i:=u-a) (j:=v-a) (by omega) (by omega);omega)
  generalize cp (λh=>!lt ((p++(A++([x]++q))).getD m d) ((p++(A++([x]++q))).getD h d)) (m-a) a m=r at r1 r2 r3 r4 |-;obtain⟨w,C,rfl,hA1⟩:∃ w C,A=w++C/\w.length=r-a:=⟨A.take (r-a),A.drop (r-a),by simp,by simp;omega⟩;have hA':w.length+C.length=m-a:=by simpa using hA
  have W:∀ y∈w,key y<=key x:=λy H=>by
   obtain⟨j,hj,rfl⟩:=oJ (d:=d) H;have:=r3 (a+j) (by omega) (by omega);rw[O (a+j) (by omega) (by omega)]at this;simp only[uct,uax]at this
   rwa [show(w++C).getD j d=w.getD j d by simp[uah,uaj hj]]at this
  have f2:∀ y∈C,key x<key y:=λy H=>by
   obtain⟨j,hj,rfl⟩:=oJ (d:=d) H;have:=r4 (r+j) (by omega) (by omega);rw[O (r+j) (by omega) (by omega)]at this;simp only[uav]at this;rw[show(w++C).getD (r+j-a) d=C.getD j d by
    simp only[uah];rw[uae (by omega),show r+j-a-w.length=j by omega]]at this
   omega
  have hdn:=Pu (d:=d) (x:=x) C.length C (p++w) q rfl;have e0:p++(w++C++([x]++q))=(p++w)++(C++(x::q)):=by simp
  have e1:m=(p++w).length+C.length:=by simp;omega
  rw[e0,show m-r=C.length by omega];rw[<- e1]at hdn;rw[hdn];have pA:=ubo.1 sA;have hS:w++(x::C)=cM lt ((w++C)++[x]):=by
   refine mQ P (ubo.2 ⟨pA.1,ub9.2 ⟨λy H=>ueq (f2 y H),pA.2.1⟩,λy H z hz=>?_⟩) ?_;rcases uef.1 hz with rfl|hz
   exact W y H;exact pA.2.2 y H z hz;have e1:bh key (w++(C++[x])) (w++([x]++C)):=(bh.refl w).app (bh.swap λu S y H=>by simp at H;subst H;have:=f2 u S;omega);simpa using e1
  rw[<- hS];simp
 obtain⟨w,C,t,F,rfl,rfl,e1,e2,W,f2⟩:=VK (d:=d) (q:=q) hp hA hB h1 h2 P sA sB;simp only;generalize zem lt d a m b (p++(w++C++(t++F++q)))=st at e1 e2 |-;simp only[ub5]at hA hB;have hen:(a+b)/2+m-st=m+t.length:=by omega
 rw[hen];have hR:cT d m st (m+t.length) (p++(w++C++(t++F++q)))=p++(w++t++(C++F++q)):=by
  unfold cT;split;rename_i hc;have:=UA (d:=d) (a:=st) (m:=m) (b:=m+t.length) (x:=C) (y:=t) (p:=p++w) (q:=F++q) (by omega) (by omega) (by simp;omega) (by omega) rfl;simpa using this;rename_i hc;by_cases hb1:t=[];subst hb1;simp;have:=uby.2 hb1;have:C=[]:=uaz.1 (by omega);subst this;simp
 rw[hR];have l1:dd lt key (w++t):=P.sub λz hz=>by simp at hz |-;rcases hz with h|h<;>simp[h]
 have l2:dd lt key (C++F):=P.sub λz hz=>by simp at hz |-;rcases hz with h|h<;>simp[h]
 have pA:=ubo.1 sA;have pB:=ubo.1 sB;have hmid:(a+b)/2=a+(w.length+t.length):=by omega
 have hL:(if a<st/\st<(a+b)/2 then bA lt a ((a+b)/2) (p++(w++t++(C++F++q)))else p++(w++t++(C++F++q)))=p++(cM lt (w++t)++(C++F++q)):=by
  split;exact rE hp (by simp;omega);rename_i hc;have:cM lt (w++t)=w++t:=by
   refine Vn l1 ?_;by_cases N:w=[];subst N;simpa[bY]using pB.1;have:=uby.2 N;have:t=[]:=uaz.1 (by omega);subst this;simpa[bY]using pA.1
  rw[this]
 rw[hL];have hRt:(if (a+b)/2<m+t.length/\m+t.length<b then bA lt ((a+b)/2) b (p++(cM lt (w++t)++(C++F++q)))else p++(cM lt (w++t)++(C++F++q)))=p++(cM lt (w++t)++(cM lt (C++F)++q)):=by
  split;have:=rE (lt:=lt) (a:=(a+b)/2) (b:=b) (p:=p++cM lt (w++t)) (s:=C++F) (q:=q) (by simp[mj];omega) (by simp[mj];omega);simpa using this;rename_i hc;have:cM lt (C++F)=C++F:=by
   refine Vn l2 ?_;by_cases N:C=[];subst N;simpa[bY]using pB.2.1;have:=uby.2 N;have:F=[]:=uaz.1 (by omega);subst this;simpa[bY]using pA.2.1
  rw[this]
 rw[hRt,<- zae P sA sB W f2];simp
end
section
variable {α:Type} {key:α->Int}
def Vc{lt:α->α->Bool}{a j i:Nat}{l:List α}(m:i<=a)(q:a<=l.length):bf j i (bA lt a b l)=bf j i l:=by
 unfold bf bA;rw[List.take_append_of_le_length (by simp;omega),ud5,udm m]
def Vd{a:Nat}{l:List α}:(bf a b l).length=min b l.length-a:=by simp[bf]
def Ve{lt:α->α->Bool}{a:Nat}{l:List α}(i:a<=b)(j:b<=l.length):bf a b (bA lt a b l)=cM lt (bf a b l):=by
 unfold bA;exact rZ (by simp;omega) (by rw[mj];simp;omega)
def Pw{lt:α->α->Bool}{a:Nat}{l:List α}(i:a<=b)(j:b<=l.length)(m:b<=c):(bA lt a b l).drop c=l.drop c:=by
 unfold bA;rw[<- ucq,List.drop_append,ua2 (by simp[mj];omega)];simp[mj];congr 1;omega
def DB{a:Nat}{l s:List α}(h:l.drop c=s.drop c)(hc:c<=a):bf a b l=bf a b s:=by
 unfold bf;rw[List.drop_take,List.drop_take];have:∀ t:List α,t.drop a=(t.drop c).drop (a-c):=λt=>by rw[List.drop_drop];congr 1;omega
 rw[this l,this s,h]
def wt(key:α->Int)(w:Nat)(l:List α):Prop:=∀ k,bY key (bf (k*w) (k*w+w) l)
def dV(lt:α->α->Bool)(w n:Nat):Nat->Nat->List α->Nat×List α
 |0,a,l=>(a,l)
 |f+1,a,l=>if a+w<=n then dV lt w n f (a+w) (bA lt a (a+w) l)else (a,l)
structure BlkW (key:α->Int) (w n:Nat) (l:List α) (r:Nat×List α):Prop where
 mul:∃ c,r.1=c*w
 le:r.1<=n
 lt:n<r.1+w
 len:r.2.length=n
 same:bh key l r.2
 drop:r.2.drop r.1=l.drop r.1
 done:∀ k,k*w+w<=r.1->bY key (bf (k*w) (k*w+w) r.2)
def wK{lt:α->α->Bool}{w:Nat}(hw:0<w):(f a:Nat)->(l:List α)->n<f+a->a<=n->l.length=n->(∃ c,a=c*w)->dd lt key l->(∀ k,k*w+w<=a->bY key (bf (k*w) (k*w+w) l)) ->
  BlkW key w n l (dV lt w n f a l)
 |0,a,l,h,u,_,_,_,_=>by omega
 |f+1,a,l,h,u,H,⟨c,hc⟩,q,C=>by
  simp only[dV];split;rename_i t;have i:=Ka (key:=key) (lt:=lt) (a:=a) (b:=a+w) (by omega) (by omega) q;have j:bY key (bf a (a+w) (bA lt a (a+w) l)):=by
   rw[Ve (by omega) (by omega)];refine(nC (q.sub λz hz=>?_)).1;exact ubp (ubq hz)
  have r:=wK hw f (a+w) (bA lt a (a+w) l) (by omega) t (by rw[rF (by omega) (by omega)];exact H) ⟨c+1,by rw[hc,uet]⟩ (q.sub λz hz=>i.mem.1 hz) (λk F=>by
   rcases ucs k c with h|h|h
   have m:(k+1)*w<=c*w:=ubd _ h;rw[uet]at m;rw[Vc (by omega) (by omega)];exact C k (by omega);subst h;rw[<- hc];exact j;have m:(c+1)*w<=k*w:=ubd _ h;rw[uet]at m;omega)
  refine⟨r.mul,r.le,r.lt,r.len,i.trans r.same,?_,r.done⟩;rw[r.drop];obtain⟨P,N⟩:=r.mul;have:a+w<=(dV lt w n f (a+w) (bA lt a (a+w) l)).1:=by
   have:∀ (f a:Nat) (l:List α),a<=(dV lt w n f a l).1:=by
    intro f
    induction f with
    |zero=>intro a l;exact ue6 _
    |succ f O=>
     intro a l;simp only[dV];split;exact uel (by omega) (O _ _);exact ue6 _
   exact this _ _ _
  exact Pw (by omega) (by omega) this;exact⟨⟨c,hc⟩,u,by omega,H,bh.refl _,rfl,λk F=>C k F⟩
def BlkW.last{lt:α->α->Bool}{w:Nat}{l:List α}{r:Nat×List α}(h:BlkW key w n l r)(t:dd lt key l):wt key w (bA lt r.1 n r.2)/\bh key l (bA lt r.1 n r.2)/\(bA lt r.1 n r.2).length=n:=by
 have i:=h.len;have m:=t.sub λz hz=>h.same.mem.1 hz;refine⟨λk=>?_,h.same.trans (Ka h.le (by omega) m),by rw[rF h.le (by omega)];exact i⟩;obtain⟨c,hc⟩:=h.mul;have u:=h.le;have C:=h.lt;rcases ucs k c with j|j|j
 have q:(k+1)*w<=c*w:=ubd _ j;rw[uet]at q;rw[Vc (by omega) (by omega)];exact h.done k (by omega);subst j;rw[<- hc];have:bf r.1 (r.1+w) (bA lt r.1 n r.2)=bf r.1 n (bA lt r.1 n r.2):=by
  have e:=rF (lt:=lt) h.le (Nat.le_of_eq i.symm);unfold bf;rw[ua3 (by omega),ua3 (by omega)]
 rw[this,Ve h.le (by omega)];exact(nC (m.sub λz hz=>ubp (ubq hz))).1;have q:(c+1)*w<=k*w:=ubd _ j;rw[uet]at q;have:bf (k*w) (k*w+w) (bA lt r.1 n r.2)=[]:=by
  have e:=rF (lt:=lt) h.le (Nat.le_of_eq i.symm);apply uab;rw[Vd];omega
 rw[this];exact List.Pairwise.nil
def kU(lt:α->α->Bool)(w n:Nat)(l:List α):List α:=
 let r:=dV lt (2*w) n (n+1) 0 l
 if r.1+w<n then bA lt r.1 n r.2 else r.2
def TW{lt:α->α->Bool}{w:Nat}{l:List α}(hw:0<w)(F:l.length=n)(q:dd lt key l)(hb:wt key w l):
  wt key (2*w) (kU lt w n l)/\bh key l (kU lt w n l)/\(kU lt w n l).length=n:=by
 have r:=wK (w:=2*w) (by omega) (n+1) 0 l (by omega) (by omega) F ⟨0,by simp⟩ q (λk i=>by omega);unfold kU;generalize dV lt (2*w) n (n+1) 0 l=m at r |-;simp only;split;exact r.last q;rename_i hc;refine⟨λk=>?_,r.same,r.len⟩;obtain⟨c,C⟩:=r.mul;have t:=r.len;rcases ucs k c with i|i|i
 have j:(k+1)*(2*w)<=c*(2*w):=ubd _ i;rw[uet]at j;exact r.done k (by omega);subst i;have j:k*(2*w)=(2*k)*w:=by rw[ues 2 k,uek]
 have u:bf (k*(2*w)) (k*(2*w)+2*w) m.2=bf ((2*k)*w) ((2*k)*w+w) m.2:=by
  rw[<- j];unfold bf;rw[ua3 (by omega),ua3 (by omega)]
 rw[u,DB r.drop (by omega)];exact hb (2*k);have j:(c+1)*(2*w)<=k*(2*w):=ubd _ i;rw[uet]at j;have:bf (k*(2*w)) (k*(2*w)+2*w) m.2=[]:=by
  apply uab;rw[Vd];omega
 rw[this];exact List.Pairwise.nil
def eK(lt:α->α->Bool)(n:Nat):Nat->Nat->List α->List α
 |0,_,l=>l
 |f+1,w,l=>if w<n then eK lt n f (2*w) (kU lt w n l)else l
def TX{lt:α->α->Bool}:(f w:Nat)->(l:List α)->0<w->n<=f+w->l.length=n->dd lt key l->wt key w l->eK lt n f w l=cM lt l
 |0,w,l,hw,u,m,i,hb=>by
  simp only[eK];refine mQ i ?_ (bh.refl l);have:=hb 0;unfold bf at this;simpa[ua3 (show l.length<=w by omega)]using this
 |f+1,w,l,hw,u,m,i,hb=>by
  simp only[eK];split;obtain⟨q,j,t⟩:=TW hw m i hb;rw[TX f (2*w) _ (by omega) (by omega) t (i.sub λz hz=>j.mem.1 hz) q];obtain⟨C,F⟩:=nC (i.sub λz hz=>j.mem.1 hz);exact mQ i C (j.trans F);refine mQ i ?_ (bh.refl l);have:=hb 0;unfold bf at this;simpa[ua3 (show l.length<=w by omega)]using this
def KV(lt:α->α->Bool)(l:List α):List α:=
 let r:=dV lt 20 l.length (l.length+1) 0 l
 eK lt l.length l.length 20 (bA lt r.1 l.length r.2)
def zap{lt:α->α->Bool}{l:List α}(i:dd lt key l):KV lt l=cM lt l:=by
 have r:=wK (w:=20) (by omega) (l.length+1) 0 l (by omega) (by omega) rfl ⟨0,by simp⟩ i (λk C=>by omega);unfold KV;obtain⟨m,j,q⟩:=r.last i;rw[TX _ 20 _ (by omega) (by omega) q (i.sub λz hz=>j.mem.1 hz) m];obtain⟨t,u⟩:=nC (i.sub λz hz=>j.mem.1 hz);exact mQ i t (j.trans u)
end
section
open Go Go.RowKit
def Tr.jn(l:Nat):Tr->Tr
 |.leaf (.jump i) s=>if i=l then .leaf .normal s else .need False (.leaf .ret s)
 |.leaf .normal s=>.need False (.leaf .ret s)
 |.leaf e s=>.leaf e s
 |.br b x y=>.br b (x.jn l) (y.jn l)
 |.need p x=>.need p (x.jn l)
 |.two p x y=>.two p (x.jn l) (y.jn l)
def wn{l:Nat}{Q:XE->St->Prop}:{t:Tr}->(t.jn l).sat Q->t.sat λe s=>match e with
  |.jump i=>i=l/\Q .normal s
  |.normal=>False
  |e=>Q e s
 |.leaf e s,hq=>by
  cases e with
  |normal=>exact hq.1
  |exit i=>exact hq
  |ret=>exact hq
  |panic p=>exact hq
  |val v=>exact hq
  |jump i=>
   simp only[Tr.jn]at hq;split at hq;rename_i h;exact⟨h,hq⟩;exact hq.1.elim
 |.br b x y,hq=>⟨λhb=>wn (hq.1 hb),λhb=>wn (hq.2 hb)⟩
 |.need p x,hq=>⟨hq.1,wn hq.2⟩
 |.two p x y,hq=>⟨λhb=>wn (hq.1 hb),wn hq.2⟩
def WR(P:Program)(E:Env)(l:Nat)(p:Pt)(Q:p.Out->Prop)(e:Exit)(a:Act)(w:World):Prop:=
 ∃ r,Q r/\match r with
  |.next m=>e=.goto l/\I P E (p.M.tpl p.n m) a w
  |.out y=>e=.exit p.id/\I P E (p.E.tpl p.n y) a w
  |.back z=>e=.ret/\I P E (p.R.tpl p.n z) a w
  |.pan v=>e=.panic [{ v:=v.val,recovered:=Y }]/\∃ s,s.n=p.n/\I P E s a w
def gi(P:Program)(l:Nat)(c:Code)(L:LS)(p:Pt)(f:L.X->Fr p.Out):Prop:=
 ∀ (E:Env) (a:Act) (w:World) (x:L.X) (Q:p.Out->Prop),I P E (L.tpl p.n x) a w->(f x).satP Q->c.wp P (WR P E l p Q) a w
def US(P:Program)(C:Cx)(bs:Nat)(Λ:Nat->St->Option Tr)(l:Nat)(c:Code)(L:LS)(p:Pt)(x:L.X):Option (Fr p.Out):=
 match cr P C bs Λ c 0 (L.tpl p.n x)with
 |some t=>p.lp.rdOf C.Γ (t.jn l)
 |none=>V
def lr(P:Program)(E:Env)(c:Code)(run:St->Option Tr):Prop:=
 ∀ s t,run s=U t->∀ Q:XE->St->Prop,t.sat Q->∀ (a:Act) (w:World),I P E s a w->c.wp P (eq P E Q) a w
def sq(i j:St->Option Tr)(s:St):Option Tr:=
 match i s with
 |some t=>t.bind j
 |none=>V
def KC(P:Program)(run:St->Option Tr)(fn:Func)(ps:List PT)(rs:List Ty)(xs:ag ps):Option (Fr (aa rs)):=
 if (fn.name == "runtime.NumGoroutine")=Y/\ps.length<=fn.ntmps then match run (sj fn.ntmps (eI ps xs))with
  |some t=>ib P fn.results.toList rs t
  |none=>V
 else V
section
variable {P:Program} {E:Env}
def gi.of_run{C:Cx}(S:CxOK P C){bs l:Nat}{Λ:Nat->St->Option Tr}{c:Code}{L:LS}{p:Pt}(hM:p.M.low=Z)(hE:p.E.low=Z)(hR:p.R.low=Z)(hΛ:∀ E,bP P E Λ c 0){f:L.X->Fr p.Out}(hr:∀ x,US P C bs Λ l c L p x=U (f x)):gi P l c L p f:=by
 intro E a w x Q hi hq;have F:=hr x;unfold US at F;split at F<;>try trivial
 rename_i t ht;have N:=wn (p.lp.rd_sat F hq);refine wp_mono (fR S c 0 (hΛ E) ht N hi) ?_;rintro e a' w' ⟨xe,s',rfl,u,j⟩;cases xe with
 |normal=>exact j.elim
 |exit i=>
  obtain⟨rfl,m,y,W,O,H,q⟩:=j;have:=jG S.ct hE u O H;rw[m]at this;exact⟨.out y,q,rfl,this⟩
 |ret=>
  obtain⟨m,y,W,O,H,q⟩:=j;have:=jG S.ct hR u O H;rw[m]at this;exact⟨.back y,q,rfl,this⟩
 |panic v=>exact⟨.pan v,j.2,rfl,s',j.1,u⟩
 |val _=>exact j.elim
 |jump _=>
  obtain⟨rfl,m,y,W,O,H,q⟩:=j;have:=jG S.ct hM u O H;rw[m]at this;exact⟨.next y,q,rfl,this⟩
def gi.scope {c rest:Code} {L N Eo R:LS} {id l:Nat} {f:L.X->Fr (Rd L.X Eo.X R.X)} (hf:findLabel c l=U rest) (h1:gi P l c L ⟨n,id,L,Eo,R⟩ f) (h2:gi P l rest L ⟨n,id,L,Eo,R⟩ f)
  {F:L.X->Fr (Rd N.X Eo.X R.X)} {inv:L.X->Prop} {μ:L.X->Nat}
  (O:∀ x,inv x->∀ Q:Rd N.X Eo.X R.X->Prop,(F x).satP Q->(f x).satP λ
   |.next i=>inv i/\μ i<μ x/\(F i).satP Q
   |.out y=>Q (.out y)
   |.back z=>Q (.back z)
   |.pan p=>Q (.pan p)) (H:∀ x Q,(F x).satP Q->inv x):ae P (.scope c) L ⟨n,id,N,Eo,R⟩ F:=by
 intro E a w x Q hi hq;have key:∀ x a w (t:Code) (J:Nat->Act->World->Prop),(∀ a w (i:L.X),inv i->μ i<μ x->I P E (L.tpl n i) a w->(F i).satP Q->∃ m,m<μ x/\J m a w)->gi P l t L ⟨n,id,L,Eo,R⟩ f->inv x->I P E (L.tpl n x) a w->(F x).satP Q ->
   t.wp P (Exit.jump l (λa w=>∃ m,m<μ x/\J m a w) (zI P E ⟨n,id,N,Eo,R⟩ Q)) a w:=by
  intro x a w t J hJ h hx hix hFx;refine wp_mono (h E a w x _ hix (O x hx Q hFx)) ?_;rintro e a' w' ⟨r,C,u⟩;cases r with
  |next i=>
   obtain⟨rfl,j⟩:=u;exact⟨rfl,hJ a' w' i C.1 C.2.1 j C.2.2⟩
  |out y=>
   obtain⟨rfl,j⟩:=u;exact⟨.out y,C,rfl,j⟩
  |back z=>
   obtain⟨rfl,j⟩:=u;exact⟨.back z,C,rfl,j⟩
  |pan v=>
   obtain⟨rfl,j⟩:=u;exact⟨.pan v,C,rfl,j⟩
 have q:∀ {J J':Act->World->Prop} {t:Code} {a:Act} {w:World},(∀ a w,J a w->J' a w)->t.wp P (Exit.jump l J (zI P E ⟨n,id,N,Eo,R⟩ Q)) a w->t.wp P (Exit.jump l J' (zI P E ⟨n,id,N,Eo,R⟩ Q)) a w:=by
  intro J J' t a w hJ h;refine wp_mono h λe a' w' he=>?_;cases e with
  |goto l'=>exact⟨he.1,hJ _ _ he.2⟩
  |_=>exact he
 refine wp_scope_jumps l (λa w=>∃ m,∃ x,inv x/\μ x=m/\I P E (L.tpl n x) a w/\(F x).satP Q) (λa w=>u9 λm=>∃ x,inv x/\μ x=m/\I P E (L.tpl n x) a w/\(F x).satP Q) hf ?_ ?_;exact q (λa w ⟨m,_,h⟩=>⟨m,h⟩) (key x a w c (λm a w=>∃ x,inv x/\μ x=m/\I P E (L.tpl n x) a w/\(F x).satP Q) (λa w i S W q3 q4=>⟨μ i,W,i,S,rfl,q3,q4⟩) h1 (H x Q hq) hi hq);rintro a w ⟨m,u⟩;obtain⟨⟨i,S,W,q3,q4⟩,_⟩:=uA (p:=λm=>∃ x,inv x/\μ x=m/\I P E (L.tpl n x) a w/\(F x).satP Q) ⟨m,u⟩;refine q (λa1 w1 ⟨m1,r1,r2⟩=>⟨⟨m1,r2⟩,?_⟩) (key i a w rest (λm a w=>∃ x,inv x/\μ x=m/\I P E (L.tpl n x) a w/\(F x).satP Q) (λa w i S W q3 q4=>⟨μ i,W,i,S,rfl,q3,q4⟩) h2 S q3 q4);rw[<- W];exact ucc ((uA ⟨m1,r2⟩).2 m1 r2) r1
def ae.run{C:Cx}(hC:CxOK P C){c:Code}{L:LS}{p:Pt}{F:L.X->Fr p.Out}(hL:L.low=Z)(h:ae P c L p F):lr P E c (p.han C.Γ L F):=by
 intro s t H Q hq a w hi;unfold Pt.han at H;split at H<;>try trivial
 rename_i W;split at H<;>try trivial
 rename_i x n hx;cases H;obtain⟨O,S⟩:=jm _ hq;have i:=jG hC.ct hL hi hx O;rw[W]at i;refine wp_mono (h E a w x _ i (p.toTr_sat S)) ?_;rintro e a' w' ⟨r,u,q⟩;cases r with
 |next m=>
  obtain⟨rfl,i⟩:=q;exact⟨.normal,_,rfl,i,u⟩
 |out y=>
  obtain⟨rfl,i⟩:=q;exact⟨.exit p.id,_,rfl,i,u⟩
 |back z=>
  obtain⟨rfl,i⟩:=q;exact⟨.ret,_,rfl,i,u⟩
 |pan v=>
  obtain⟨rfl,s',N,i⟩:=q;have j:I P E ⟨p.n,λ_=>.dead,λ_=>V,λ_=>.dead⟩ a' w':=by
   have:=jG hC.ct (L:=⟨[],[]⟩) rfl i rfl trivial;rw[N]at this;obtain⟨F',γ',h⟩:=this;exact⟨F',γ',h.n,h.df,h.step,h.mem,λt=>uT,λt g want v ht=>(nomatch ht),λt=>uT⟩
  exact⟨.panic v,_,rfl,j,u⟩
def tI{C:Cx}(i:CxOK P C){bs:Nat}{Λ:Nat->St->Option Tr}{c:Code}(hΛ:bP P E Λ c 0):lr P E c (cr P C bs Λ c 0):=
 λ_ _ h _ hq _ _ hi=>fR i c 0 hΛ h hq hi
def z8{x y:Code}{H N:St->Option Tr}(S:lr P E x H)(W:lr P E y N):lr P E (.seq x y) (sq H N):=by
 intro s t h Q hq a w hi;unfold sq at h;split at h<;>try trivial
 rename_i t1 F;refine wp_seq (wp_mono (S s t1 F _ (sx h hq) a w hi) ?_);rintro e O w' ⟨xe,q,rfl,j,m⟩;cases xe with
 |normal=>
  obtain⟨u,hu,C⟩:=m;exact W _ u hu Q C O w' j
 |exit i=>exact⟨.exit i,q,rfl,j,m⟩
 |ret=>exact⟨.ret,q,rfl,j,m⟩
 |panic p=>exact⟨.panic p,q,rfl,j,m⟩
 |val v=>exact⟨.val v,q,rfl,j,m⟩
 |jump l=>exact⟨.jump l,q,rfl,j,m⟩
def QM{fn:Func}{c:Code}{run:St->Option Tr}{ps:List PT}{rs:List Ty}{fr:ag ps->Fr (aa rs)}(x0:ag ps)(hf:P.funcs[f]?= U fn)(hb:fn.body=U c)(hrn:∀ E,lr P E c run)(N:∀ xs,KC P run fn ps rs xs=U (fr xs)):af P f ⟨ps,rs,λxs=>(fr xs).get,λxs=>[(fr xs).ok]⟩:=by
 have h0:=N x0;unfold KC at h0;split at h0<;>try trivial
 rename_i hc;obtain⟨m,hn⟩:=hc;refine⟨enters hf hb m,λw F xs vs hbd hr hok=>ufa hf hb ?_⟩;have q:=N xs;unfold KC at q;rw[if_pos ⟨m,hn⟩]at q;split at q<;>try trivial
 rename_i t ht;have hlen:vs.length=ps.length:=by
  have:∀ {ps:List PT} {xs:ag ps} {vs:List Value},cJ P w F ps xs vs->vs.length=ps.length:=by
   intro ps
   induction ps with
   |nil=>intro xs vs h;cases h;rfl
   |cons p r ih=>
    intro xs vs h;obtain⟨v,vs',rfl,_,h3⟩:=h;simp[ih h3]
  exact this hr
 have C:=vV (D:=[]) (n:=fn.ntmps) hbd (λR=>mO hr) (by omega);have hwp:=hrn _ _ t ht _ (qX q hok) _ _ C;have hsz:(vs.toArray).size=vs.length:=by simp
 refine wp_mono hwp ?_;rintro e a' w' ⟨xe,s0,rfl,⟨F0,γ',S⟩,hxe,s,hs0,n,i,hnn⟩;obtain⟨F',hi⟩:∃ F',InvG P _ s a' w' [] F' γ':=by
  rcases hs0 with rfl|rfl
  exact⟨F0,S⟩;exact Cd _ S
 have H:a'.defers=[]/\∃ v,(results fn a'.tmps).run P w'=.ok v w'/\fJ w F rs (fr xs).get (.returned v) w':=by
  unfold dh at i;split at i<;>try trivial
  rename_i avs n' hres;split at i<;>try trivial
  rename_i axs u hrs;split at i<;>try trivial
  rename_i y Q;injection i with i
  obtain⟨hn',hy⟩:=uL i hnn;subst hy;obtain⟨us,W,O⟩:=nz hi hres hn';obtain⟨F'',hs,hm',_,hxs⟩:=iy hi.mem (dv hi) (cX.of λ_ _ h=>h) hrs O;obtain⟨γ0,h0⟩:=hi.step;have j:=h0.trans hs;refine⟨hi.df,_,pz W,_,F'',rfl,⟨j.os,j.tape,j.output,j.size,j.old⟩,j.hF,λb hb=>⟨j.new b hb,j.bd b hb⟩,vH (lC Q hxs)⟩
 rcases hxe with rfl|rfl
 exact H;exact H
end
end
end Go.Ab
