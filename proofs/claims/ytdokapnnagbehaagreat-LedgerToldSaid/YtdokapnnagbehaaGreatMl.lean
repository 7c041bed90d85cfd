/-
  Parts of the proof, one behind the other.
-/
import Derived.Test.YtdokapnnagbehaaGreatMk
set_option linter.all false
set_option maxRecDepth 100000
set_option maxHeartbeats 4000000
noncomputable section
open Option renaming some->U,none->V
open Bool renaming true->Z,false->Y
open Decidable renaming decide->J
open List renaming replicate->Lrp
open BitVec renaming ofInt->Bvo
open Go Go.RowKit
variable {T α σ ρ β:Type} {P:Program} {ad:Addr} {arr cs cur:Array Value} {f:FuncId} {p x a y r day:Int} {k:IntKind} {l:List Int} {xs vs news:List Value} {off i n b c d B m len:Nat} {F F' K:Nat->Prop} {R g R':Nat->Value->Prop} {o:Oper} {e ety t ty el:TypeId} {v u vx:Value} {w w' W' W:World}
namespace Go.Proofs.YtdokapnnagbehaaGreat
open Go Go.Ab Go.RowKit Go.Proofs Tryz
open Go.Ab.Fr renaming val->Jv,need->Jd,br->Jb
def zck(a m:Int):0<=(nQ.f (a,[m],())).1/\((nQ.f (a,[m],())).1<=m\/(nQ.f (a,[m],())).1=0):=by
 have e:(nQ.f (a,[m],())).1=if (if m<a then m else a)<0 then 0 else (if m<a then m else a):=rfl
 have b:∀ a m:Int,0<=(if (if m<a then m else a)<0 then 0 else (if m<a then m else a))/\((if (if m<a then m else a)<0 then 0 else (if m<a then m else a))<=m\/(if (if m<a then m else a)<0 then 0 else (if m<a then m else a))=0):=by
  intro a m;by_cases h:m<a;rw[uf0 h];split<;>omega
  rw[uf1 h];split<;>omega
 rw[e];exact b a m
def qks{l g d s:Int}(h:lU p l g d s=Z):0<=g/\g<=1000000000000000:=by unfold lU at h;have h:=ucx h;omega
def zoz{g u:Int}(h:0<=g/\g<=1000000000000000)(b:¬ I6.wrap u<0):I6.wrap (g-I6.wrap u)<=g:=by
 have a:I6.wrap u<=9223372036854775807:=by rw[udg];omega
 rw[IntWalk.i64_in _ (by omega)];omega
def zar{P:Prop}[Decidable P]{b:Int}(c:0<=b)(d:0<a):0<=(if P then a else 0)+b:=by split<;>omega
def zje(c:ar.q)(a u:Int):0<=yB c a (I6.wrap u)/\yB c a (I6.wrap u)<=1000000000000000:=by
 have z:(0:Int)<=0/\(0:Int)<=1000000000000000:=by decide
 unfold yB;cases b:(kZ.f (c,())).1;exact z;cases J (a<0);cases d:J (I6.wrap u<0);have d:=uch d;have b:lU c.1 c.2.1 c.2.2.1 c.2.2.2.1 c.2.2.2.2.1=true:=b;have e:=qks b;have i:=zoz e d;have g:=zck (AJ.f (c,(AI.f (c,a,())).1,())).1 (I6.wrap (c.2.2.1-I6.wrap u));refine⟨g.1,?_⟩;rcases g.2 with h|h
 exact ue6 h (ue6 i e.2);exact ue6 (ue7 h) z.2;exact z;exact z
def gH(k:Int):List db.q->Int
 |[]=>0
 |x::l=>(if x.1=k then x.2.2.1 else 0)+gH k l
def CS(k:Int):(l m:List db.q)->gH k (l++m)=gH k l+gH k m
 |[],m=>by show gH k m=0+gH k m;rw[Int.zero_add]
 |x::l,m=>by show(if x.1=k then x.2.2.1 else 0)+gH k (l++m)=((if x.1=k then x.2.2.1 else 0)+gH k l)+gH k m;rw[CS k l m,Int.add_assoc]
def Cz(l:List db.q):Prop:=∀ x:db.q,x∈l->0<x.2.2.1
def H8(k:Int):(l:List db.q)->Cz l->0<=gH k l
 |[],_=>ufe _
 |x::l,h=>by have a:=H8 k l λy c=>h y (ubj _ c);have b:=h x ucc;exact zar a b
structure PyI (n:Nat) (s:Int×(List Int)×(List Int)×(List db.q)):Prop where
 len:s.2.2.1.length=n
 sum:∀ k:Nat,k<n->gH (k:Int) s.2.2.2=s.2.2.1.getD k 0
 paid:∀ k:Nat,0<=s.2.2.1.getD k 0/\s.2.2.1.getD k 0<=1000000000000000
 pos:Cz s.2.2.2
def MP{l:List α}{k:Nat}{v d:α}(a:i<l.length):(l.set i v).getD k d=if k=i then v else l.getD k d:=by rw[uah,uah];split;rename_i e;subst e;rw[ua0 a];rfl;rename_i e;rw[ubi (λh=>e h.symm)]
def zj4{s:Int×(List Int)×(List Int)×(List db.q)}(h:PyI n s){f b:Int}{g:Int}{o:List Int}{P:Int}(u:0<=f/\f<(n:Int))(i:0<=P/\P<=1000000000000000)(d:¬ I6.wrap (P-s.2.2.1.getD f.toNat 0)<=0):
  PyI n (g,o,s.2.2.1.set f.toNat (I6.wrap (s.2.2.1.getD f.toNat 0+I6.wrap (P-s.2.2.1.getD f.toNat 0))),s.2.2.2++[(f,b,I6.wrap (P-s.2.2.1.getD f.toNat 0),())]):=by
 have v:=h.paid f.toNat;have c:f.toNat<s.2.2.1.length:=by rw[h.len];omega
 generalize m:s.2.2.1.getD f.toNat 0=p at *;have r:I6.wrap (P-p)=P-p:=IntWalk.i64_in _ (by omega);rw[r]at d |-;have t:I6.wrap (p+(P-p))=P:=by rw[IntWalk.i64_in _ (by omega)];omega
 rw[t];refine⟨by rw[udp];exact h.len,λk l=>?_,λk=>?_,λx a=>?_⟩;show gH (k:Int) (s.2.2.2++[_])=(s.2.2.1.set f.toNat P).getD k 0;rw[CS,MP c,h.sum k l];show _+((if f=(k:Int)then P-p else 0)+0)=_;by_cases e:k=f.toNat;rw[uf0 e,uf0 (by omega),e,m];omega;rw[uf1 e,uf1 (by omega),ue8,ue8];show 0<=(s.2.2.1.set f.toNat P).getD k 0/\(s.2.2.1.set f.toNat P).getD k 0<=1000000000000000;rw[MP c];split;exact i;exact h.paid k;rcases udt.1 a with a|a
 exact h.pos x a;rw[ucf.1 a];exact ufo.1 d
def zi2(k:Int×ar.q×(List aA.q))(n:Nat)(d:nx n k.2.2)(s:Int×(List Int)×(List Int)×(List db.q))(a:PyI n s):PyI n (MW k s):=
 r9 (step:=Dr k True) (λ_=>PyI n) k.2.2 (λi e s c h=>⟨λ_=>h,λ_=>⟨λ_=>⟨h.len,h.sum,h.paid,h.pos⟩,λb=>zj4 h (d e (ubg c)) (zje _ _ _) (uch b)⟩⟩) s a
def zi6(c:ar.q)(l:List aq.q)(h:dC l):Cz (dO.f (c,l,())).1/\∀ k:Nat,k<l.length->gH (k:Int) (dO.f (c,l,())).1<=1000000000000000:=by
 have e:gP (λy=>Cz y.1/\∀ k:Nat,k<l.length->gH (k:Int) y.1<=1000000000000000) (xB (c,l,())):=by
  refine⟨λ_=>⟨λ_ a=>(nomatch a),λ_ _=>(by decide:(0:Int)<=1000000000000000)⟩,λn=>?_⟩;obtain⟨i,m⟩:=Tk c l h (gW n);have p:=(Zi c l i m).2.2;have b:nx l.length (ki (xN ((l.length:Int),l,l,c) [])):=λx a=>p x (zw.1 a);have g:∀ k,(lH l.length).getD k 0=0:=λk=>by unfold lH;rw[uah,List.getElem?_replicate];split<;>rfl
  have d:=zi2 (((ki (xN ((l.length:Int),l,l,c) [])).length:Int),c,ki (xN ((l.length:Int),l,l,c) [])) l.length b (0,lH l.length,lH l.length,[]) ⟨Qh _,λk _=>(g k).symm,λk=>by rw[show((0,lH l.length,lH l.length,[]):Int×(List Int)×(List Int)×(List db.q)).2.2.1=lH l.length from rfl,g];decide,λ_ a=>(nomatch a)⟩;exact⟨d.pos,λk o=>by rw[d.sum k o];exact(d.paid k).2⟩
 exact dS e
def qkj(p:aC.q)(a:ba.q):(lN p a).2.2.1=p.2.2.1:=by
 unfold lN;cases jA a.2.1 1 5;rfl;cases a.2.1==1;cases a.2.1==2;cases a.2.1==3;cases a.2.1==4<;>rfl
 rfl;rfl;rfl
def zoq(g:aq.q):(EH.f (g,())).1.2.2.1=0:=by
 show(m9 g).2.2.1=0;have b:∀ (l:List ba.q) (p:aC.q),(l.foldl lN p).2.2.1=p.2.2.1:=by
  intro l
  induction l with
  |nil=>intro p;rfl
  |cons a l c=>intro p;rw[List.foldl_cons,c,qkj]
 exact b g.2.1 _
def i7(l:List aC.q)(k:Nat):Int:=(l.getD k aC.j).2.2.1
def Zu{l:List aC.q}{k:Nat}{v:aC.q}(a:i<l.length):i7 (l.set i v) k=if k=i then v.2.2.1 else i7 l k:=by unfold i7;rw[MP a];split<;>rfl
def qk7(c:ar.q)(l:List aq.q)(r:List db.q):(rA ((l.length:Int),l,r,c) []).length=l.length/\∀ k,i7 (rA ((l.length:Int),l,r,c) []) k=0:=by
 have a:=r9 (step:=Di ((l.length:Int),l,r,c) True) (λi (s:List aC.q)=>s.length=i/\∀ p:aC.q,p∈s->p.2.2.1=0) l (λi e s g b=>by
  refine⟨?_,λp f=>?_⟩;show(s++[_]).length=i+1;rw[ub6,b.1];rfl;rcases udt.1 f with h|h
  exact b.2 p h;rw[ucf.1 h];exact zoq e) [] ⟨rfl,λ_ h=>(nomatch h)⟩
 refine⟨a.1,λk=>?_⟩;unfold i7;rw[uah];cases d:(rA ((l.length:Int),l,r,c) [])[k]? with
 |none=>rfl
 |some p=>exact a.2 p (ubg d)
def J0{k:Nat}(h:0<=a):k=a.toNat↔a=(k:Int):=by omega
def qko{o t:Int}(b:0<=o+a)(c:r=o+a+t)(d:0<=t)(e:r<=1000000000000000):I6.wrap (o+a)=o+a:=IntWalk.i64_in _ (by omega)
def qk9(c:ar.q)(r:List db.q)(n:Nat)(B:∀ x:db.q,x∈r->0<=x.1/\x.1<(n:Int))(t:Cz r)(D:∀ k:Nat,k<n->gH (k:Int) r<=1000000000000000)(s:Int×List aC.q)(C:s.2.length=n)(u:∀ k,i7 s.2 k=0):
  (uf ((r.length:Int),r,c) s).2.length=n/\∀ k:Nat,k<n->i7 (uf ((r.length:Int),r,c) s).2 k=gH (k:Int) r:=by
 have f:=r9 (step:=Dj ((r.length:Int),r,c) True) (λi (s:Int×List aC.q)=>s.2.length=n/\∀ k:Nat,k<n->i7 s.2 k=gH (k:Int) (r.take i)) r (λi e s p h=>by
  have b:=B e (ubg p);have A:e.1.toNat<s.2.length:=by rw[h.1];exact toNat_lt b
  have d:r.take (i+1)=r.take i++[e]:=by rw[List.take_succ,p];rfl
  show(s.2.set e.1.toNat ((s.2.getD e.1.toNat aC.j).1,(s.2.getD e.1.toNat aC.j).2.1,I6.wrap (i7 s.2 e.1.toNat+e.2.2.1),(s.2.getD e.1.toNat aC.j).2.2.2)).length=n/\∀ k:Nat,k<n->i7 (s.2.set e.1.toNat ((s.2.getD e.1.toNat aC.j).1,(s.2.getD e.1.toNat aC.j).2.1,I6.wrap (i7 s.2 e.1.toNat+e.2.2.1),(s.2.getD e.1.toNat aC.j).2.2.2)) k=_;refine⟨by rw[udp];exact h.1,λk g=>?_⟩;rw[Zu A,d,CS];show _=_+((if e.1=(k:Int)then e.2.2.1 else 0)+0);by_cases a:k=e.1.toNat;rw[uf0 a,uf0 ((J0 b.1).1 a)];have v:=h.2 k g;have l:=H8 (k:Int) (r.take (i+1)) λx o=>t x (ubq o);have m:gH (k:Int) r=gH (k:Int) (r.take (i+1))+gH (k:Int) (r.drop (i+1)):=by rw[<- CS,uba]
  have w:=H8 (k:Int) (r.drop (i+1)) λx o=>t x (ubr o);have y:=D k g;rw[d,CS]at l m;have z:gH (k:Int) [e]=e.2.2.1:=by show(if e.1=(k:Int)then e.2.2.1 else 0)+0=_;rw[uf0 ((J0 b.1).1 a),ue8]
  rw[z]at l m;show I6.wrap (i7 s.2 e.1.toNat+e.2.2.1)=_;rw[<- a,v,qko l m w y,ue8];rw[uf1 a,uf1 (λh=>a ((J0 b.1).2 h)),ue8,ue8];exact h.2 k g) s ⟨C,λk g=>u k⟩
 rw[List.take_length]at f;exact f
def qlb(c:ar.q)(n:Nat)(s:Int×List aC.q)(f:s.2.length=n):(bw (ny ((n:Int),c) True) 0 (Lrp (Int.toNat (n:Int)) ()) s).2.length=n/\∀ k,i7 (bw (ny ((n:Int),c) True) 0 (Lrp (Int.toNat (n:Int)) ()) s).2 k=i7 s.2 k:=
 r9 (step:=ny ((n:Int),c) True) (λ_ (r:Int×List aC.q)=>r.2.length=n/\∀ k,i7 r.2 k=i7 s.2 k) (Lrp (Int.toNat (n:Int)) ()) (λi e r b h=>by
  have a:=eO b;rw[ubc,uc0]at a;refine⟨λ_=>h,λ_=>?_⟩;have d:((i:Int)).toNat<r.2.length:=by rw[h.1,uc0];exact a
  refine⟨by show(List.set _ _ _).length=n;rw[udp];exact h.1,λk=>?_⟩;show i7 (r.2.set ((i:Int)).toNat _) k=_;rw[Zu d];split;rename_i e;subst e;exact h.2 _;exact h.2 k) s ⟨f,λ_=>rfl⟩
def jy(l:List aC.q):Prop:=∀ p:aC.q,p∈l->0<=p.2.2.1/\p.2.2.1<=1000000000000000
def qkq(c:ar.q)(l:List aq.q)(h:dC l):jy (t9.f (c,l,())).1:=by
 obtain⟨o,r⟩:=zi6 c l h;obtain⟨_,v,_⟩:=Zl c l h;have e:gP (λy=>jy y.1) (xA (c,l,())):=by
  refine⟨λ_ _ d=>(nomatch d),λ_=>?_⟩;have g:=qk7 c l (dO.f (c,l,())).1;have b:=qk9 c (dO.f (c,l,())).1 l.length v o r (0,rA ((l.length:Int),l,(dO.f (c,l,())).1,c) []) g.1 g.2;generalize u:uf ((List.length (α:=db.q) (dO.f (c,l,())).1:Int),(dO.f (c,l,())).1,c) (0,rA ((l.length:Int),l,(dO.f (c,l,())).1,c) [])=s at b
  have i:=qlb c l.length s b.1;show jy (bw (ny ((List.length (α:=aC.q) (uf ((List.length (α:=db.q) (dO.f (c,l,())).1:Int),(dO.f (c,l,())).1,c) (0,rA ((l.length:Int),l,(dO.f (c,l,())).1,c) [])).2:Int),c) True) 0 _ (uf _ _)).2;rw[u,b.1];intro p d;obtain⟨k,n⟩:=ubs d;have a:k<l.length:=by rw[<- i.1];exact(uak.1 n).1
  have m:=i.2 k;rw[b.2 k a]at m;have t:i7 (bw (ny ((l.length:Int),c) True) 0 (Lrp (Int.toNat (l.length:Int)) ()) s).2 k=p.2.2.1:=by unfold i7;rw[uah,n];rfl
  rw[<- t,m];exact⟨H8 _ _ o,r k a⟩
 exact dS e
def Zj:0<=(aC.j:aC.q).2.2.1/\(aC.j:aC.q).2.2.1<=1000000000000000:=by decide
def zi4{l:List aC.q}(h:jy l)(k:Nat):0<=(l.getD k aC.j).2.2.1/\(l.getD k aC.j).2.2.1<=1000000000000000:=by
 rw[uah];cases a:l[k]? with
 |none=>exact Zj
 |some p=>exact h p (ubg a)
def zi7{l:List aC.q}(h:jy l){k:Nat}{v:aC.q}(b:0<=v.2.2.1/\v.2.2.1<=1000000000000000):jy (l.set k v):=λp a=>by
 rcases uap a with a|a
 exact h p a;rw[a];exact b
def qwj(k:Int×(List Int)×(List aC.q)×Int×Int×(List bj.q)×ak.q)(a:jy k.2.2.1)(s:List aC.q)(c:jy s):jy (MU k s):=
 r9 (step:=Dl k True) (λ_=>jy) k.2.1 (λ_ _ _ _ b=>zi7 b (zi4 a _)) s c
def qwl(O:n<=40){st:ak.q}(A:ix st)(h:SI n st):(e8 st).2.1=0/\jy (e8 st).1:=by
 have c:=qpm h.ci;obtain⟨G,H⟩:=qy0 st λf a=>⟨(c f a).1,(c f a).2.1⟩;obtain⟨_,K⟩:=Wl st A.1;have o:=Bg A;have w:gP (λy=>y.2.1=0/\jy y.1) (F5 (st,())):=by
  refine⟨λk=>absurd G (jx k),λ_=>?_⟩;have d:=BL (step:=zE (mZ st) True) (λ_ (s:List aC.q)=>jy s) (λ_=>False) (js st).1 (λi e s M u=>by
   have B:=ubg M;obtain⟨E,F⟩:=K e B;have C:=H e B;obtain⟨D,g⟩:=qwh (st:=st) (Q:=λf=>f∈aJ st/\gT st f=(e.2.1,0,())) (xW (mZ st) i e s) (λx b=>⟨eT (F x b),(C.2 x b).2⟩);generalize N:ug (xW (mZ st) i e s) []=l at D g
   have t:l.length<=n:=by rw[D];exact ueq E h.nf
   have L:∀ f∈l,e.2.1.1=f.1.2.2.1:=λf a=>by have z:=(c f (g f a).1).2.2;rw[(g f a).2]at z;exact z
   have m:dC l:=⟨by omega,λf a=>o.2 f (g f a).1⟩;have T:xh e.2.1 l=0:=qn4 O t C.1 L (λx b=>h.form x (g x b).1) (λx b=>h.made x (g x b).1) (λx b=>h.na x (g x b).1);show gP _ (Jb ((vK e (ug (xW (mZ st) i e s) [])).2.1 != 0) _ _);rw[N];have v:(vK e l).2.1=0:=(qkp e.2.1 l).trans T;exact⟨λk=>absurd v (jx k),λ_=>qwj (G0 (mZ st) i e l) (qkq e.2.1 l m) s u⟩) (Lrp (Int.toNat (List.length (α:=aq.q) st.2.2.1:Int)) aC.j) (λp P=>by rw[List.eq_of_mem_replicate P];exact Zj)
  have b:∀ r,bC (zE (mZ st) True) 0 (js st).1 (Lrp (Int.toNat (List.length (α:=aq.q) st.2.2.1:Int)) aC.j)=r->iV (λ(s:List aC.q)=>jy s) (λ_=>False) r:=λr R=>R ▸ d;refine qyg (MN (Q:=λy:aa [.sl aC,i64]=>y.2.1=0/\jy y.1) (λs u=>?_) (λy S=>(b _ S).elim));exact⟨rfl,b _ u⟩
 exact dS w
def BP{b:Int}(h:a<=x/\x<=b):(fj.f ((a,b,()),[x],())).1=true:=by show iI a b [x]=Z;unfold iI;simp[h.1,h.2]
def qws{i k l b e:Int}(h:(bif bif bif bif jA i 1 1000000000 then jA p 1 1000000000 else Y then jA e 0 1000000000 else Y then bif jA l 1 292194 then jA b 1 292194 else Y else Y then jA k 0 7 else Y)=Z):(1<=i/\i<=1000000000)/\(0<=e/\e<=1000000000)/\(1<=l/\l<=292194)/\(0<=k/\k<=7):=by unfold jA at h;simp only[gQ,udd,ucu]at h;omega
def qwt{c:dx.q}(h:nN c=Z):(1<=c.1/\c.1<=1000000000)/\(0<=c.2.2.2.2.2.1/\c.2.2.2.2.2.1<=1000000000)/\(1<=c.2.2.2.1/\c.2.2.2.1<=292194)/\(0<=c.2.2.1/\c.2.2.1<=7):=qws h
def zfy{c:dx.q}{m:Int}(h:nN c=Z)(f:0<=m/\m<=1000000000000000):l8 (c.1,c.2.2.2.2.2.1,c.2.2.2.1,c.2.2.1,m,())=true:=by obtain⟨a,b,d,e⟩:=qwt h;unfold l8 xE;simp only[S2,qdu];rw[BP a,BP b,BP d,BP e,BP f];rfl
def zf0{a:ak.q}{l:List aC.q}(k:∀ g∈aJ a,nN g.1=Z)(m:jy l)(o:l.length<=List.length (α:=aq.q) (aJ a)):(MV ((l.length:Int),l,a) []).length<=l.length/\∀ x:ax.q,x∈MV ((l.length:Int),l,a) []->l8 x=true:=
 r9 (step:=Dm ((l.length:Int),l,a) True) (λi (s:List ax.q)=>s.length<=i/\∀ x:ax.q,x∈s->l8 x=Z) l (λi e s f d=>by
  refine⟨λ_=>⟨?_,λx b=>?_⟩,λ_=>⟨uc4 d.1,d.2⟩⟩;show(s++[_]).length<=i+1;rw[ub6];exact udk d.1;rcases udt.1 b with b|b
  exact d.2 x b;rw[ucf.1 b];have n:=eO f;exact zfy (c:=((aJ a).getD ((i:Int)).toNat aq.j).1) (k _ (eT ⟨ub4 _,by omega⟩)) (m e (ubg f))) [] ⟨ufd _,λ_ h=>(nomatch h)⟩
def Yj{n:Int}{y:Bool}:{l:List (Int×Bool)} -> {x:Int×Bool}->x∈eZ l n y->x.1=n\/x∈l
 |[],x,h=>by rw[ucf.1 h];exact .inl rfl
 |z::l,x,h=>by
  unfold eZ at h;cases a:z.1==n;rw[a]at h;rcases uej.1 h with h|h
  exact .inr (by rw[h];exact ucc);rcases Yj h with h|h
  exact .inl h;exact .inr (ubj _ h);rw[a]at h;rcases uej.1 h with h|h
  exact .inl (by rw[h]);exact .inr (ubj _ h)
def zgj{n:Int}{l:List (Int×Bool)}(h:∀ x∈l,x.1≠n):jf l n Y=false:=by unfold jf;rw[List.find?_eq_none.2 (λx a=>by simpa using h x a)]
def zq5{a:List ah.q}(h:Up (λt:ah.q=>t.1) a):(AP.f (a,())).1=false:=by
 have d:=BL (step:=qv ((a.length:Int),a) True) (λi (s:List (Int×Bool))=>∀ x∈s,∃ j,j<i/\∃ t:ah.q,a[j]?= U t/\t.1=x.1) (λ_=>False) a (λi e s v c=>by
  refine⟨λu=>?_,λ_ x b=>?_⟩;rw[zgj λx b p=>?_]at u;cases u;obtain⟨j,l,t,z,o⟩:=c x b;obtain⟨m,n⟩:=uak.1 z;obtain⟨k,g⟩:=uak.1 v;have:=uan.1 h j i m k l;rw[n,g]at this;exact uep _ (Int.lt_of_lt_of_le this (ue7 (o.trans p).symm));rcases Yj b with b|b
  exact⟨i,Nat.lt_succ_self _,e,v,b.symm⟩;obtain⟨j,l,r⟩:=c x b;exact⟨j,Nat.lt_succ_of_lt l,r⟩) [] (λ_ b=>(nomatch b))
 have e:(AP.f (a,())).1=match bC (qv ((a.length:Int),a) True) 0 a []with
   |.inl _=>Y
   |.inr y=>y.1.1:=by
  show(Bp (a,())).get.1=_;unfold Bp;rw[GF];split;rename_i s c;rw[show bC (qv ((a.length:Int),a) True) 0 a []=.inl s from c]
  try rfl
  rename_i y c;rw[show bC (qv ((a.length:Int),a) True) 0 a []=.inr y from c]
  try rfl
 rw[e];cases w:bC (qv ((a.length:Int),a) True) 0 a []with
 |inl s=>rfl
 |inr y=>rw[w]at d;exact d.elim
def zir{s:ak.q}(h:QI s){x:ax.q}(b:l8 x=Z):(tD.f (bT s,x,())).1=false:=by
 have a:=OA b;have e:(tD.f (bT s,x,())).1=J ((bT s).foldl (rZ x) 0>10000):=by show J (bw (Ij ((List.length (α:=ah.q) (bT s):Int),bT s,x) True) 0 (bT s) 0>10000)=_;rw[BK (g:=rZ x) (λi t n=>?_)];unfold rZ;show(if (bif t.2.1==1 then vR t x else Y)=Z then I6.wrap (n+t.2.2.2.1)else n)=_;cases (bif t.2.1==1 then vR t x else Y)<;>rfl
 rw[e];have c:=ZE x a (bT s) 0 h.right (ufe _) (by have:=h.len;omega);have d:=h.sum x.2.2.1 x.2.2.2.1 a;exact udw (by omega)
def zqi{s:ak.q}(h:QI s)(k:Up (λt:ah.q=>t.1) (bT s)){l:List ax.q}(m:l.length<=2000)(g:∀ x:ax.q,x∈l->l8 x=Z):(nR.f (bT s,l,())).1=0:=by
 have n:=h.len;have i:gP (λy:aa [i64]=>y.1=0) (NP (bT s) l):=by refine⟨λa=>?_,λ_=>⟨λa=>?_,λ_=>rfl⟩⟩;rw[zq5 k]at a;cases a;have a:l.any (λx=>(tD.f (bT s,x,())).1)=true:=a;rw[At (p:=λx=>(tD.f (bT s,x,())).1) λx c=>zir h (g x c)]at a;cases a
 have a:gP (λy:aa [i64]=>y.1=0) (GI (bT s) l):=by refine⟨λd=>?_,λ_=>⟨λd=>?_,λ_=>i⟩⟩;have:=ucx d;omega;have:=ucx d;omega
 have e:gP (λy:aa [i64]=>y.1=0) (FE (bT s,l,())):=by refine⟨λd=>⟨λb=>?_,λ_=>a⟩,λ_=>⟨λb=>?_,λ_=>a⟩⟩;have b:(bT s).any (λx=>!(gG x))=true:=b;rw[At (p:=λx=>!(gG x)) λx c=>by rw[h.right x c];rfl]at b;cases b;have b:l.any (λx=>!(l8 x))=true:=b;rw[At (p:=λx=>!(l8 x)) λx c=>by rw[g x c];rfl]at b;cases b
 exact dS e
def I0(a:Int)(l:List ay.q):List ay.q:=l.filter λx=>J (x.2.1<=a)
def qrj{h:aD.q}{t:bh.q}(b:(fT h t).2=0):(gm h t).2=0/\(c9 h t).2=0/\(eq (c9 h t).1 292195).2=0/\(fT h t).1=qrn (c9 h t).1 292195+(gm h t).1:=by
 unfold fT at *;split at b;rename_i a;rw[uf0 a];split at b;rename_i c;rw[uf0 c];have d:(c9 h t).2=0:=by unfold gm at a;split at a;rename_i d;exact d;exact a
 refine⟨a,d,c,?_⟩;have f:=(qdr c).2.2.2 292195;unfold Lm at *;split at b;cases b;rename_i e;rw[uf1 e,f];rfl;rename_i c;exact absurd b c;rename_i a;exact absurd b a
def qb7(m:n<=40){b:ak.q}(d:ix b)(h:SI n b):mT b=0\/mT b=5:=by
 by_cases i:mT b=0;exact .inl i;obtain⟨g,k⟩:=qwl m d h;rcases zpj i with e|⟨a,l,e⟩|e|e
 exact .inr e;exact .inl (e.trans (h.ci.ri.due a l));exact .inl (e.trans g);refine .inl (e.trans ?_);have c:=Mk b d.1 (Bg d) g;obtain⟨o,p⟩:=zf0 h.form k (Nat.le_of_eq c);have f:(uH b).length<=2000:=by have r:(uH b).length<=List.length (α:=aC.q) (e8 b).1:=o;have s:List.length (α:=aC.q) (e8 b).1=List.length (α:=aq.q) (aJ b):=c;have t:=h.nf;omega
 exact(zqh (bT b) (uH b)).trans (zqi h.qi h.ci.ri.tres f p)
def qrp{h:aD.q}{t:bh.q}(d:Int)(c:(fT h t).2=0):(EP.f (h,t,d,())).2.1=0:=by
 obtain⟨e,g,i,_⟩:=qrj c;obtain⟨_,_,_,k⟩:=qdr i;have b:gP (λy:aa [i64,i64]=>y.2.1=0) (F8 (h,t,d,())):=by refine⟨λa=>absurd g (jx a),λ_=>⟨λa=>absurd (ufy Prod.snd (k _)) (jx a),λ_=>⟨λa=>absurd e (jx a),λ_=>⟨λ_=>rfl,λ_=>rfl⟩⟩⟩⟩
 exact dS b
def qi1{a:ak.q}(d:Int)(h:RI a):(mO a d).2.1=0\/(mO a d).2.1=5:=by
 have c:=BL (step:=vN (uz a d) True) (λ_ _=>True) (λ_=>False) a.2.1 (λi e s v _=>by
  have A:(Fm (uz a d) e).2.1=0:=qrp d (h.due e (ubg v));have u:∀ {o t:Type} (Q:t->Prop) (k:o->Fr t) (f:Fr o),(∀ x,gP Q (k x))->gP Q (nE k f):=by
   intro o t Q k f w
   induction f with
   |val x=>exact w x
   |br b x y g m=>exact⟨λ_=>g,λ_=>m⟩
   |need p x g=>exact g
  exact⟨λl=>absurd A (jx l),λ_=>u _ _ _ λ_=>uT⟩) cO.j trivial
 have n:gP (λy:aa [i64,i64]=>y.2.1=0\/y.2.1=5) (LR (a,d,())):=by have g:∀ r,bC (vN (uz a d) True) 0 a.2.1 cO.j=r->iV (λ_=>True) (λ_=>False) r:=λr z=>z ▸ c;refine MN (Q:=λy:aa [i64,i64]=>y.2.1=0\/y.2.1=5) (λs _=>?_) (λy m=>(g _ m).elim);exact⟨λ_=>.inr rfl,λ_=>.inl rfl⟩
 exact dS n
structure LnI (l:List bD.q) (last:Int):Prop where
 at_:∀ x:bD.q,x∈l->1<=x.1/\x.1<=last/\x.2.1≠0
 up:l.Pairwise (λa b=>a.1<b.1)
def Uq(f:ae.q)(d:bQ.q)(m:Int):LnI (bN (eQ f d m)) 9:=by
 have o:∀ i:Int,LnI (bw (nz (kW d m,f.1,i,aW.j) True) 0 (Lrp 9 ()) []) 9:=λi=>
  r9 (step:=nz (kW d m,f.1,i,aW.j) True) (λj (s:List bD.q)=>LnI s (j:Int)) (Lrp 9 ()) (λj e s t g=>by
   have u:=eO t;rw[ubc]at u;have v:I6.wrap ((j:Int)+1)=((j+1:Nat):Int):=by rw[IntWalk.i64_in _ (by omega)];omega
   have k:LnI s ((j+1:Nat):Int):=⟨λx b=>⟨(g.at_ x b).1,ue6 (g.at_ x b).2.1 (by omega),(g.at_ x b).2.2⟩,g.up⟩;refine⟨λl=>?_,λ_=>k⟩;show LnI (s++[(I6.wrap ((j:Int)+1),(gn (kW d m)).getD (I6.wrap ((j:Int)+1)).toNat 0,())]) _;have l:=jx l;rw[v]at l |-;refine⟨λx b=>?_,ubp.2 ⟨g.up,uay _ _,λa p c r=>?_⟩⟩;rcases udt.1 b with b|b
   exact k.at_ x b;rw[ucf.1 b];exact⟨by show(1:Int)<=((j+1:Nat):Int);omega,ufe _,l⟩;rw[ucf.1 r];exact Int.lt_of_le_of_lt (g.at_ a p).2.1 (by omega:(j:Int)<((j+1:Nat):Int))) [] ⟨λ_ h=>(nomatch h),List.Pairwise.nil⟩
 have n:gP (λy=>LnI (bN y.1) 9) (tY (f,d,m,())):=⟨λ_=>o _,λ_=>o _⟩;exact dS n
def qrz(f:ae.q)(d:bQ.q)(m:Int):ne (bN (eQ f d m))%(18446744073709551616:Int)=0:=by
 have k:=Uq f d m;rw[<- Oa (bN (eQ f d m)) λx l=>⟨(k.at_ x l).1,(k.at_ x l).2.1⟩];unfold rP;dsimp only;rw[mP f d m 1 (by decide),mP f d m 2 (by decide),mP f d m 3 (by decide),mP f d m 4 (by decide),mP f d m 5 (by decide),mP f d m 6 (by decide),mP f d m 7 (by decide),mP f d m 8 (by decide),mP f d m 9 (by decide)];have i:∀ a b c e g h:Int,(I6.wrap (I6.wrap (b-c)+e)+I6.wrap (a-b)+I6.wrap (m-a)+I6.wrap (0-m)+I6.wrap (c-e)+I6.wrap (0-g)+g+h+I6.wrap (0-h))%(18446744073709551616:Int)=0:=by intro a b c e g h;simp only[udg];omega
 exact i _ _ _ _ _ _
def Vk(k:Int×(List bD.q)×aW.q):(l:List bD.q)->(i:Int)->(s:Int×Int)->(∀ x:bD.q,x∈l->s.2<x.1/\x.1<=9/\x.2.1≠0 /\ -1000000000000000<=x.2.1/\x.2.1<=1000000000000000)->l.Pairwise (λa b=>a.1<b.1)->(-9223372036854775808<=s.1/\s.1<=9223372036854775807) ->
  ∃ c,bC (n9 k True) i l s=.inl c /\ -9223372036854775808<=c.1/\c.1<=9223372036854775807
 |[],_,s,_,_,h=>⟨s,rfl,h⟩
 |x::l,i,s,d,t,_=>by
  obtain⟨f,g,m,n,o⟩:=d x ucc;obtain⟨u,v⟩:=uca.1 t;have p:(bif bif bif bif J (x.1<=s.2)then Z else J (x.1>9)then Z else x.2.1==0 then Z else J (x.2.1 < -1000000000000000)then Z else J (x.2.1>1000000000000000))=false:=by rw[udw (ufo.2 f),udw (ufp.2 g),show(x.2.1==0)=Y by simpa using m,udw (ufp.2 n),udw (ufp.2 o)];rfl
  have r:(n9 k True i x s).get=.inl (I6.wrap (s.1+x.2.1),x.1):=by show(if (bif bif bif bif J (x.1<=s.2)then Z else J (x.1>9)then Z else x.2.1==0 then Z else J (x.2.1 < -1000000000000000)then Z else J (x.2.1>1000000000000000))=Z then _ else _)=_;rw[p];rfl
  unfold bC;rw[r];exact Vk k l (i+1) _ (λy e=>⟨u y e,(d y (ubj _ e)).2⟩) v (by show -9223372036854775808<=I6.wrap (s.1+x.2.1)/\I6.wrap (s.1+x.2.1)<=9223372036854775807;rw[udg];omega)
def zh5(h:a%(18446744073709551616:Int)=0)(b : -1000000000000000<=a/\a<=1000000000000000)(c:a≠0):False:=by omega
def qwu{e:aW.q}(b:LnI (bN e) 9)(a:ne (bN e)%(18446744073709551616:Int)=0)(g:∀ x:bD.q,x∈bN e -> -1000000000000000<=x.2.1/\x.2.1<=1000000000000000)(v:bN e ≠ [])(k:1<=e.1/\e.1<=292194)(l:0<=e.2.1/\e.2.1<=1000000000):pV e:=by
 obtain⟨i,d,w⟩:=Vk (((bN e).length:Int),bN e,e) (bN e) 0 (0,0) (λx c=>⟨Int.lt_of_lt_of_le (by decide:(0:Int)<1) (b.at_ x c).1,(b.at_ x c).2.1,(b.at_ x c).2.2,g x c⟩) b.up (by decide);have o:i.1=0:=by have:=(Mq _ _ _ _ i (ufe 0) d).2;rw[show((0:Int),(0:Int)).1=0 from rfl,Int.zero_add,a]at this;omega
 have m:2<=(bN e).length:=by
  match u:bN e,v with
  |[x],_=>
   exfalso;rw[u]at a g b;have p:=g x ucc;have r:=(b.at_ x ucc).2.2;have t:ne [x]=x.2.1:=by show x.2.1+0=_;rw[ue8]
   rw[t]at a;exact zh5 a p r
  |_::_::_,_=>simp
 have n:pz.f (e,())=(i.1,bif bif bif bif J (e.1>=1)then J (e.1<=292194)else Y then J (e.2.1>=0)else Y then J (e.2.1<=1000000000)else Y then J (((bN e).length:Int)>=2)else Y,()):=by show(ua (e,())).get=_;unfold ua;rw[GF];split;rename_i s a;have h:=Sum.inl.inj ((show bC (n9 (((bN e).length:Int),bN e,e) True) 0 (bN e) (0,0)=.inl s from a).symm.trans d);subst h;rfl;rename_i y a;cases (show bC (n9 (((bN e).length:Int),bN e,e) True) 0 (bN e) (0,0)=.inr y from a).symm.trans d
 unfold pV;rw[n];refine⟨?_,o⟩;show(bif bif bif bif J (e.1>=1)then J (e.1<=292194)else Y then J (e.2.1>=0)else Y then J (e.2.1<=1000000000)else Y then J (((bN e).length:Int)>=2)else Y)=Z;rw[ueb (show e.1>=1 from k.1),ueb k.2,ueb (show e.2.1>=0 from l.1),ueb l.2,ueb (show((bN e).length:Int)>=2 by omega)];rfl
def ql3{f:ae.q}(h:wE f=Z):iw f=0:=by
 unfold wE at h;simp only[LD,Fr.get,gQ,udd]at h
 iterate 12 replace h:=h.1
 exact ufv h.2
def qx3{f:ae.q}(h:cG f=Z)(d:aM f≠6):0<=iw f/\iw f<=1000000000:=by
 have a:=BF h;have c:∀ {P:Prop},(md f=Z/\P)->0<=iw f/\iw f<=1000000000:=λh=>by have h:=h.1;unfold md at h;simp only[udd,ucu]at h;omega
 have b:iw (se f)=0:=by unfold cG at h;simp only[udd]at h;exact ql3 h.2.2.1
 unfold pp at a;rcases qs (BG h)with k|k|k|k|k|k|k
 rw[k]at a;have a:(md f&&i9 (ma f))=true:=a;rw[udd]at a;exact c a;rw[k]at a;have a:((md f&&fk (iv f))&&(iv f).1==bF f)=true:=a;rw[udd,udd]at a;exact c a.1;rw[k]at a;have a:((md f&&J (ej f>=1))&&J (ej f<=1000000000000000))=true:=a;rw[udd,udd]at a;exact c a.1;unfold se at b;rw[k]at b;have b:iw f=0:=b;rw[b];decide;rw[k]at a;have a:((md f&&lc (lu f))&&(lu f).1==bF f)=true:=a;rw[udd,udd]at a;exact c a.1;exact absurd k d;unfold se at b;rw[k]at b;have b:iw f=0:=b;rw[b];decide
def zqw{t:ah.q}(h:gG t=Z):1<=t.1/\t.1<=1000000000:=by
 have b:iI 1 1000000000 [t.1]=true:=by cases c:iI 1 1000000000 [t.1];unfold gG ub at h;have a:(fj.f ((1,1000000000,()),[t.1],())).1=false:=c;simp only[a]at h;cases h;rfl
 unfold iI at b;simpa using b
def qrt{f:ae.q}(h:cG f=Z)(d:bQ.q)(m:Int):0<=(eQ f d m).2.1/\(eQ f d m).2.1<=1000000000:=by
 have b:gP (λy=>0<=y.1.2.1/\y.1.2.1<=1000000000) (tY (f,d,m,())):=by refine⟨λa=>?_,λa=>?_⟩;have a:aM f=6:=ufv a;have:=zqw (V6 h a);exact⟨ue6 (by decide) this.1,this.2⟩;have a:(aM f==6)=false:=a;exact qx3 h (by simpa using a)
 exact dS b
def qru{f:ae.q}(h:cG f=Z){d:bQ.q}{m:Int}(e:¬ ((List.length (α:=bD.q) (eQ f d m).2.2.1:Int)==0)=Z)(a:Sv (eQ f d m)=Y):pV (eQ f d m):=by refine qwu (Uq f d m) (qrz f d m) (λx g=>?_) (λc=>e ?_) (by rw[Bc];exact ML h) (qrt h d m);have a:(bN (eQ f d m)).any (λy=>bif J (y.2.1>1000000000000000)then Z else J (y.2.1 < -1000000000000000))=false:=a;rw[uc3]at a;have b:=a x g;simp only[wF,udu,not_or,ucu]at b;exact⟨ufp.1 b.2,ufp.1 b.1⟩;show((List.length (α:=bD.q) (bN (eQ f d m)):Int)==0)=Z;rw[c];rfl
def zj0{b:bq.q}{x:aW.q}(g:pV x)(m:(bU b).length<2000)(k:∀ e∈bU b,e.1<=x.1):(mu b x).2.1=0:=by
 have a:gP (λy=>y.2.1=0) (tZ (b,x,())):=by refine⟨λh=>?_,λ_=>⟨λh=>absurd g.2 (jx h),λ_=>⟨λh=>?_,λ_=>⟨λh=>?_,λ_=>rfl⟩⟩⟩⟩;have h:(!(pz.f (x,())).2.1)=true:=h;rw[g.1]at h;cases h;have h:((bU b).length:Int)>=2000:=ucx h;omega;have h:(bif J (((bU b).length:Int)>0)then J (x.1<((bU b).getD (I6.wrap (((bU b).length:Int)-1)).toNat aW.j).1)else Y)=true:=h;by_cases c:((bU b).length:Int)>0;rw[ueb c]at h;have h:=ucx h;rw[IntWalk.i64_in _ (by omega)]at h;exact absurd h (ufp.2 (k _ (eT (l:=bU b) (i:=((bU b).length:Int)-1) (d:=aW.j) ⟨by omega,by omega⟩)));rw[udw c]at h;cases h
 exact dS a
structure tI (n:Nat) (s:cr):Prop where
 si:SI n s.2.2.2
 few:ix s.2.2.2
 len:(bU s.1).length<=n
def qcj{s:cr}(h:tI n s):tI (n+1) s:=⟨Pp h.si,h.few,uc4 h.len⟩
def Na(n:Nat)(f:ae.q)(s:cr):cr ⊕ ka.R.X->Prop
 |.inl a=>tI (n+1) a/\(bU a.1=bU s.1 \/ ∃ x:aW.q,x.1=f.1/\bU a.1=bU s.1++[x])
 |.inr y=>y.1.1=5
def ZW(v:n<40){f:ae.q}{s:cr}{d:ak.q}(m b:Int)(h:tI n s)(l:SI (n+1) d)(i:ix d)(t:cG f=Z)(r:∀ e∈bU s.1,e.1<=f.1):gP (Na n f s) (nq (0,[],0,bq.j) 0 f s d m b):=by
 have a:=h.len;refine⟨λ_=>⟨⟨l,i,uc4 h.len⟩,.inl rfl⟩,λc=>⟨λ_=>rfl,λo=>?_⟩⟩;have p:=qru t (λh=>by rw[h]at c;cases c) o;have k:=zj0 (b:=s.1) p (by omega) (λe g=>by rw[Bc];exact r e g);refine⟨λu=>absurd k (jx u),λ_=>?_⟩;have g:bU (mu s.1 (eQ f (BM (u9 (0,[],0,bq.j) 0 f s d m b)) m)).1=bU s.1++[eQ f (BM (u9 (0,[],0,bq.j) 0 f s d m b)) m]:=by rw[O8 k];rfl
 refine⟨⟨l,i,?_⟩,.inr ⟨_,Bc _ _ _,g⟩⟩;show(bU (mu s.1 _).1).length<=n+1;rw[g,ub6];exact udk a
def zkp(i:n<40){f:ae.q}{s:cr}(h:tI n s)(k:∀ e∈bU s.1,e.1<=f.1):gP (Na n f s) (CL f s):=by
 refine⟨λ_=>⟨qcj h,.inl rfl⟩,λb=>?_⟩;have b:(dq s.2.2.2 f).2=0:=gW b;have c:SI (n+1) (ec s.2.2.2 f).1:=qbe h.si b;have d:ix (ec s.2.2.2 f).1:=L7 f h.few b;have l:=(NQ (Dp b).1).1;have a:=qb7 (by omega) d c;refine⟨λg=>?_,λ_=>⟨λ_=>⟨λg=>?_,λ_=>ZW i _ _ h c d l k⟩,λ_=>ZW i _ _ h c d l k⟩⟩;rcases a with a|a
 exact absurd a (jx g);exact a;rcases qi1 f.2.2.2.2.1 c.ci.ri with a|a
 exact absurd a (jx g);exact a
def VL(b:Int):(l:List ae.q)->(n:Nat)->n+l.length<=40->l.Pairwise (λf g=>f.1<=g.1)->(s:cr)->tI n s->(∀ e∈bU s.1,∀ f∈l,e.1<=f.1)->match eD b l s with
  |.inl _=>True
  |.inr y=>y.1.1=5
 |[],_,_,_,_,_,_=>trivial
 |f::l,n,p,r,s,h,m=>by
  rw[uda]at p;obtain⟨p1,p2⟩:=uca.1 r;have k:Na n f s (j7 b f s):=by rw[HP];split;exact⟨qcj h,.inl rfl⟩;exact dS (zkp (by omega) h λe i=>m e i f ucc)
  unfold eD;cases i:j7 b f s with
  |inr y=>rw[i]at k;exact k
  |inl u=>
   rw[i]at k;obtain⟨o,d⟩:=k;refine VL b l (n+1) (by omega) p2 u o (λe a g c=>?_);rcases d with d|⟨x,t,d⟩
   rw[d]at a;exact m e a g (ubj _ c);rw[d]at a;rcases udt.1 a with a|a
   exact m e a g (ubj _ c);rw[ucf.1 a,t];exact p1 g c
def X3{j:aE.q}(a:Int)(m:bf j.1)(k:List.length (α:=ae.q) j.2.1<=40)(l:List.Pairwise (λf g:ae.q=>f.1<=g.1) j.2.1):((i5 j a).2.1=0\/(i5 j a).2.1=5/\(i5 j a).1=bq.j):=by
 have b:=VL a j.2.1 0 (by rw[uez];exact k) l (fK j) ⟨qbd j.1,Fv m,ufd _⟩ (λ_ h=>(nomatch h));have c:=BN a j.2.1 (fK j) ⟨λe d=>(by cases d),List.Pairwise.nil⟩;rw[uB];cases i:eD a j.2.1 (fK j)with
 |inl s=>exact .inl rfl
 |inr y=>rw[i]at b c;exact .inr ⟨b,c.2⟩
def zcl{j:aE.q}(h:(i5 j day).2.1=0):mT (kF day j.2.1 (hZ j.1))=0:=by
 rw[uB]at h;cases a:eD day j.2.1 (fK j)with
 |inl s=>obtain⟨c,d⟩:=zop j day a;rw[<- d];exact(zol c).1
 |inr y=>have b:=BN day j.2.1 (fK j) ⟨λe f=>(by cases f),List.Pairwise.nil⟩;rw[a]at h b;exact absurd h b.1
def qwr{j:aE.q}(a:Int)(e:bf j.1)(d:List.length (α:=ae.q) j.2.1<=40):mT (kF a j.2.1 (hZ j.1))=0\/mT (kF a j.2.1 (hZ j.1))=5:=by have c:=qbc (b:=a) j.2.1 (qbd j.1);rw[uez]at c;exact qb7 d (L6 _ (Fv e)) c
def qhe:Cx:=cx [(12,SF),(13,SO),(14,t6),(15,xb),(16,wN),(23,AM)] []
def QB:CxOK prog qhe:=aQ aH ⟨qso,qkw,Pz,Kz,Og,K0,uT⟩ trivial
abbrev Hg:Pt:=⟨92,0,⟨[(26,.d i64),(25,.d i64),(24,.d (.sl ae)),(1,.d i64)],[.x 5 27 aE,.r 5 5 0]⟩,⟨[(1,.d i64)],[.x 5 27 aE,.r 5 5 0]⟩,⟨[],[]⟩⟩
def P3(k:Int×(List ae.q)×Int)(b:Prop)(i:Int)(e:ae.q)(s:aE.q):Fr (aE.q):=
 let a:=t6.f (s,e,());Jd b (Jd (fo e) (Jd (bf (s.1.1,())) (Jb (a.2.1==0) (Jv (a.1)) (Jv s))))
def qjh:Hg.M.X->Fr Hg.Out:=FG (λx=>(x.1.1,(x.1.2.1,x.1.2.2.1,x.1.2.2.2.1),x.2.1)) (λk=>k.1) (λk=>k.2.1) P3 (λk s=>((k.2.2,()),s,()))
def zeu:af prog (.loop (au Tryz.f7 0)) Hg.M Hg qjh:=
 cX QB (λi k s=>((i,k.1,k.2.1,k.2.2,()),s,())) ae.j
def Gg:=λk s=>bw (P3 k True) 0 k.2.1 s
def zhg:=λk s=>bY (P3 k True) 0 k.2.1 s
def mx(c n:Int):Int:=U6.wrap (U6.wrap (Bvo U6.bits c ^^^ Bvo U6.bits (U6.wrap n)).toNat*1099511628211)
structure jI (n:Nat) (k:aE.q):Prop where
 few:bf k.1
 len:List.length (α:=ae.q) k.2.1<=n
 ord:List.Pairwise (λf g:ae.q=>f.1<=g.1) k.2.1
 right:∀ f:ae.q,f∈(k.2.1:List ae.q)->cG f=true
 ff:∀ f∈k.2.1,fo f
def zbp{l:List ae.q}{f:ae.q}(d:l.Pairwise (λf g=>f.1<=g.1))(h:rJ l f=Y):∀ g∈l,g.1<=f.1:=λg a=>by
 unfold rJ at h;cases b:l.getLast? with
 |none=>rw[List.getLast?_eq_none_iff.1 b]at a;cases a
 |some z=>
  rw[b]at h;have c:z.1<=f.1:=ufp.1 (uch h);obtain⟨e,rfl⟩:=List.getLast?_eq_some_iff.1 b;rcases udt.1 a with a|a
  exact ue6 ((ubp.1 d).2.2 g a z (ucf.2 rfl)) c;rw[ucf.1 a];exact c
def zas{k:aE.q}{f:ae.q}(h:jI n k)(l:fo f)(e:(cN k f).2=0):jI (n+1) (cN k f).1:=by
 obtain⟨m,_,_,o⟩:=CG e;obtain⟨p,_,r,_⟩:=ZB m;rw[o];refine⟨h.few,?_,ubp.2 ⟨h.ord,uay _ _,λa d c i=>?_⟩,λg b=>?_,λg b=>?_⟩;show(k.2.1++[f]).length<=n+1;rw[ub6];exact udk h.len;rw[ucf.1 i];exact zbp h.ord r a d;rcases udt.1 b with b|b
 exact h.right g b;rw[ucf.1 b];exact p;rcases udt.1 b with b|b
 exact h.ff g b;rw[ucf.1 b];exact l
def zat{k:aE.q}{f:ae.q}(b:fo f)(h:jI n k):jI (n+1) (oL k f):=by unfold oL;cases a:(cN k f).2==0;exact⟨h.few,uc4 h.len,h.ord,h.right,h.ff⟩;exact zas h b (ufv a)
def Xe:(l:List ae.q)->(∀ f∈l,fo f) -> {n:Nat} -> {k:aE.q}->jI n k->jI (n+l.length) (l.foldl oL k)
 |[],_,_,_,h=>h
 |f::l,a,n,_,h=>by have:=Xe l (λg b=>a g (ubj _ b)) (zat (a f ucc) h);rw[uda,show n+(l.length+1)=n+1+l.length by omega];exact this
def Nx{j:aE.q}(h:jc j 30=Z):jI 30 (j.2.1.foldl oL (j.1,[],())):=by obtain⟨e,b,c⟩:=Bf h;have a:=Xe (j.2.1:List ae.q) (λf d=>UB (c f d)) (n:=0) (k:=(j.1,[],())) ⟨e,ufd _,List.Pairwise.nil,λ_ h=>(nomatch h),λ_ h=>(nomatch h)⟩;exact⟨a.few,ueq a.len (by have b:((List.length (α:=ae.q) j.2.1:Nat):Int)<=30:=b;omega),a.ord,a.right,a.ff⟩
def HN(e:ae.q)(s:aE.q):Fr aE.q:=
 Jd True (Jd (fo e) (Jd (bf s.1) (Jb ((cN s e).2==0) (Jv (cN s e).1) (Jv s))))
def O9{j:aE.q}(h:jc j 30=Z):bY (λ_=>HN) 0 j.2.1 (j.1,[],())/\bw (λ_=>HN) 0 j.2.1 (j.1,[],())=j.2.1.foldl oL (j.1,[],()):=by obtain⟨f,_,d⟩:=Bf h;refine⟨(dK (step:=λ_=>HN) (λ_ (s:aE.q)=>s.1=j.1) j.2.1 (λi e s c b=>?_) (j.1,[],()) rfl).1,BK (step:=λ_=>HN) (g:=oL) (λi e s=>?_) j.2.1 0 _⟩;refine⟨uT,UB (d e (ubg c)),by show bf s.1;rw[b];exact f,λa=>?_,λ_=>b⟩;have a:((cN s e).2==0)=true:=a;show(cN s e).1.1=j.1;rw[(CG (ufv a)).2.2.2];exact b;unfold oL;show(if ((cN s e).2==0)=Z then (cN s e).1 else s)=_;cases (cN s e).2==0<;>rfl
def It(e f g:Int)(b:bq.q):Bool:=
 bif bif bif bif Z then f==0 else Y then (bif e==0 then Z else bif e==5 then (List.length (α:=aW.q) b.1:Int)==0 else Y)else Y then (bif g==0 then Z else g==5)else Y then (bif e != 0 then Z else g==0)else Y
def sy(k:aE.q)(a:Int):Fr (aa [.bool]):=
 Jd (bf k.1) (Jd (bf k.1) (Jd (bi (dW k a).1) (Jd (dC (aJ (dW k a).1)) (Jv (It (i5 k a).2.1 (dW k a).2 (cW (dW k a).1).2.1 (i5 k a).1,())))))
def G2(j:aE.q)(a:Int):Int×(List ae.q)×Int:=((List.length (α:=ae.q) j.2.1:Int),j.2.1,a)
def Me(x:ap [.d aE,.d i64]):Fr (aa [.bool]):=
 let b:=(x.1.1,[],());let a:=G2 x.1 x.2.1;Jb (!(jc x.1 30)) (Jv (Z,())) (cT (InK (List.length (α:=ae.q) x.1.2.1:Int) 0 (List.length (α:=ae.q) x.1.2.1)) (zhg a b) (Gg a b) (λk=>sy k x.2.1))
def qv0:ag prog 7 (bg [.d aE,.d i64] [.bool] Me):=
 cZ QB zeu (fn:=Tryz.f7)
def zqe{e f g:Int}{b:bq.q}(c:f=0)(a:e=0\/e=5/\b=bq.j)(d:g=0\/g=5)(h:e=0->g=0):It e f g b=true:=by
 unfold It;subst c;rcases a with rfl|⟨rfl,rfl⟩
 rw[h rfl];rfl;rcases d with rfl|rfl<;>rfl
def told29_ok:ag prog 7 qmf:=
 conv qv0 _ _ (λ_ _ x _ _ _=>by
  obtain⟨j,a,_⟩:=x;show(Me (j,a,())).ok/\(Me (j,a,())).get=(Z,());cases e : !(jc j 30)
  ·have d:jc j 30=true:=by simpa using e
   have n:((List.length (α:=ae.q) j.2.1:Nat):Int)<=30:=(Bf d).2.1;obtain⟨h,i⟩:=O9 d;have b:=Nx d;refine aN e (aw ⟨rfl,ufe _,ub4 _,ue6 n (by decide)⟩ (aw h ?_));show(sy (Gg (G2 j a) (j.1,[],())) a).ok/\(sy (Gg (G2 j a) (j.1,[],())) a).get=_;rw[show Gg (G2 j a) (j.1,[],())=_ from i];generalize j.2.1.foldl oL (j.1,[],())=k at b;have m:((List.length (α:=ae.q) k.2.1:Nat):Int)<=2000:=by have:=b.len;omega
   have c:dW k a=(kF a k.2.1 (hZ k.1),0):=zg5 m;have f:ix (dW k a).1:=by rw[c];exact L6 _ (Fv b.few)
   have g:List.length (α:=ae.q) k.2.1<=40:=ueq b.len (by decide);refine aw b.few (aw b.few (aw f.1 (aw (Bg f) ⟨uT,?_⟩)));show((It (i5 k a).2.1 (dW k a).2 (cW (dW k a).1).2.1 (i5 k a).1,()):Bool×Unit)=_;rw[zqe (by rw[c]) (X3 a b.few g b.ord) (by rw[c];exact qwr a b.few g) (λl=>by rw[c];exact zcl l)]
  exact aV e ⟨uT,rfl⟩)
abbrev psT:List PT:=[.d aE,.d i64]
end Go.Proofs.YtdokapnnagbehaaGreat
