/-
  Parts of the proof, one behind the other.
-/
import Derived.Test.YtdokapnnagbehaaGreatMn
set_option linter.all false
set_option maxRecDepth 100000
set_option maxHeartbeats 4000000
open Option renaming some->U,none->V
open Bool renaming true->Z,false->Y
open Decidable renaming decide->J
open Go Go.RowKit
variable {T α σ ρ β:Type} {P:Program} {ad:Addr} {arr cs cur:Array Value} {f:FuncId} {x a y day:Int} {k:IntKind} {l:List Int} {xs vs news:List Value} {off i n b c d j B m len:Nat} {F F' K:Nat->Prop} {R g R':Nat->Value->Prop} {o:Oper} {p:Prop} {e ety t ty el:TypeId} {v u vx:Value} {w w' W' W:World}
namespace Go.Proofs.YtdokapnnagbehaaGreat
open Go Go.Ab Go.RowKit Go.Proofs Tryz
open Go.Ab.Fr renaming val->Jv,need->Jd,br->Jb
def Fp:(aV aw).den:=(λx=>qB.f x,λx=>av (qB.ok x))
def jZ(s:List aw.den):List aw.den:=cM (aM Fp) s
def E6(n:Nat):List Int:=List.replicate (Int.toNat (n:Int)) 0
def Bw(x:ag [.d ak,.d (.sl ar)]):Fr (aa [.sl ep,i64]):=
 Jd (ev x.2.1) (Jb ((qC.f x).1 != 0) (Jv ([],(qC.f x).1,()))
  (cI (InK ((List.length x.2.1):Int) 0 (List.length x.2.1)) (T3 (((List.length x.2.1):Int),x.2.1,x.2.1,x.1) []) (IF (((List.length x.2.1):Int),x.2.1,x.2.1,x.1) []) (λa=>
   Jd ((a.length:Int)<=4611686018427387903) (Jd (gR Fp a) (Jd (uI (List.length x.2.1) 8) (Jd (uI (List.length x.2.1) 8)
    (cI (InK ((jZ a).length:Int) 0 (jZ a).length) (T4 (((jZ a).length:Int),x.1,jZ a) (0,E6 (List.length x.2.1),E6 (List.length x.2.1),[])) (Ra (((jZ a).length:Int),x.1,jZ a) (0,E6 (List.length x.2.1),E6 (List.length x.2.1),[])) (λr=>Jv (r.2.2.2,0,())))))))))
def qh6:af prog 82 (bg [.d ak,.d (.sl ar)] [.sl ep,i64] Bw):=
 oP w6 qsu qsv (fn:=f82)
def nE(n:Nat)(s:List aw.den):Prop:=∀ x∈s,0<=x.1/\x.1<(n:Int)
def qv2(k:Int×(List bn.den)×Int×Int×Int×(List ar.den)×(List ar.den)×ak.den)(n:Nat)(d:0<=k.2.2.1/\k.2.2.1<(n:Int))(s:List aw.den)(g:nE n s)(i:s.length+k.2.1.length<=4000):
  bM (wc k True) 0 k.2.1 s/\(bO (wc k True) 0 k.2.1 s).length=s.length+k.2.1.length/\nE n (bO (wc k True) 0 k.2.1 s):=
 dk (step:=wc k True) (λj (r:List aw.den)=>r.length=s.length+j/\nE n r) k.2.1 (λj e r c b=>by
  have l:=eD c;have m:=ew;have f:=b.1;refine⟨uT,?_,?_,λx a=>?_⟩;show r.length+1<=maxLen/\(r.length+1)*32<=140737488355328;omega;rw[ub6];show r.length+1=_;omega;rcases uds.1 a with h|h
  exact b.2 x h;rw[ucf.1 h];exact d) s ⟨rfl,g⟩
def zay{l:List ar.den}(i:Nat):ej (l.take i)<=ej l:=by
 have:ej l=ej (l.take i)+ej (l.drop i):=by
  conv=>lhs;rw[<- uba i l]
  unfold ej;rw[udw,List.sum_append]
 omega
def qv3(c:ak.den)(l:List ar.den)(o:l.length<=2000)(p:ej l<=2000):
  T3 ((l.length:Int),l,l,c) []/\(IF ((l.length:Int),l,l,c) []).length=ej l/\nE l.length (IF ((l.length:Int),l,l,c) []):=by
 have key:=dk (step:=DY ((l.length:Int),l,l,c) True) (λi (s:List aw.den)=>s.length=ej (l.take i)/\nE l.length s) l (λi e s a b=>by
  have hi:=eD a;have d:=V2 a;have n:=zay (l:=l) (i+1);have f:=b.1;have g:s.length+List.length (α:=bn.den) e.2.1<=4000:=by omega
  obtain⟨j,k,m⟩:=qv2 ((List.length (α:=bn.den) e.2.1:Int),e.2.1,(i:Int),(i:Int),(l.length:Int),l,l,c) l.length ⟨ub4 _,Int.ofNat_lt.2 hi⟩ s b.2 g;refine⟨uT,dI (show List.length (α:=bn.den) e.2.1<=1000000000 by omega),j,k.trans ?_,m⟩;rw[d,f]) [] ⟨rfl,λ_ h=>(nomatch h)⟩
 rw[List.take_length]at key;exact key
def toNat_lt(h:0<=a/\a<(n:Int)):Int.toNat a<n:=by omega
structure PdI (n i:Nat) (s:Int×(List Int)×(List Int)×(List ep.den)):Prop where
 a:s.2.1.length=n
 b:s.2.2.1.length=n
 len:s.2.2.2.length<=i
 at_:∀ x∈s.2.2.2,0<=x.1/\x.1<(n:Int)
def qv4(k:Int×ak.den×(List aw.den))(n:Nat)(u:nE n k.2.2)(y:k.2.2.length<=4000)(s:Int×(List Int)×(List Int)×(List ep.den))(t:PdI n 0 s):
  T4 k s/\PdI n k.2.2.length (Ra k s):=
 dk (step:=DZ k True) (PdI n) k.2.2 (λi e s o h=>by
  have hi:=eD o;have z:=ew;have c:=u e (ubg o);have l:Int.toNat e.1<n:=toNat_lt c;have r:0<=e.1/\e.1<(s.2.1.length:Int):=by rw[h.a];exact c
  have f:0<=e.1/\e.1<(s.2.2.1.length:Int):=by rw[h.b];exact c
  have q:Int.toNat e.1<s.2.1.length:=by rw[h.a];exact l
  have d:Int.toNat e.1<s.2.2.1.length:=by rw[h.b];exact l
  have g:∀ v,(s.2.1.set (Int.toNat e.1) v).length=n:=λv=>by rw[udo];exact h.a
  have w:∀ v,(s.2.2.1.set (Int.toNat e.1) v).length=n:=λv=>by rw[udo];exact h.b
  have p:=h.len;refine⟨uT,(lK hi rfl).2,λ_=>⟨h.a,h.b,uc3 h.len,h.at_⟩,λ_=>⟨r,q,r,q,by rw[g];exact c,by rw[g];exact l,f,d,f,d,λ_=>⟨g _,h.b,uc3 h.len,h.at_⟩,λ_=>⟨f,d,f,d,?_,?_⟩⟩⟩;show s.2.2.2.length+1<=maxLen/\(s.2.2.2.length+1)*24<=140737488355328;omega;refine⟨g _,w _,?_,λx m=>?_⟩;show(_++[_]).length<=i+1;rw[ub6];exact udj h.len;rcases uds.1 m with j|j
  exact h.at_ x j;rw[ucf.1 j];exact c) s t
def Si(b:n<=1000000)(h:0<=a/\a<(n:Int)):0<=a/\a<18446744073709551616:=by omega
def qvi(a:n<=1000000){s:List aw.den}(h:nE n s):gR Fp s:=by
 refine⟨λ_ _ _ _=>uT,yg,λx d y e=>?_⟩;have b:=h x d;have c:=h y e;show J ((qB.f (x,y,())).1<0)=J (yg x<yg y);exact udh.2 (qah (Si a b) (Si a c))
def WJ(n:Nat):(E6 n).length=n:=by
 unfold E6;rw[ubc,uc0]
def N2(l:List ar.den)(y:aa [.sl ep,i64]):Prop:=List.length (α:=ep.den) y.1<=4000/\(∀ x:ep.den,x∈(y.1:List ep.den)->0<=x.1/\x.1<(l.length:Int))/\(y.2.1=0->l.length<=2000)
def TQ(c:ak.den)(l:List ar.den)(h:ev l):(Bw (c,l,())).satP (N2 l):=by
 unfold Bw;refine⟨h,λi=>⟨uff _,λ_ h=>(nomatch h),λo=>?_⟩,λi=>?_⟩;have a:((qC.f (c,l,())).1 != 0)=true:=i;have e:(qC.f (c,l,())).1=0:=o;rw[e]at a;cases a;have a:(qC.f (c,l,())).1=0:=by simpa using i
 obtain⟨b,p⟩:=qdb c l h a;have g:l.length<=1000000:=ueo b (by decide);refine fz (A:=λ(s:List aw.den)=>s.length=ej l/\nE l.length s) (dI (ueo b (by decide))) (qv3 c l b p) (λs d=>?_);have k:(jZ s).length<=4000:=by
  unfold jZ;rw[mj,d.1];omega
 have j:nE l.length (jZ s):=λx q=>d.2 x (yZ.1 q);have m:=d.1;refine⟨by omega,qvi g d.2,yl g (by decide),yl g (by decide),fz (A:=PdI l.length (jZ s).length) (dI (ueo k (by decide))) (qv4 (((jZ s).length:Int),c,jZ s) l.length j k _ ⟨WJ _,WJ _,ue9 _,λ_ h=>(nomatch h)⟩) (λr n=>⟨ueo n.len k,n.at_,λ_=>b⟩)⟩
def oz:Ct:=⟨[.d ak,.d (.sl ar)],[.sl ep,i64],λx=>(Bw x).get,λx=>[ev x.2.1]⟩
def qbz:af prog 82 oz:=bW qh6 _ (λx _ a=>(cO (TQ x.1 x.2.1 a)).1)
def qv5(c:ak.den)(l:List ar.den)(h:ev l):N2 l (oz.f (c,l,())):=(cO (TQ c l h)).2
noncomputable def YN:Cx:=cx [(82,oz),(84,wT),(83,GA)] []
def zQ:CxOK prog YN:=aP aG ⟨qbz,TY,qb4,uT⟩ trivial
abbrev De:Pt:=⟨92,0,⟨[(28,.d i64),(27,.d i64),(26,.d (.sl ar)),(6,.d (.sl ep))],[.x 2 142 ak,.r 2 2 0,.o 8 99 aJ]⟩,⟨[(6,.d (.sl ep))],[.x 2 142 ak,.r 2 2 0,.o 8 99 aJ]⟩,⟨[],[]⟩⟩
def DJ(k:Int×(List ar.den)×(List ep.den)×ak.den)(b:Prop)(i:Int)(e:ar.den)(s:(List aJ.den)):Fr ((List aJ.den)):=
 let a:=GA.f (e,());Jd b (Jd (s.length + [a.1].length<=maxLen/\(s.length + [a.1].length)*48<=140737488355328) (Jv (s++[a.1])))
def Zz:De.M.X->Fr De.Out:=FG (λx=>(x.1.1,(x.1.2.1,x.1.2.2.1,x.1.2.2.2.1,x.2.1),x.2.2.1)) (λk=>k.1) (λk=>k.2.1) DJ (λk s=>((k.2.2.1,()),(k.2.2.2,s,())))
def qrt:ae prog (.loop (au f55 0)) De.M De Zz:=
 cN zQ (λi k s=>((i,k.1,k.2.1,k.2.2.1,()),k.2.2.2,s,())) ar.dflt
def QQ:=λk s=>bO (DJ k True) 0 k.2.1 s
def To:=λk s=>bM (DJ k True) 0 k.2.1 s
abbrev Df:Pt:=⟨92,2,⟨[(40,.d i64),(39,.d i64),(38,.d (.sl ep)),(11,.d i64)],[.x 2 142 ak,.r 2 2 0,.o 8 99 aJ]⟩,⟨[(11,.d i64)],[.x 2 142 ak,.r 2 2 0,.o 8 99 aJ]⟩,⟨[],[]⟩⟩
def DK(k:Int×(List ep.den)×ak.den)(b:Prop)(i:Int)(e:ep.den)(s:Int×(List aJ.den)):Fr (Int×(List aJ.den)):=
 let l:=Int.toNat 2;let h:=(s.2.length:Int);let g:=e.2.2.1;let d:=Int.toNat 0;let a:=[e.1,e.2.1,g].getD d 0;let c:=s.2.getD a.toNat aJ.dflt;Jd b (Jd ((0:Int)<=0/\0<(3:Int)) (Jd (0<=[e.1,e.2.1,g].getD d 0/\[e.1,e.2.1,g].getD d 0<h) (Jd (a.toNat<s.2.length) (Jd ((0:Int)<=2/\2<(3:Int)) (Jd (0<=[e.1,e.2.1,g].getD d 0/\[e.1,e.2.1,g].getD d 0<h) (Jd (a.toNat<s.2.length) (Jd ((0:Int)<=2/\2<(3:Int)) (Jv (I6.wrap (s.1 + [e.1,e.2.1,g].getD l 0),s.2.set a.toNat (c.1,c.2.1,I6.wrap (c.2.2.1 + [e.1,e.2.1,g].getD l 0),c.2.2.2))))))))))
def Z0:Df.M.X->Fr Df.Out:=FG (λx=>(x.1.1,(x.1.2.1,x.1.2.2.1,x.2.1),(x.1.2.2.2.1,x.2.2.1))) (λk=>k.1) (λk=>k.2.1) DK (λk s=>((s.1,()),(k.2.2,s.2,())))
def qru:ae prog (.loop (au f55 1)) Df.M Df Z0:=
 cN zQ (λi k s=>((i,k.1,k.2.1,s.1,()),k.2.2,s.2,())) ep.dflt
def QR:=λk s=>bO (DK k True) 0 k.2.1 s
def Tp:=λk s=>bM (DK k True) 0 k.2.1 s
abbrev Dg:Pt:=⟨92,4,⟨[(62,.d i64),(61,.d i64),(11,.d i64)],[.al 60 8,.x 2 142 ak,.r 2 2 0,.o 8 99 aJ]⟩,⟨[],[.o 8 99 aJ]⟩,⟨[],[]⟩⟩
def Rv(c:ak.den)(p:aJ.den)(a:Int):Int:=
 if 0<I6.wrap (Ke c p.1 (I6.wrap (a-p.2.2.1))-p.2.2.1)then I6.wrap (Ke c p.1 (I6.wrap (a-p.2.2.1))-p.2.2.1)else 0
def vW(k:Int×ak.den)(_b:Prop)(i:Int)(_e:Unit)(s:Int×List aJ.den):Fr (Int×List aJ.den):=
 let b:=(s.2.length:Int);let a:=s.2.getD i.toNat aJ.dflt;Jd (0<=i/\i<b) (Jd (i.toNat<s.2.length) (Jb (!a.2.2.2.2.2.1) (Jv s)
  (Jd (0<=i/\i<b) (Jd (i.toNat<s.2.length) (Jv (I6.wrap (s.1+Rv k.2 a s.1),
   s.2.set i.toNat (a.1,a.2.1,a.2.2.1,a.2.2.2.1,Rv k.2 a s.1,a.2.2.2.2.2.1,())))))))
def Z1:Dg.M.X->Fr Dg.Out:=FG (λx=>(x.1.1,(x.1.2.1,x.2.1),(x.1.2.2.1,x.2.2.1))) (λk=>k.1) (λk=>List.replicate k.1.toNat ()) vW (λ_ s=>((),s.2,()))
def qrv:ae prog (.loop (au f55 2)) Dg.M Dg Z1:=
 cN zQ (λi k s=>((i,k.1,s.1,()),k.2,s.2,())) ()
def Bv(x:ag [.d ak,.d (.sl ar)]):Fr (aa [.sl aJ,i64]):=
 Jd (ev x.2.1) (Jb ((oz.f x).2.1 != 0) (Jv ([],(oz.f x).2.1,()))
  (cI (InK ((List.length x.2.1):Int) 0 (List.length x.2.1)) (To (((List.length x.2.1):Int),x.2.1,(oz.f x).1,x.1) []) (QQ (((List.length x.2.1):Int),x.2.1,(oz.f x).1,x.1) []) (λa=>
   cI (InK ((List.length (oz.f x).1):Int) 0 (List.length (oz.f x).1)) (Tp ((List.length (oz.f x).1:Int),(oz.f x).1,x.1) (0,a)) (QR ((List.length (oz.f x).1:Int),(oz.f x).1,x.1) (0,a)) (λs1=>
    cI (InK (s1.2.length:Int) 0 (List.replicate (Int.toNat (s1.2.length:Int)) ()).length) (bM (vW ((s1.2.length:Int),x.1) True) 0 (List.replicate (Int.toNat (s1.2.length:Int)) ()) s1) (bO (vW ((s1.2.length:Int),x.1) True) 0 (List.replicate (Int.toNat (s1.2.length:Int)) ()) s1) (λb=>Jv (b.2,0,()))))))
def qh5:af prog 55 (bg [.d ak,.d (.sl ar)] [.sl aJ,i64] Bv):=
 Qy zQ qrt qru qrv (fn:=f55)
def qar(c:ak.den)(l:List ar.den)(r:List ep.den)(d:l.length<=2000):To ((l.length:Int),l,r,c) []/\(QQ ((l.length:Int),l,r,c) []).length=l.length:=
 dk (step:=DJ ((l.length:Int),l,r,c) True) (λi (s:List aJ.den)=>s.length=i) l (λi e s a b=>by
  have hi:=eD a;have f:=ew;refine⟨uT,?_,?_⟩;show s.length+1<=maxLen/\(s.length+1)*48<=140737488355328;omega;show(s++[_]).length=i+1;rw[ub6,b];rfl) [] rfl
def qas(c:ak.den)(r:List ep.den)(n:Nat)(j:∀ x:ep.den,x∈r->0<=x.1/\x.1<(n:Int))(s:Int×List aJ.den)(b:s.2.length=n):Tp ((r.length:Int),r,c) s/\(QR ((r.length:Int),r,c) s).2.length=n:=
 dk (step:=DK ((r.length:Int),r,c) True) (λ_ (s:Int×List aJ.den)=>s.2.length=n) r (λi e s g b=>by
  have a:=j e (ubg g);have h:=toNat_lt a;have d:0<=e.1/\e.1<(s.2.length:Int):=by rw[b];exact a
  have f:Int.toNat e.1<s.2.length:=by rw[b];exact h
  refine⟨uT,by decide,d,f,by decide,d,f,by decide,?_⟩;show(List.set _ _ _).length=n;rw[udo];exact b) s b
def qat(c:ak.den)(n:Nat)(s:Int×List aJ.den)(a:s.2.length=n):bM (vW ((n:Int),c) True) 0 (List.replicate (Int.toNat (n:Int)) ()) s/\(bO (vW ((n:Int),c) True) 0 (List.replicate (Int.toNat (n:Int)) ()) s).2.length=n:=
 dk (step:=vW ((n:Int),c) True) (λ_ (s:Int×List aJ.den)=>s.2.length=n) (List.replicate (Int.toNat (n:Int)) ()) (λi e s f a=>by
  have hi:=eD f;rw[ubc,uc0]at hi;obtain⟨b,d⟩:=lK hi a;refine⟨b,d,λ_=>a,λ_=>⟨b,d,?_⟩⟩;show(List.set _ _ _).length=n;rw[udo];exact a) s a
def NG(c:ak.den)(l:List ar.den)(h:ev l):(Bv (c,l,())).satP (λy=>y.2.1=0->List.length (α:=aJ.den) y.1=l.length):=by
 unfold Bv;obtain⟨p1,p2,p3⟩:=qv5 c l h;refine⟨h,λe b=>?_,λe=>?_⟩;have a:((oz.f (c,l,())).2.1 != 0)=true:=e;have d:(oz.f (c,l,())).2.1=0:=b;rw[d]at a;cases a;have a:(oz.f (c,l,())).2.1=0:=by simpa using e
 have g:=p3 a;have hi:List.length (oz.f (c,l,())).1<=1000000000:=ueo p1 (by decide);refine fz (A:=λ(s:List aJ.den)=>s.length=l.length) (dI (ueo g (by decide))) (qar c l _ g) (λk b=>?_);refine fz (A:=λ(s:Int×List aJ.den)=>s.2.length=l.length) (dI hi) (qas c _ l.length p2 (0,k) b) (λs1 i=>?_);refine fz (A:=λ(s:Int×List aJ.den)=>s.2.length=s1.2.length) ?_ (qat c s1.2.length s1 rfl) (λm j _=>j.trans i);rw[ubc,uc0];refine dI ?_;rw[i];exact ueo g (by decide)
def xa:Ct:=⟨[.d ak,.d (.sl ar)],[.sl aJ,i64],λx=>(Bv x).get,λx=>[ev x.2.1]⟩
def qby:af prog 55 xa:=bW qh5 _ (λx _ a=>(cO (NG x.1 x.2.1 a)).1)
def qag(c:ak.den)(l:List ar.den)(h:ev l)(a:(xa.f (c,l,())).2.1=0):List.length (α:=aJ.den) (xa.f (c,l,())).1=l.length:=(cO (NG c l h)).2 a
def BF(x:ag [.d bi,.ptr ar,.ptr ak]):Fr (aa [.bool]):=
 let b:=x.2.2.1;let a:=x.1.2.1;Jv (bif x.1.1==x.2.1.1.2.1 then a.1==b.1&&(a.2.1==b.2.1&&(a.2.2.1==b.2.2.1&&(a.2.2.2.1==b.2.2.2.1&&(a.2.2.2.2.1==b.2.2.2.2.1&&Z))))else Y,())
def qjg:af prog 81 ⟨[.d bi,.ptr ar,.ptr ak],[.bool],λxs=>(BF xs).get,λxs=>[(BF xs).ok]⟩:=
 cf aH (Λ:=bw) (fn:=f81) (aW [.d bi,.ptr ar,.ptr ak]) (by kernel_rfl) (λc E _=>aY c 0) (λx=>by kernel_rfl)
def AQ:Ct:=⟨[.d bi,.ptr ar,.ptr ak],[.bool],λx=>(BF x).get,λ_=>[]⟩
def qck:af prog 81 AQ:=bW qjg _ (λx a _=>uT)
noncomputable def Hm:List (FuncId×Ct):=[(78,wN),(79,Ax),(81,AQ),(80,eE bi)]
def qet:iz prog Hm:=⟨NA,OR,qck,qng,uT⟩
noncomputable def UF:List (FuncId×Row):=[(1000000000000+147,.rw 6 3)]
noncomputable def Mx:Cx:=l8 Hm [] UF (λ_ _ _ _=>V)
def EU:CxOK prog Mx:=mI (cs:=Hm) (ps:=[]) (rs:=UF) aG qet trivial ⟨uT,uT⟩ (λ_ _ _ _ _ h=>(nomatch h))
abbrev lU:Pt:=⟨70,0,⟨[(15,.d i64),(14,.d i64),(13,.d (.sl ar))],[.x 1 59 aq,.r 1 1 0,.o 4 (ed 147 6 3) bi]⟩,⟨[],[.o 4 (ed 147 6 3) bi]⟩,⟨[(2,.d (.sl bi)),(3,.d i64)],[]⟩⟩
def Hj(a:aq.den)(f:ar.den):aa [ak,i64]:=Ax.f ((wN.f (a,f.1.2.1,())).1.1,a.1,f.1,())
def Ja(a:aq.den)(f:ar.den)(s:List bi.den):Int:=((eE bi).f (s,λx=>AQ.f (x.1,f,(Hj a f).1,()),())).1
def SY(a:aq.den)(f:ar.den):bi.den:=(f.1.2.1,(Hj a f).1,[],())
def qwt(s:List bi.den)(j i:Int):List bi.den:=s.set j.toNat ((s.getD j.toNat bi.dflt).1,(s.getD j.toNat bi.dflt).2.1,(s.getD j.toNat bi.dflt).2.2.1++[i],())
def Ls(s:List bi.den)(j i:Int):Fr (List bi.den ⊕ ρ):=
 Jd (0<=j/\j<(s.length:Int)) (Jd (j.toNat<s.length) (Jd (List.length (α:=Int) (s.getD j.toNat bi.dflt).2.2.1+1<=maxLen/\(List.length (α:=Int) (s.getD j.toNat bi.dflt).2.2.1+1)*8<=140737488355328)
  (Jd (0<=j/\j<(s.length:Int)) (Jd (j.toNat<s.length/\j.toNat=j.toNat) (Jv (.inl (qwt s j i)))))))
def DV(k:Int×(List ar.den)×aq.den)(b:Prop)(i:Int)(e:ar.den)(s:List bi.den):Fr ((List bi.den) ⊕ lU.R.X):=
 let a:=Hj k.2.2 e;Jd b (Jd (bL (wN.f (k.2.2,e.1.2.1,())).1.1) (Jd (bJ k.2.2.1) (Jb (a.2.1 != 0) (Jv (.inr (([],a.2.1,()),())))
  (Jd (∀ (x:aa [bi]),fi [bi] x->av (AQ.ok (x.1,e,a.1,()))) (Jb (J (Ja k.2.2 e s<0))
   (Jd (s.length+1<=maxLen/\(s.length+1)*72<=140737488355328) (Ls (s++[SY k.2.2 e]) (s.length:Int) i)) (Ls s (Ja k.2.2 e s) i))))))
def Nb:lU.M.X->Fr lU.Out:=FK (λx=>(x.1.1,(x.1.2.1,x.1.2.2.1,x.2.1),x.2.2.1)) (λk=>k.1) (λk=>k.2.1) DV (λk s=>((),s,())) (λ_ y=>Rd.back y) ([]) (aW _,bN _)
def qsc:ae prog (.loop (au f54 0)) lU.M lU Nb:=
 lm EU (λi k s=>((i,k.1,k.2.1,()),k.2.2,s,())) ar.dflt
def QY:=λk s=>da (DV k True) 0 k.2.1 s
def Tx:=λk s=>eJ (DV k True) 0 k.2.1 s
def zd7(Γ:Gm):St->Option Tr:=lU.han Γ lU.M Nb
def BE(x:ag [.d aq]):Fr (aa [.sl bi,i64]):=
 iY (InK (((List.length x.1.2.2.1):Int)) 0 (List.length x.1.2.2.1)) (Tx (((List.length x.1.2.2.1):Int),x.1.2.2.1,x.1) []) (QY (((List.length x.1.2.2.1):Int),x.1.2.2.1,x.1) []) ([]) (aW _,bN _) (λa=>Jv (a,0,())) (λb=>Jv b.1)
def qjh:af prog 54 ⟨[.d aq],[.sl bi,i64],λxs=>(BE xs).get,λxs=>[(BE xs).ok]⟩:=
 cf EU (Λ:=(λ_=>zd7 Mx.Γ)) (fn:=f54) (aW [.d aq]) (by kernel_rfl) (λc E a=>zlp a (by kernel_rfl) (b:=au f54 0) (by kernel_rfl) (ae.han EU rfl qsc)) (λx=>by kernel_rfl)
structure GrI (n i:Nat) (s:List bi.den):Prop where
 len:s.length<=i
 at_:∀ g:bi.den,g∈s->List.length (α:=Int) g.2.2.1<=i/\∀ k:Int,k∈(g.2.2.1:List Int)->0<=k/\k<(n:Int)
def GrI.up{s:List bi.den}(h:GrI n i s):GrI n (i+1) s:=⟨uc3 h.len,λg a=>⟨uc3 (h.at_ g a).1,(h.at_ g a).2⟩⟩
def VT{B:ρ->Prop}{s:List bi.den}{j:Int}(hi:i<n)(t:n<=1000000)(q:s.length<=m)(d:0<=j/\j<(s.length:Int))(e:∀ g:bi.den,g∈s->List.length (α:=Int) g.2.2.1<=i/\∀ k:Int,k∈(g.2.2.1:List Int)->0<=k/\k<(n:Int)):
  (Ls (ρ:=ρ) s j i).satP (my (λr=>r.length<=m/\∀ g:bi.den,g∈r->List.length (α:=Int) g.2.2.1<=i+1/\∀ k:Int,k∈(g.2.2.1:List Int)->0<=k/\k<(n:Int)) B):=by
 have a:=toNat_lt d;have o:s.getD j.toNat bi.dflt∈s:=by
  rw[uah,uaq a];exact udi _
 have f:=e _ o;have l:=f.1;have u:=ew;refine⟨d,a,⟨by omega,by omega⟩,d,⟨a,rfl⟩,?_,λg c=>?_⟩;show(List.set _ _ _).length<=m;rw[udo];exact q;rcases uap c with h|h
 exact⟨uc3 (e g h).1,(e g h).2⟩;rw[h];refine⟨?_,λk p=>?_⟩;show((s.getD j.toNat bi.dflt).2.2.1++[(i:Int)]).length<=i+1;rw[ub6];exact udj l;rcases uds.1 p with b|b
 exact f.2 k b;rw[ucf.1 b];omega
def qmw(a:aq.den)(c:bD a):Tx ((List.length (α:=ar.den) (bq a):Int),bq a,a) []/\my (GrI (List.length (α:=ar.den) (bq a)) (List.length (α:=ar.den) (bq a))) (λy=>y.1.1=[]) (QY ((List.length (α:=ar.den) (bq a):Int),bq a,a) []):=
 nm (step:=DV ((List.length (α:=ar.den) (bq a):Int),bq a,a) True) (GrI (List.length (α:=ar.den) (bq a))) (λ(y:lU.R.X)=>y.1.1=[]) (bq a) (λi e s n d=>by
  have hi:=eD n;have p:List.length (α:=ar.den) (bq a)<=100000:=c.2.2.1;have q:=ew;have k:=d.len;refine⟨uT,N9 c _,c.1,λ_=>rfl,λ_=>⟨λ_ _=>uT,λ_=>⟨⟨by omega,by omega⟩,?_⟩,λh=>?_⟩⟩;refine Fr.satP_mono (λr b=>?_) (VT (ρ:=lU.R.X) (B:=λy=>y.1.1=[]) (m:=i+1) (s:=s++[SY a e]) (j:=(s.length:Int)) hi (by omega) ?_ ?_ (λg o=>?_));cases r with
  |inl r=>exact⟨b.1,b.2⟩
  |inr y=>exact b
  rw[ub6];exact udj k;rw[ub6];show 0<=(s.length:Int)/\(s.length:Int)<((s.length+1:Nat):Int);omega;rcases uds.1 o with h|h
  exact d.at_ g h;rw[ucf.1 h];exact⟨uff _,λ_ h=>(nomatch h)⟩;have f:0<=Ja a e s:=by
   have:=uch h;exact ufk.1 this
  have l:=(xZ f).1;refine Fr.satP_mono (λr b=>?_) (VT (ρ:=lU.R.X) (B:=λy=>y.1.1=[]) (m:=i+1) hi (by omega) (uc3 k) ⟨f,l⟩ d.at_);cases r with
  |inl r=>exact⟨b.1,b.2⟩
  |inr y=>exact b) [] ⟨uff _,λ_ h=>(nomatch h)⟩
def Nu(n:Nat)(y:aa [.sl bi,i64]):Prop:=List.length (α:=bi.den) y.1<=n/\∀ g:bi.den,g∈(y.1:List bi.den)->List.length (α:=Int) g.2.2.1<=n/\∀ k:Int,k∈(g.2.2.1:List Int)->0<=k/\k<(n:Int)
def Rn(a:aq.den)(d:bD a):(BE (a,())).satP (Nu (List.length (α:=ar.den) (bq a))):=by
 have f:List.length (α:=ar.den) (bq a)<=100000:=d.2.2.1;refine E3 (dI (ueo f (by decide))) (qmw a d) (λs e=>⟨e.len,e.at_⟩) (λy c=>?_);have c:y.1.1=[]:=c;refine⟨?_,λg b=>?_⟩;show List.length y.1.1<=_;rw[c];exact uff _;have b:g∈y.1.1:=b;rw[c]at b;cases b
def AP:Ct:=⟨[.d aq],[.sl bi,i64],λx=>(BE x).get,λx=>[bD x.1]⟩
def qcl:af prog 54 AP:=bW qjh _ (λx _ a=>(cO (Rn x.1 a)).1)
def qmv(a:aq.den)(b:bD a):Nu (List.length (α:=ar.den) (bq a)) (AP.f (a,())):=(cO (Rn a b)).2
noncomputable def EV:Cx:=cx [(54,AP),(55,xa)] []
def s9:CxOK prog EV:=aP aG ⟨qcl,qby,uT⟩ trivial
abbrev vo:Pt:=⟨78,2,⟨[(37,.d i64),(36,.d i64),(35,.d aK),(30,.d i64),(29,.d i64),(28,.d (.sl bi))],[.x 1 59 aq,.r 1 1 0,.x 8 147 bi,.r 8 8 0,.o 6 99 aJ,.o 9 150 ar]⟩,⟨[(30,.d i64),(29,.d i64),(28,.d (.sl bi))],[.x 1 59 aq,.r 1 1 0,.x 8 147 bi,.r 8 8 0,.o 6 99 aJ,.o 9 150 ar]⟩,⟨[],[]⟩⟩
def DT(k:Int×(List Int)×Int×Int×(List bi.den)×aq.den×bi.den×(List aJ.den))(b:Prop)(i:Int)(e:i64.den)(s:(List ar.den)):Fr ((List ar.den)):=
 let a:=List.getD k.2.2.2.2.2.1.2.2.1 (Int.toNat e) ar.dflt;Jd b (Jd (0<=e/\e<((List.length k.2.2.2.2.2.1.2.2.1):Int)) (Jd (s.length + [a].length<=maxLen/\(s.length + [a].length)*72<=140737488355328) (Jv (s++[a]))))
noncomputable def RB:Code:=((Go.Ab.loopB (au f32 0) 0).getD .skip)
def MZ:vo.M.X->Fr vo.Out:=FG (λx=>(x.1.1,(x.1.2.1,x.1.2.2.1,x.1.2.2.2.1,x.1.2.2.2.2.1,x.1.2.2.2.2.2.1,x.2.1,x.2.2.1,x.2.2.2.1),x.2.2.2.2.1)) (λk=>k.1) (λk=>k.2.1) DT (λk s=>((k.2.2.1,k.2.2.2.1,k.2.2.2.2.1,()),(k.2.2.2.2.2.1,k.2.2.2.2.2.2.1,k.2.2.2.2.2.2.2,s,())))
def qr9:ae prog (.loop RB) vo.M vo MZ:=
 cN s9 (λi k s=>((i,k.1,k.2.1,k.2.2.1,k.2.2.2.1,k.2.2.2.2.1,()),k.2.2.2.2.2.1,k.2.2.2.2.2.2.1,k.2.2.2.2.2.2.2,s,())) i64.dflt
def IE:=λk s=>bO (DT k True) 0 k.2.1 s
def Tv:=λk s=>bM (DT k True) 0 k.2.1 s
def zd5(Γ:Gm):St->Option Tr:=vo.han Γ vo.M MZ
abbrev vq:Pt:=⟨78,4,⟨[(63,.d i64),(62,.d i64),(61,.d aK),(12,.d (.sl aJ)),(30,.d i64),(29,.d i64),(28,.d (.sl bi))],[.x 1 59 aq,.r 1 1 0,.o 6 99 aJ]⟩,⟨[(30,.d i64),(29,.d i64),(28,.d (.sl bi))],[.x 1 59 aq,.r 1 1 0,.o 6 99 aJ]⟩,⟨[],[]⟩⟩
def DU(k:Int×(List Int)×(List aJ.den)×Int×Int×(List bi.den)×aq.den)(b:Prop)(i:Int)(e:i64.den)(s:(List aJ.den)):Fr ((List aJ.den)):=
 Jd b (Jd (0<=i/\i<((List.length k.2.2.1):Int)) (Jd (0<=e/\e<(s.length:Int)) (Jd (Int.toNat e<s.length) (Jv (s.set (Int.toNat e) (List.getD k.2.2.1 (Int.toNat i) aJ.dflt))))))
noncomputable def RC:Code:=((Go.Ab.loopB (au f32 0) 1).getD .skip)
def Na:vq.M.X->Fr vq.Out:=FG (λx=>(x.1.1,(x.1.2.1,x.1.2.2.1,x.1.2.2.2.1,x.1.2.2.2.2.1,x.1.2.2.2.2.2.1,x.1.2.2.2.2.2.2.1,x.2.1),x.2.2.1)) (λk=>k.1) (λk=>k.2.1) DU (λk s=>((k.2.2.2.1,k.2.2.2.2.1,k.2.2.2.2.2.1,()),(k.2.2.2.2.2.2,s,())))
def qsa:ae prog (.loop RC) vq.M vq Na:=
 cN s9 (λi k s=>((i,k.1,k.2.1,k.2.2.1,k.2.2.2.1,k.2.2.2.2.1,k.2.2.2.2.2.1,()),k.2.2.2.2.2.2,s,())) i64.dflt
def QX:=λk s=>bO (DU k True) 0 k.2.1 s
def Tw:=λk s=>bM (DU k True) 0 k.2.1 s
def zd6(Γ:Gm):St->Option Tr:=vq.han Γ vq.M Na
abbrev rN:Pt:=⟨78,0,⟨[(30,.d i64),(29,.d i64),(28,.d (.sl bi))],[.x 1 59 aq,.r 1 1 0,.o 6 99 aJ]⟩,⟨[],[.o 6 99 aJ]⟩,⟨[(2,.d (.sl aJ)),(3,.d i64)],[]⟩⟩
abbrev yb:Type:=Int×List bi.den×aq.den
def nZ(g:bi.den):List Int:=g.2.2.1
def RZ(k:yb)(i:Int)(g:bi.den)(s:List aJ.den):Int×(List Int)×Int×Int×(List bi.den)×aq.den×bi.den×(List aJ.den):=(((nZ g).length:Int),nZ g,i,k.1,k.2.1,k.2.2,g,s)
def zj(g:bi.den)(l:List ar.den):aa [.sl aJ,i64]:=xa.f (g.2.1,l,())
def Ji(k:yb)(i:Int)(g:bi.den)(l:List ar.den):Int×(List Int)×(List aJ.den)×Int×Int×(List bi.den)×aq.den:=(((nZ g).length:Int),nZ g,(zj g l).1,i,k.1,k.2.1,k.2.2)
def KZ(k:yb)(b:Prop)(i:Int)(e:bi.den)(s:List aJ.den):Fr (List aJ.den ⊕ rN.R.X):=
 Jd b (cI (InK ((nZ e).length:Int) 0 (nZ e).length) (Tv (RZ k i e s) []) (IE (RZ k i e s) []) (λl=>
  Jd (ev l) (Jb ((zj e l).2.1 != 0) (Jv (.inr (([],(zj e l).2.1,()),())))
   (cI (InK ((nZ e).length:Int) 0 (nZ e).length) (Tw (Ji k i e l) s) (QX (Ji k i e l) s) (λo=>Jv (.inl o))))))
def Z7:rN.M.X->Fr rN.Out:=FK (λx=>(x.1.1,((x.1.2.1,x.1.2.2.1,x.2.1):yb),x.2.2.1)) (λk=>k.1) (λk=>k.2.1) KZ (λ_ s=>((),s,())) (λ_ y=>Rd.back y) [] (aW _,bN _)
def qsb:ae prog (.loop (au f32 0)) rN.M rN Z7:=
 lm s9 (λi k s=>((i,k.1,k.2.1,()),k.2.2,s,())) bi.dflt (Λ:=(λk=>if k=0 then zd5 EV.Γ else zd6 EV.Γ)) (hΛ:=λ_=>Sm (by kernel_rfl) (b0:=RB) (b1:=RC) (by kernel_rfl) (by kernel_rfl) (ae.han s9 rfl qr9) (ae.han s9 rfl qsa))
def kK(a:aq.den):aa [.sl bi,i64]:=AP.f (a,())
def Cz(a:aq.den):yb:=((List.length (α:=bi.den) (kK a).1:Int),(kK a).1,a)
def zki(x:ag [.d aq]):Fr (aa [.sl aJ,i64]):=
 Jd (bD x.1) (Jb ((kK x.1).2.1 != 0) (Jv ([],(kK x.1).2.1,()))
  (Jd (uI (List.length x.1.2.2.1) 48)
   (iY (InK (List.length (kK x.1).1:Int) 0 (List.length (kK x.1).1)) (eJ (KZ (Cz x.1) True) 0 (kK x.1).1 (List.replicate (Int.toNat (List.length x.1.2.2.1:Int)) aJ.dflt)) (da (KZ (Cz x.1) True) 0 (kK x.1).1 (List.replicate (Int.toNat (List.length x.1.2.2.1:Int)) aJ.dflt)) [] (aW _,bN _)
    (λs=>Jv (s,0,())) (λy=>Jv y.1))))
def qja:af prog 32 (bg [.d aq] [.sl aJ,i64] zki):=
 cS s9 qsb (fn:=f32)
def qkr(k:Int×(List Int)×Int×Int×(List bi.den)×aq.den×bi.den×(List aJ.den))(m:k.2.1.length<=100000)(i:∀ x∈k.2.1,0<=x/\x<(List.length (α:=ar.den) (bq k.2.2.2.2.2.1):Int)):
  Tv k []/\(IE k []).length=k.2.1.length/\∀ f∈IE k [],f∈bq k.2.2.2.2.2.1:=
 dk (step:=DT k True) (λj (r:List ar.den)=>r.length=j/\∀ f∈r,f∈bq k.2.2.2.2.2.1) k.2.1 (λj e r b c=>by
  have l:=eD b;have a:=i e (ubg b);have n:=toNat_lt a;have o:=ew;have d:=c.1;refine⟨uT,a,?_,?_,λf g=>?_⟩;show r.length+1<=maxLen/\(r.length+1)*72<=140737488355328;omega;rw[ub6];exact uft (· + 1) d;rcases uds.1 g with h|h
  exact c.2 f h;rw[ucf.1 h];exact fo a) [] ⟨rfl,λ_ h=>(nomatch h)⟩
def qks(k:Int×(List Int)×(List aJ.den)×Int×Int×(List bi.den)×aq.den)(n:Nat)(g:k.2.1.length=k.2.2.1.length)(f:∀ x∈k.2.1,0<=x/\x<(n:Int))(s:List aJ.den)(i:s.length=n):
  Tw k s/\(QX k s).length=n:=
 dk (step:=DU k True) (λ_ (r:List aJ.den)=>r.length=n) k.2.1 (λj e r c b=>by
  have d:=eD c;rw[g]at d;have a:=f e (ubg c);have h:=toNat_lt a;refine⟨uT,(lK d rfl).1,by rw[b];exact a,by rw[b];exact h,?_⟩;show(List.set _ _ _).length=n;rw[udo];exact b) s i
def Qr(a:aq.den)(n:bD a)(z:ev (bq a)):(zki (a,())).satP (λy=>y.2.1=0->List.length (α:=aJ.den) y.1=List.length (α:=ar.den) (bq a)):=by
 obtain⟨v,w⟩:=qmv a n;have q:List.length (α:=ar.den) (bq a)<=100000:=n.2.2.1;refine⟨n,λk c=>?_,λk=>⟨yl (ueo q (by decide)) (by decide),E3 (A:=λ(s:List aJ.den)=>s.length=List.length (α:=ar.den) (bq a)) (B:=λ(y:rN.R.X)=>y.1.2.1≠0) (dI (ueo v (ueo q (by decide)))) ?_ (λs r _=>r) (λy D c=>absurd c D)⟩⟩;have d:((kK a).2.1 != 0)=true:=k;have m:(kK a).2.1=0:=c;rw[m]at d;cases d;refine nm (step:=KZ (Cz a) True) (λ_ (s:List aJ.den)=>s.length=List.length (α:=ar.den) (bq a)) (λ(y:rN.R.X)=>y.1.2.1≠0) (kK a).1 (λi e s k r=>?_) _ ?_;obtain⟨u,t⟩:=w e (ubg k);have j:(nZ e).length<=100000:=ueo u q;refine⟨uT,fz (A:=λ(l:List ar.den)=>l.length=(nZ e).length/\∀ f∈l,f∈bq a) (dI (ueo j (by decide))) (qkr (RZ (Cz a) i e s) j t) (λl b=>?_)⟩;have g:ev l:=⟨by rw[b.1];exact ueo j (by decide),λf p=>z.2 f (b.2 f p)⟩;refine⟨g,λh=>?_,λh=>?_⟩;show(zj e l).2.1≠0;simpa using h;have c:(zj e l).2.1=0:=by simpa using h
 have x:=qag e.2.1 l g c;exact fz (A:=λ(o:List aJ.den)=>o.length=List.length (α:=ar.den) (bq a)) (dI (ueo j (by decide))) (qks (Ji (Cz a) i e l) _ (b.1.symm.trans x.symm) t s r) (λo C=>C);show(List.replicate (Int.toNat (List.length (α:=ar.den) (bq a):Int)) _).length=_;rw[ubc,uc0]
def tC:Ct:=⟨[.d aq],[.sl aJ,i64],λx=>(zki x).get,λx=>[bD x.1,ev (bq x.1)]⟩
def O4:af prog 32 tC:=bW qja _ (λx _ a=>(cO (Qr x.1 a.1 a.2)).1)
def qkt(a:aq.den)(c:bD a)(d:ev (bq a))(b:(tC.f (a,())).2.1=0):List.length (α:=aJ.den) (tC.f (a,())).1=List.length (α:=ar.den) (bq a):=(cO (Qr a c d)).2 b
noncomputable def Fl:FuncId->Option (Func×(Nat->St->Option Tr)):=cu [(41,(f41,bw))]
noncomputable def OX:List (FuncId×Ct):=[(47,A5),(32,tC),(48,tD)]
def qeu:iz prog OX:=⟨Pz,O4,O6,uT⟩
noncomputable def My:Cx:=cW OX [] (fU prog (cx [] []) Fl)
def w7:CxOK prog My:=cZ aG qeu trivial (gG kq (lk (by kernel_rfl) qe))
abbrev yG:Pt:=⟨105,0,⟨[(22,.d i64),(21,.d i64),(20,.d (.sl zjv))],[.x 1 59 aq,.r 1 1 0,.x 4 111 cK,.r 4 4 0,.x 2 76 bS,.r 2 2 0]⟩,⟨[],[.x 1 59 aq,.r 1 1 0,.x 4 111 cK,.r 4 4 0,.x 2 76 bS,.r 2 2 0]⟩,⟨[(3,.d i64)],[.x 2 76 bS,.r 2 2 0]⟩⟩
def nJ(k:α->Fr β):Fr α->Fr β
 |.val x=>k x
 |.br b x y=>.br b (nJ k x) (nJ k y)
 |.need p x=>.need p (nJ k x)
def qg{k:α->Fr β}{Q:β->Prop}:{f:Fr α}->f.satP (λa=>(k a).satP Q)->(nJ k f).satP Q
 |.val _,h=>h
 |.br _ _ _,h=>⟨λb=>qg (h.1 b),λb=>qg (h.2 b)⟩
 |.need _ _,h=>⟨h.1,qg h.2⟩
def uG(a:bS.den):List Int:=[a.1,a.2.1,a.2.2.1,a.2.2.2.1,a.2.2.2.2.1,a.2.2.2.2.2.1]
def Vg(a:bS.den)(w x:Int):bS.den:=(bif w==0 then x else a.1,bif w==0+1 then x else a.2.1,bif w==0+1+1 then x else a.2.2.1,bif w==0+1+1+1 then x else a.2.2.2.1,bif w==0+1+1+1+1 then x else a.2.2.2.2.1,bif w==0+1+1+1+1+1 then x else a.2.2.2.2.2.1,())
def JY(s:cK.den)(w m:Int):Bool:=bif s.2.1 then Z else J (m>I6.wrap (4000000000000000000-(uG s.1).getD (Int.toNat w) 0))
def nX(w m:Int)(s:cK.den):Fr cK.den:=
 Jd (s.2.1=Y->0<=w/\w<(6:Int)) (Jb (!JY s w m)
  (Jd (0<=w/\w<(6:Int)) (Jd (0<=w/\w<(6:Int)) (Jv (Vg s.1 w (I6.wrap ((uG s.1).getD (Int.toNat w) 0+m)),JY s w m,()))))
  (Jv (s.1,JY s w m,())))
def qo{w m:Int}{s:cK.den}(a:0<=w/\w<6):(nX w m s).satP λ_=>True:=⟨λ_=>a,λ_=>⟨a,a,uT⟩,λ_=>uT⟩
def Ec(k:Int×(List zjv.den)×aq.den×bS.den)(b:Prop)(_i:Int)(e:zjv.den)(s:cK.den):Fr (cK.den ⊕ yG.R.X):=
 let a:=A5.f (e.1,k.2.2.1.1,());Jd b (Jd (bL e.1) (Jd (bJ k.2.2.1.1) (Jb (a.2.1 != 0) (Jv (.inr ((a.2.1,()),(0,0,0,0,0,0,()),())))
  (nJ (λs1=>nJ (λc=>Jv (.inl c)) (nX 1 e.2.1 s1)) (nX 0 a.1 s)))))
def ZH:yG.M.X->Fr yG.Out:=FK (λx=>(x.1.1,(x.1.2.1,x.1.2.2.1,x.2.1,x.2.2.2.1),x.2.2.1)) (λk=>k.1) (λk=>k.2.1) Ec (λk s=>((),(k.2.2.1,s,k.2.2.2,()))) (λ_ y=>Rd.back y) cK.dflt (aW _,bN _)
def qs6:ae prog (.loop (au f23 0)) yG.M yG ZH:=
 lm w7 (λi k s=>((i,k.1,k.2.1,()),k.2.2.1,s,k.2.2.2,())) zjv.dflt
abbrev zw:List MI:=[.x 4 111 cK,.r 4 4 0,.x 2 76 bS,.r 2 2 0]
abbrev Vt:List MI:=.x 1 59 aq :: .r 1 1 0::zw
abbrev Dq:Pt:=⟨105,2,⟨[(55,.d i64),(54,.d i64),(53,.d (.sl aJ)),(9,.d (.sl aJ))],Vt⟩,⟨[(9,.d (.sl aJ))],Vt⟩,⟨[],[]⟩⟩
def Ed(_k:Int×(List aJ.den)×(List aJ.den)×aq.den×bS.den)(b:Prop)(_i:Int)(e:aJ.den)(s:cK.den):Fr cK.den:=
 Jd b (nJ (λs1=>nJ (λa=>nX 4 e.2.2.2.2.1 a) (nX 3 e.2.2.2.1 s1)) (nX 2 e.2.2.1 s))
def ZI:Dq.M.X->Fr Dq.Out:=FG (λx=>(x.1.1,(x.1.2.1,x.1.2.2.1,x.1.2.2.2.1,x.2.1,x.2.2.2.1),x.2.2.1)) (λk=>k.1) (λk=>k.2.1) Ed (λk s=>((k.2.2.1,()),k.2.2.2.1,s,k.2.2.2.2,()))
def qs7:ae prog (.loop (au f23 1)) Dq.M Dq ZI:=
 cN w7 (λi k s=>((i,k.1,k.2.1,k.2.2.1,()),k.2.2.2.1,s,k.2.2.2.2,())) aJ.dflt
abbrev vC:Pt:=⟨105,6,⟨[(91,.d i64),(90,.d i64),(89,.d j8),(85,.d i64),(84,.d i64),(83,.d (.sl j8))],zw⟩,⟨[(85,.d i64),(84,.d i64),(83,.d (.sl j8))],zw⟩,⟨[],[]⟩⟩
def Eg(_k:Int×(List dq.den)×Int×Int×(List (List dq.den))×bS.den)(b:Prop)(_i:Int)(e:dq.den)(s:cK.den):Fr cK.den:=Jd b (nX 5 e.2.1 s)
def Nq:vC.M.X->Fr vC.Out:=FG (λx=>(x.1.1,(x.1.2.1,x.1.2.2.1,x.1.2.2.2.1,x.1.2.2.2.2.1,x.1.2.2.2.2.2.1,x.2.2.1),x.2.1)) (λk=>k.1) (λk=>k.2.1) Eg (λk s=>((k.2.2.1,k.2.2.2.1,k.2.2.2.2.1,()),s,k.2.2.2.2.2,()))
noncomputable def RH:Code:=(Go.Ab.loopB (au f23 2) 0).getD .skip
def qs9:ae prog (.loop RH) vC.M vC Nq:=
 cN w7 (λi k s=>((i,k.1,k.2.1,k.2.2.1,k.2.2.2.1,k.2.2.2.2.1,()),s,k.2.2.2.2.2,())) dq.dflt
abbrev Dr:Pt:=⟨105,4,⟨[(85,.d i64),(84,.d i64),(83,.d (.sl j8))],zw⟩,⟨[],zw⟩,⟨[],[]⟩⟩
def qow(k:Int×(List (List dq.den))×bS.den)(i:Int)(e:List dq.den):Int×(List dq.den)×Int×Int×(List (List dq.den))×bS.den:=((e.length:Int),e,i,k.1,k.2.1,k.2.2)
def Ee(k:Int×(List (List dq.den))×bS.den)(b:Prop)(i:Int)(e:List dq.den)(s:cK.den):Fr cK.den:=
 Jd b (cI (InK (e.length:Int) 0 e.length) (bM (Eg (qow k i e) True) 0 e s) (bO (Eg (qow k i e) True) 0 e s) (λs=>Jv s))
def ZJ:Dr.M.X->Fr Dr.Out:=FG (λx=>(x.1.1,(x.1.2.1,x.1.2.2.1,x.2.2.1),x.2.1)) (λk=>k.1) (λk=>k.2.1) Ee (λk s=>((),s,k.2.2,()))
def qs8:ae prog (.loop (au f23 2)) Dr.M Dr ZJ:=
 cN w7 (λi k s=>((i,k.1,k.2.1,()),s,k.2.2,())) j8.dflt (Λ:=λ_=>vC.han My.Γ vC.M Nq) (hΛ:=λ_=>kP (by kernel_rfl) (b:=RH) (by kernel_rfl) (ae.han w7 rfl qs9))
abbrev vu:Pt:=⟨41,0,⟨[(11,.d i64),(10,.d i64),(9,.d (.sl aJ))],[.x 2 59 aq,.r 2 2 0,.o 5 101 ay]⟩,⟨[],[.o 5 101 ay]⟩,⟨[],[]⟩⟩
def DX(k:Int×(List aJ.den)×aq.den)(b:Prop)(i:Int)(e:aJ.den)(s:(List ay.den)):Fr ((List ay.den)):=
 let a:=List.getD k.2.2.2.2.1 (Int.toNat i) ar.dflt;let c:=(a.1.1,a.1.2.2.2.2.2.1,a.1.2.2.2.1,a.1.2.2.1,e.2.2.1,());Jd b (Jd (0<=i/\i<((List.length k.2.2.2.2.1):Int)) (Jb (J (e.2.2.1>0)) (Jd (s.length + [c].length<=maxLen/\(s.length + [c].length)*40<=140737488355328) (Jv (s++[c]))) (Jv s)))
def Ng:vu.M.X->Fr vu.Out:=FG (λx=>(x.1.1,(x.1.2.1,x.1.2.2.1,x.2.1),x.2.2.1)) (λk=>k.1) (λk=>k.2.1) DX (λk s=>((),s,()))
def qsg:ae prog (.loop (au f49 0)) vu.M vu Ng:=
 cN aH (λi k s=>((i,k.1,k.2.1,()),k.2.2,s,())) aJ.dflt
def qmk:=λk s=>bO (DX k True) 0 k.2.1 s
def T0:=λk s=>bM (DX k True) 0 k.2.1 s
def zd9(Γ:Gm):St->Option Tr:=vu.han Γ vu.M Ng
def HW(x:ag [.d aq,.d (.sl aJ)]):Fr (aa [.sl ay]):=
 cI (InK (((List.length x.2.1):Int)) 0 (List.length x.2.1)) (T0 (((List.length x.2.1):Int),x.2.1,x.1) []) (qmk (((List.length x.2.1):Int),x.2.1,x.1) []) (λa=>Jv (a,()))
def qji:af prog 49 ⟨[.d aq,.d (.sl aJ)],[.sl ay],λxs=>(HW xs).get,λxs=>[(HW xs).ok]⟩:=
 cf aH (Λ:=(λ_=>zd9 dB.Γ)) (fn:=f49) (aW [.d aq,.d (.sl aJ)]) (by kernel_rfl) (λc E a=>zlp a (by kernel_rfl) (b:=au f49 0) (by kernel_rfl) (ae.han aH rfl qsg)) (λx=>by kernel_rfl)
def qtf(a:aq.den)(l:List aJ.den)(h:l.length<=List.length (α:=ar.den) (bq a))(f:l.length<=1000000):T0 ((l.length:Int),l,a) []:=
 (dk (step:=DX ((l.length:Int),l,a) True) (λi (s:List ay.den)=>s.length<=i) l (λi e s c b=>by
  have hi:=eD c;have g:=ew;have d:0<=(i:Int)/\(i:Int)<(List.length (α:=ar.den) (bq a):Int):=by omega
  refine⟨uT,d,λ_=>⟨?_,?_⟩,λ_=>uc3 b⟩;show s.length+1<=maxLen/\(s.length+1)*40<=140737488355328;omega;show(s++[_]).length<=i+1;rw[ub6];exact udj b) [] (ue9 _)).1
def GI:Ct:=⟨[.d aq,.d (.sl aJ)],[.sl ay],λx=>(HW x).get,λx=>[List.length (α:=aJ.den) x.2.1<=List.length (α:=ar.den) (bq x.1),List.length (α:=aJ.den) x.2.1<=1000000]⟩
def qcm:af prog 49 GI:=bW qji _ (λx b a=>nK (gt b.2.1.1) (qtf x.1 x.2.1 a.1 a.2) (λ_=>uT))
noncomputable def OY:List (FuncId×Ct):=[(32,tC),(48,tD),(49,GI)]
def qev:iz prog OY:=⟨O4,O6,qcm,uT⟩
noncomputable def YP:Cx:=cW OY [] (fU prog (cx [] []) Fl)
def YQ:CxOK prog YP:=cZ aG qev trivial (gG kq (lk (by kernel_rfl) qe))
abbrev z6:bS.den:=(0,0,0,0,0,0,())
def gE(a:aq.den):aa [.sl aJ,i64]:=tC.f (a,())
def J2(a:aq.den):List ay.den:=(GI.f (a,(gE a).1,())).1
def lh(a:aq.den):aa [.sl j8,aK,i64]:=tD.f (a.2.2.2.1,J2 a,())
def Jk(a:aq.den):Int×(List zjv.den)×aq.den×bS.den:=((List.length (α:=zjv.den) a.2.1:Int),a.2.1,a,z6)
def Jl(a:aq.den):Int×(List aJ.den)×(List aJ.den)×aq.den×bS.den:=((List.length (α:=aJ.den) (gE a).1:Int),(gE a).1,(gE a).1,a,z6)
def Jm(a:aq.den):Int×(List (List dq.den))×bS.den:=((List.length (α:=List dq.den) (lh a).1:Int),(lh a).1,z6)
def HT(x:ag [.d aq]):Fr (aa [bS,i64]):=
 iY (InK (List.length (α:=zjv.den) x.1.2.1:Int) 0 (List.length (α:=zjv.den) x.1.2.1)) (eJ (Ec (Jk x.1) True) 0 x.1.2.1 cK.dflt) (da (Ec (Jk x.1) True) 0 x.1.2.1 cK.dflt) cK.dflt (aW _,bN _)
  (λa=>Jd (bD x.1) (Jd (ev (bq x.1)) (Jb ((gE x.1).2.1 != 0) (Jv (z6,(gE x.1).2.1,()))
   (cI (InK (List.length (α:=aJ.den) (gE x.1).1:Int) 0 (List.length (α:=aJ.den) (gE x.1).1)) (bM (Ed (Jl x.1) True) 0 (gE x.1).1 a) (bO (Ed (Jl x.1) True) 0 (gE x.1).1 a) (λs1=>
    Jd (List.length (α:=aJ.den) (gE x.1).1<=List.length (α:=ar.den) (bq x.1)) (Jd (List.length (α:=aJ.den) (gE x.1).1<=1000000) (Jb ((lh x.1).2.2.1 != 0) (Jv (z6,(lh x.1).2.2.1,()))
     (cI (InK (List.length (α:=List dq.den) (lh x.1).1:Int) 0 (List.length (α:=List dq.den) (lh x.1).1)) (bM (Ee (Jm x.1) True) 0 (lh x.1).1 s1) (bO (Ee (Jm x.1) True) 0 (lh x.1).1 s1) (λb=>
      Jb b.2.1 (Jv (z6,5,())) (Jv (b.1,0,())))))))))))
  (λy=>Jv (y.2.1,y.1.1,()))
def qjd:af prog 23 (bg [.d aq] [bS,i64] HT):=
 Qy YQ qs6 qs7 qs8 (fn:=f23)
def za8(a:aq.den)(b:bD a):eJ (Ec (Jk a) True) 0 a.2.1 cK.dflt:=
 (nm (step:=Ec (Jk a) True) (λ_ _=>True) (λ_=>True) a.2.1 (λi e s c _=>by
  have d:bL e.1:=b.2.2.2 e (ubg c);refine⟨uT,d,b.1,λ_=>uT,λ_=>qg (Fr.satP_mono (λs1 _=>?_) (qo (by decide)))⟩;exact qg (Fr.satP_mono (λf _=>uT) (qo (by decide)))) cK.dflt trivial).1
def za9(a:aq.den)(b:cK.den):bM (Ed (Jl a) True) 0 (gE a).1 b:=
 (dk (step:=Ed (Jl a) True) (λ_ _=>True) (gE a).1 (λi e s c _=>by
  refine⟨uT,qg (Fr.satP_mono (λs1 _=>?_) (qo (by decide)))⟩;exact qg (Fr.satP_mono (λd _=>qo (by decide)) (qo (by decide)))) b trivial).1
def zbb(k:Int×(List dq.den)×Int×Int×(List (List dq.den))×bS.den)(e:List dq.den)(s:cK.den):bM (Eg k True) 0 e s:=
 (dk (step:=Eg k True) (λ_ _=>True) e (λi e s a _=>⟨uT,qo (by decide)⟩) s trivial).1
def zba(a:aq.den)(s1:cK.den):bM (Ee (Jm a) True) 0 (lh a).1 s1:=
 (dk (step:=Ee (Jm a) True) (λ_ _=>True) (lh a).1 (λi e s b _=>
  ⟨uT,dI (ueo ((Wb a.2.2.2.1 (J2 a)).2 e (ubg b)) (by decide)),zbb _ _ _,uT⟩) s1 trivial).1
def zbc(a:aq.den)(b:bD a)(d:ev (bq a)):(HT (a,())).ok:=by
 have h:List.length (α:=zjv.den) (db a)<=100000:=b.2.1;have e:List.length (α:=ar.den) (bq a)<=100000:=b.2.2.1;refine ss (dI (ueo h (by decide))) (za8 a b) (λj=>⟨b,d,λ_=>uT,λi=>?_⟩) (λ_=>uT);have f:(gE a).2.1=0:=by simpa using i
 have c:List.length (α:=aJ.den) (gE a).1=List.length (α:=ar.den) (bq a):=qkt a b d f;have g:List.length (α:=List dq.den) (lh a).1<=2000:=(Wb a.2.2.2.1 (J2 a)).1;refine nK (dI (by rw[c];exact ueo e (by decide))) (za9 a j) (λs1=>⟨Nat.le_of_eq c,by rw[c];exact ueo e (by decide),λ_=>uT,λ_=>?_⟩);exact nK (dI (ueo g (by decide))) (zba a s1) (λk=>⟨λ_=>uT,λ_=>uT⟩)
def GG:Ct:=⟨[.d aq],[bS,i64],λx=>(HT x).get,λx=>[bD x.1,ev (bq x.1)]⟩
def qch:af prog 23 GG:=bW qjd _ (λx _ a=>zbc x.1 a.1 a.2)
def BD(x:ag [.d bR]):Fr (aa [.bool]):=
 Jv (bif J (x.1.2.1>1000000000000000)then Z else J (x.1.2.1 < -1000000000000000),())
def qjb:af prog 38 ⟨[.d bR],[.bool],λxs=>(BD xs).get,λxs=>[(BD xs).ok]⟩:=
 cf aH (Λ:=bw) (fn:=f38) (aW [.d bR]) (by kernel_rfl) (λc E _=>aY c 0) (λx=>by kernel_rfl)
def GF:Ct:=⟨[.d bR],[.bool],λx=>(BD x).get,λ_=>[]⟩
def qcf:af prog 38 GF:=bW qjb _ (λx a _=>uT)
abbrev P3:List MI:=[.y 8 71 [(V,i64),(V,i64),(U 107,bR)],.r 8 8 0,.x 6 71 be,.r 6 6 0]
abbrev Dh:Pt:=⟨78,0,⟨[(58,.d i64)],.x 7 73 dw :: .r 7 7 0::P3⟩,⟨[],P3⟩,⟨[],[]⟩⟩
def rx(a:dw.den):List Int:=[a.1,a.2.1,a.2.2.1,a.2.2.2.1,a.2.2.2.2.1,a.2.2.2.2.2.1,a.2.2.2.2.2.2.1,a.2.2.2.2.2.2.2.1,a.2.2.2.2.2.2.2.2.1,a.2.2.2.2.2.2.2.2.2.1]
def DN(k:dw.den×Int×Int×be.den)(_b:Prop)(i:Int)(_e:Unit)(s:List bR.den):Fr (List bR.den):=
 let a:=I6.wrap (i+1);Jd (0<=I6.wrap (i+1)/\I6.wrap (i+1)<(10:Int)) (Jb ((rx k.1).getD a.toNat 0 != 0)
  (Jd (s.length+1<=maxLen/\(s.length+1)*16<=140737488355328) (Jv (s++[(I6.wrap (i+1),(rx k.1).getD a.toNat 0,())]))) (Jv s))
def Z4:Dh.M.X->Fr Dh.Out:=FG (λx=>(x.1.1,(x.2.1,x.2.2.1.1,x.2.2.1.2.1,x.2.2.2.1),x.2.2.1.2.2.1)) (λ_=>9) (λ_=>List.replicate 9 ()) DN (λk s=>((),(k.2.1,k.2.2.1,s,()),k.2.2.2,()))
def qr2:ae prog (.loop (au f36 0)) Dh.M Dh Z4:=
 cN aH (λi k s=>((i,()),k.1,(k.2.1,k.2.2.1,s,()),k.2.2.2,())) ()
def qmi:=λk s=>bO (DN k True) 0 (List.replicate 9 ()) s
def quq:=λk s=>bM (DN k True) 0 (List.replicate 9 ()) s
abbrev rP:Pt:=⟨71,0,⟨[(11,.d i64),(10,.d i64),(9,.d (.sl bR)),(4,.d i64),(5,.d i64)],[.x 1 71 be,.r 1 1 0]⟩,⟨[(4,.d i64)],[.x 1 71 be,.r 1 1 0]⟩,⟨[(2,.d i64),(3,.d .bool)],[]⟩⟩
def Ld(k:Int×(List bR.den)×be.den)(b:Prop)(i:Int)(e:bR.den)(s:Int×Int):Fr ((Int×Int) ⊕ rP.R.X):=
 Jd b (Jb (bif bif bif bif J (e.1<=s.2)then Z else J (e.1>9)then Z else e.2.1==0 then Z else J (e.2.1 < -1000000000000000)then Z else J (e.2.1>1000000000000000)) (Jv (.inr ((0,Y,()),()))) (Jv (.inl (I6.wrap (s.1+e.2.1),e.1))))
def Nm:rP.M.X->Fr rP.Out:=FK (λx=>(x.1.1,(x.1.2.1,x.1.2.2.1,x.2.1),(x.1.2.2.2.1,x.1.2.2.2.2.1))) (λk=>k.1) (λk=>k.2.1) Ld (λk s=>((s.1,()),k.2.2,())) (λ_ y=>Rd.back y) (0,0) (aW _,bN _)
def qsw:ae prog (.loop (au f50 0)) rP.M rP Nm:=
 lm aH (λi k s=>((i,k.1,k.2.1,s.1,s.2,()),k.2.2,())) bR.dflt
def qmn:=λk s=>da (Ld k True) 0 k.2.1 s
def quu:=λk s=>eJ (Ld k True) 0 k.2.1 s
def zed(Γ:Gm):St->Option Tr:=rP.han Γ rP.M Nm
def HX(x:ag [.d be]):Fr (aa [i64,.bool]):=
 iY (InK (((List.length x.1.2.2.1):Int)) 0 (List.length x.1.2.2.1)) (quu (((List.length x.1.2.2.1):Int),x.1.2.2.1,x.1) (0,0)) (qmn (((List.length x.1.2.2.1):Int),x.1.2.2.1,x.1) (0,0)) (0,0) (aW _,bN _) (λa=>Jv (a.1,bif bif bif bif J (x.1.1>=1)then J (x.1.1<=292194)else Y then J (x.1.2.1>=0)else Y then J (x.1.2.1<=1000000000)else Y then J (((List.length x.1.2.2.1):Int)>=2)else Y,())) (λb=>Jv b.1)
def qju:af prog 50 ⟨[.d be],[i64,.bool],λxs=>(HX xs).get,λxs=>[(HX xs).ok]⟩:=
 cf aH (Λ:=(λ_=>zed dB.Γ)) (fn:=f50) (aW [.d be]) (by kernel_rfl) (λc E a=>zlp a (by kernel_rfl) (b:=au f50 0) (by kernel_rfl) (ae.han aH rfl qsw)) (λx=>by kernel_rfl)
def AS:Ct:=⟨[.d be],[i64,.bool],λx=>(HX x).get,λ_=>[]⟩
def qct:af prog 50 AS:=bW qju _ (λx a _=>ss (gt a.1.2.2.1.1) (by refine JL (λ_ _ _=>?_) _ _ _;exact⟨uT,λ_=>uT,λ_=>uT⟩) (λ_=>by repeat' first|exact trivial|intro _|refine⟨?_,?_⟩|decide) (λ_=>uT))
noncomputable def UG:List (FuncId×Row):=[(59,.clone 107 bR 16)]
noncomputable def YS:Cx:=l8 [(50,AS)] [] UG (λ_ _ _ _=>V)
def YT:CxOK prog YS:=mI (cs:=[(50,AS)]) (ps:=[]) (rs:=UG) aG ⟨qct,uT⟩ trivial ⟨qdt,uT⟩ (λ_ _ _ _ _ h=>(nomatch h))
def BI(x:ag [.d bV,.d be]):Fr (aa [bV,i64]):=
 let h:=AS.f (x.2.1,());let b:=(none:Option Int);let c:=List.drop (b.getD 0).toNat x.1.1;let a:=((List.length x.1.1):Int);let g:=List.take (a-b.getD 0).toNat c;Jb (!h.2.1) (Jv (([],()),1,())) (Jb (h.1 != 0) (Jv (([],()),13,())) (Jb (J (a>=2000)) (Jv (([],()),2,())) (Jd (J (a>0)=Z->0<=I6.wrap (a-1)/\I6.wrap (a-1)<a) (Jb (bif J (a>0)then J (x.2.1.1<(List.getD x.1.1 (I6.wrap (a-1)).toNat be.dflt).1)else Y) (Jv (([],()),4,())) (Jd (List.length x.2.1.2.2.1<=maxLen) (Jd (List.length x.2.1.2.2.1*16<=140737488355328) (Jd (0<=b.getD 0/\b.getD 0<=a/\a<=a/\a=a) (Jd (0 < [x.2.1].length/\g.length + [x.2.1].length<=maxLen/\(g.length + [x.2.1].length)*40<=140737488355328) (Jv ((List.take (a-b.getD 0).toNat c++[x.2.1],()),0,()))))))))))
def qjr:af prog 39 ⟨[.d bV,.d be],[bV,i64],λxs=>(BI xs).get,λxs=>[(BI xs).ok]⟩:=
 cf YT (Λ:=bw) (fn:=f39) (aW [.d bV,.d be]) (by kernel_rfl) (λc E _=>aY c 0) (λx=>by kernel_rfl)
def qwp(b:bV.den)(e:be.den)(h:List.length (α:=bR.den) e.2.2.1<=1000000):(BI (b,e,())).ok:=by
 have g:=ew;refine⟨λ_=>uT,λ_=>⟨λ_=>uT,λ_=>⟨λ_=>uT,λc=>⟨λd=>?_,λ_=>uT,λ_=>⟨?_,?_,?_,?_,uT⟩⟩⟩⟩⟩;have i:(List.length (α:=be.den) b.1:Int)>0:=ucx d;have f:¬ (List.length (α:=be.den) b.1:Int)>=2000:=uch c;rw[show I6.wrap ((List.length (α:=be.den) b.1:Int)-1)=(List.length (α:=be.den) b.1:Int)-1 from cz (by omega)];show 0<=(List.length (α:=be.den) b.1:Int)-1/\(List.length (α:=be.den) b.1:Int)-1<(List.length (α:=be.den) b.1:Int);omega;show List.length (α:=bR.den) e.2.2.1<=maxLen;omega;show List.length (α:=bR.den) e.2.2.1*16<=_;omega;exact⟨ufa _,ub4 _,ufa _,rfl⟩;have f:¬ (List.length (α:=be.den) b.1:Int)>=2000:=uch c;have a:(List.take ((List.length (α:=be.den) b.1:Int)-(none:Option Int).getD 0).toNat (List.drop ((none:Option Int).getD 0).toNat (b.1:List be.den))).length<=2000:=by
  rw[uc5];show min _ (List.length (α:=be.den) b.1)<=_;omega
 refine⟨udu,?_,?_⟩;exact ueo (udj a) (ueo (show 2001<=1000000 by decide) g);exact ueo (ube 40 (udj a)) (by decide)
def GL:Ct:=⟨[.d bV,.d be],[bV,i64],λx=>(BI x).get,λx=>[List.length (α:=bR.den) x.2.1.2.2.1<=1000000]⟩
def qcq:af prog 39 GL:=bW qjr _ (λx _ a=>qwp x.1 x.2.1 a)
def BG(x:ag [.d i64,.ptr i64]):Fr (aa [.bool]):=
 Jv (J (x.1<=x.2.1),())
def qjp:af prog 43 ⟨[.d i64,.ptr i64],[.bool],λxs=>(BG xs).get,λxs=>[(BG xs).ok]⟩:=
 cf aH (Λ:=bw) (fn:=f43) (aW [.d i64,.ptr i64]) (by kernel_rfl) (λc E _=>aY c 0) (λx=>by kernel_rfl)
def AR:Ct:=⟨[.d i64,.ptr i64],[.bool],λx=>(BG x).get,λ_=>[]⟩
def qco:af prog 43 AR:=bW qjp _ (λx a _=>uT)
abbrev mY:PT:=.fn [i64] [.bool]
abbrev ve:Pt:=⟨42,2,⟨[(27,.d i64),(26,.d i64),(25,.d (.sl bR)),(7,.d i64),(1,.d i64),(2,mY),(15,.d i64),(14,.d i64),(13,.d (.sl be))],[]⟩,⟨[(7,.d i64),(1,.d i64),(2,mY),(15,.d i64),(14,.d i64),(13,.d (.sl be))],[]⟩,⟨[],[]⟩⟩
abbrev Jc:Type:=Int×List bR.den×Int×mY.den×Int×Int×List be.den
def V0(k:Jc)(b:Prop)(_i:Int)(e:bR.den)(s:Int):Fr Int:=Jd b (Jb (e.1==k.2.2.1) (Jv (I6.wrap (s+e.2.1))) (Jv s))
def MP:ve.M.X->Fr ve.Out:=FG (λx=>(x.1.1,((x.1.2.1,x.1.2.2.1,x.1.2.2.2.2.1,x.1.2.2.2.2.2.1,x.1.2.2.2.2.2.2.1,x.1.2.2.2.2.2.2.2.1,x.1.2.2.2.2.2.2.2.2.1):Jc),(x.1.2.2.2.1:Int))) (λk=>k.1) (λk=>k.2.1) V0 (λk s=>((s,k.2.2.1,k.2.2.2.1,k.2.2.2.2.1,k.2.2.2.2.2.1,k.2.2.2.2.2.2,()),()))
noncomputable def R7:Code:=(Go.Ab.loopB (au f42 0) 0).getD .skip
def qrq:ae prog (.loop R7) ve.M ve MP:=
 cN aH (λi k s=>((i,k.1,k.2.1,s,k.2.2.1,k.2.2.2.1,k.2.2.2.2.1,k.2.2.2.2.2.1,k.2.2.2.2.2.2,()),())) bR.dflt
abbrev Dd:Pt:=⟨42,0,⟨[(15,.d i64),(14,.d i64),(13,.d (.sl be)),(1,.d i64),(2,mY),(7,.d i64)],[]⟩,⟨[(7,.d i64)],[]⟩,⟨[],[]⟩⟩
abbrev Cw:Type:=Int×List be.den×Int×mY.den
def uC(e:be.den):List bR.den:=e.2.2.1
def kIn(k:Cw)(i:Int)(e:be.den):Jc:=(((uC e).length:Int),uC e,k.2.2.1,k.2.2.2,i,k.1,k.2.1)
def KX(k:Cw)(b:Prop)(i:Int)(e:be.den)(s:Int):Fr Int:=
 Jd b (Jb (!(k.2.2.2 (e.1,())).1) (Jv s) (cI (InK ((uC e).length:Int) 0 (uC e).length) (bM (V0 (kIn k i e) True) 0 (uC e) s) (bO (V0 (kIn k i e) True) 0 (uC e) s) (λs=>Jv s)))
def Zy:Dd.M.X->Fr Dd.Out:=FG (λx=>(x.1.1,((x.1.2.1,x.1.2.2.1,x.1.2.2.2.1,x.1.2.2.2.2.1):Cw),(x.1.2.2.2.2.2.1:Int))) (λk=>k.1) (λk=>k.2.1) KX (λ_ s=>((s,()),()))
def qrp:ae prog (.loop (au f42 0)) Dd.M Dd Zy:=
 cN aH (λi k s=>((i,k.1,k.2.1,k.2.2.1,k.2.2.2,s,()),())) be.dflt (Λ:=λ_=>ve.han dB.Γ ve.M MP) (hΛ:=λ_=>kP (by kernel_rfl) (b:=R7) (by kernel_rfl) (ae.han aH rfl qrq))
def RX(x:ag [.d bV,.d i64,mY]):Cw:=((List.length (α:=be.den) x.1.1:Int),x.1.1,x.2.1,x.2.2.1)
def Qn(x:ag [.d bV,.d i64,mY]):Fr (aa [i64]):=
 cI (InK (List.length (α:=be.den) x.1.1:Int) 0 (List.length (α:=be.den) x.1.1)) (bM (KX (RX x) True) 0 x.1.1 0) (bO (KX (RX x) True) 0 x.1.1 0) (λs=>Jv (s,()))
def qjt:af prog 42 (bg [.d bV,.d i64,mY] [i64] Qn):=cS aH qrp (fn:=f42)
def GN:Ct:=⟨[.d bV,.d i64,mY],[i64],λx=>(Qn x).get,λ_=>[]⟩
def qcs:af prog 42 GN:=bW qjt _ (λx d _=>by
 have a:=d.1.1;refine nK (gt a.1) (dk (step:=KX (RX x) True) (λ_ _=>True) x.1.1 (λi e s c _=>?_) 0 trivial).1 (λ_=>uT);have b:=a.2 i e c;refine⟨uT,λ_=>uT,λ_=>⟨gt b.2.2.1.1,?_,uT⟩⟩;refine uP (λ_ _ _=>?_) _ _ _;exact⟨uT,λ_=>uT,λ_=>uT⟩)
noncomputable def YU:Cx:=cx [(42,GN),(43,AR)] []
def YV:CxOK prog YU:=aP aG ⟨qcs,qco,uT⟩ trivial
def BH(x:ag [.d bV,.d i64,.d i64]):Fr (aa [i64]):=
 Jd (∀ (a:aa [i64]),fi [i64] a->av (AR.ok (a.1,x.2.2.1,()))) (Jv ((GN.f ((x.1.1,()),x.2.1,λa=>AR.f (a.1,x.2.2.1,()),())).1,()))
def qjq:af prog 18 ⟨[.d bV,.d i64,.d i64],[i64],λxs=>(BH xs).get,λxs=>[(BH xs).ok]⟩:=
 cf YV (Λ:=bw) (fn:=f18) (aW [.d bV,.d i64,.d i64]) (by kernel_rfl) (λc E _=>aY c 0) (λx=>by kernel_rfl)
def GK:Ct:=⟨[.d bV,.d i64,.d i64],[i64],λx=>(BH x).get,λ_=>[]⟩
def qcp:af prog 18 GK:=bW qjq _ (λx a _=>⟨λ_ _=>uT,uT⟩)
noncomputable def YW:Cx:=cx [(18,GK)] []
def M0:CxOK prog YW:=aP aG ⟨qcp,uT⟩ trivial
def DC(a:dw.den)(w x:Int):dw.den:=(bif w==0 then x else a.1,bif w==0+1 then x else a.2.1,bif w==0+1+1 then x else a.2.2.1,bif w==0+1+1+1 then x else a.2.2.2.1,bif w==0+1+1+1+1 then x else a.2.2.2.2.1,bif w==0+1+1+1+1+1 then x else a.2.2.2.2.2.1,bif w==0+1+1+1+1+1+1 then x else a.2.2.2.2.2.2.1,bif w==0+1+1+1+1+1+1+1 then x else a.2.2.2.2.2.2.2.1,bif w==0+1+1+1+1+1+1+1+1 then x else a.2.2.2.2.2.2.2.2.1,bif w==0+1+1+1+1+1+1+1+1+1 then x else a.2.2.2.2.2.2.2.2.2.1,())
abbrev trM:List MI:=[.x 2 52 bV,.r 2 2 0,.x 4 73 dw,.r 4 4 0,.x 5 73 dw,.r 5 5 0]
abbrev Ds:Pt:=⟨20,0,⟨[(7,.d i64),(1,.d i64)],trM⟩,⟨[],[.x 4 73 dw,.r 4 4 0,.x 5 73 dw,.r 5 5 0]⟩,⟨[],[]⟩⟩
def Lg(k:Int×bV.den×dw.den)(_b:Prop)(i:Int)(_e:Unit)(s:dw.den):Fr dw.den:=
 Jd (0<=I6.wrap (i+1)/\I6.wrap (i+1)<(10:Int)) (Jv (DC s (I6.wrap (i+1)) (GK.f (k.2.1,I6.wrap (i+1),k.1,())).1))
def ZK:Ds.M.X->Fr Ds.Out:=FG (λx=>(x.1.1,(x.1.2.1,x.2.1,x.2.2.1),x.2.2.2.1)) (λ_=>9) (λ_=>List.replicate 9 ()) Lg (λk s=>((),k.2.2,s,()))
def qte:ae prog (.loop (au f22 0)) Ds.M Ds ZK:=
 cN M0 (λi k s=>((i,k.1,()),k.2.1,k.2.2,s,())) ()
def Qm(x:ag [.d bV,.d i64]):Fr (aa [dw]):=
 cI (InK 9 0 (List.replicate 9 ()).length) (bM (Lg (x.2.1,x.1,dw.dflt) True) 0 (List.replicate 9 ()) dw.dflt) (bO (Lg (x.2.1,x.1,dw.dflt) True) 0 (List.replicate 9 ()) dw.dflt) (λs=>Jv (s,()))
def qjs:af prog 22 (bg [.d bV,.d i64] [dw] Qm):=cS M0 qte (fn:=f22)
def Te{e:Unit}(h:(List.replicate 9 ())[i]?= U e):i<9:=by
 have:=eD h
 rwa [ubc]at this
def WB(h:i<9):0<=I6.wrap ((i:Int)+1)/\I6.wrap ((i:Int)+1)<(10:Int):=by
 rw[show I6.wrap ((i:Int)+1)=(i:Int)+1 from cz (by omega)];omega
def GM:Ct:=⟨[.d bV,.d i64],[dw],λx=>(Qm x).get,λ_=>[]⟩
def qcr:af prog 22 GM:=bW qjs _ (λx _ _=>nK ⟨rfl,by decide,by decide,by decide⟩ (dk (step:=Lg (x.2.1,x.1,dw.dflt) True) (λ_ _=>True) (List.replicate 9 ()) (λi e s a _=>⟨WB (Te a),uT⟩) dw.dflt trivial).1 (λ_=>uT))
def zlt(s:aq.den):Prop:=∀ f∈bq s,List.length (α:=bn.den) f.2.1<=2000
def qeo(g:ar.den)(a:bn.den)(h:List.length (α:=bn.den) g.2.1<=2000):List.length (α:=bn.den) (o8 g a).1.2.1<=2000:=by
 unfold o8;cases !(qz a);cases b:J (((List.length (α:=bn.den) g.2.1:Nat):Int)>=2000);have:=uch b;cases J (a.1<uz g);cases (nD g).2.2.2.2.2.1==(a.2.1==5);cases G2 g a;show(g.2.1++[a]).length<=2000;rw[ub6,ua7];omega;exact uff _;exact uff _;exact uff _;exact uff _;exact uff _
def qhk(t:zll.den):zlt (ym t):=λf a=>by cases a
def qhg{s:aq.den}(f:aD.den)(h:zlt s):zlt (kx s f).1:=by
 unfold kx;cases J (aI s f>=0);cases J (((List.length (db s):Nat):Int)>=2000);exact h;exact h;exact h
def qhf{s:aq.den}(f:aD.den)(h:zlt s):zlt (kw s f).1:=by
 unfold kw;cases J (aI s f<0);cases (bq s).any (qq f);exact h;exact h;exact h
def qhl{s:aq.den}(f:aD.den)(h:zlt s):zlt (kB s f).1:=by
 unfold kB;cases J (aI s f<0);cases J (hH f>I6.wrap (4000000000000000000-(j5 s (aI s f)).2.1));exact h;exact h;exact h
def qhj{s:aq.den}(f:aD.den)(h:zlt s):zlt (kz s f).1:=by
 unfold kz;cases J (jH s (fB f).1>=0);cases J (((List.length (bq s):Nat):Int)>=2000);cases !(lA s f).2;intro g a;rcases Ub a with a|a
 exact h g a;rw[a];exact uff _;exact h;exact h;exact h
def qhe{s:aq.den}(f:aD.den)(h:zlt s):zlt (kv s f).1:=by
 unfold kv;cases b:J (gI s f<0);intro g a;rcases SS a with a|a
 exact h g a;rw[a];exact qeo _ _ (h _ (fo (If (uch b))));exact h
def qhm{s:aq.den}(f:aD.den)(h:zlt s):zlt (kC s f).1:=by
 unfold kC;cases z9 s (fD f);cases J (((List.length (jW s):Nat):Int)>=100);cases pi (jW s) (fD f);exact h;exact h;exact h;exact h
def qhh{s:aq.den}(f:aD.den)(h:zlt s):zlt (ky s f).1:=by
 unfold ky;cases J (hN f<=mg s);exact h;exact h
def qhi{s:aq.den}(f:aD.den)(h:zlt s):zlt (lD s f).1:=by
 show zlt (mL s f).1;unfold mL;cases aU f==1;cases aU f==2;cases aU f==3;cases aU f==4;cases aU f==5;cases aU f==6;exact qhh f h;exact qhm f h;exact qhe f h;exact qhj f h;exact qhl f h;exact qhf f h;exact qhg f h
def oO(s:aq.den):Prop:=bD s/\zlt s
def qhs{t:zll.den}(h:bJ t):oO (ym t):=⟨qh0 h,qhk t⟩
def qht{s:aq.den}(f:aD.den)(h:oO s)(a:(jY s f).2=0):oO (jY s f).1:=by
 rw[(zar a).2.2];exact⟨qhy f h.1,qhi f h.2⟩
def qhr{s:aq.den}(h:oO s):ev (bq s):=⟨ueo h.1.2.2.1 (by decide),λf a=>ueo (h.2 f a) (by decide)⟩
section
open Go.Shelf
attribute [local go_sem] Oper.semAt_some
def qba (n:Nat) (Q:1<=n) (l h f b off len s:Nat) (c:Nat->Int) (r:len<=1000000) (A:Option Addr) (D:0<len->A=U ⟨b,off,V⟩/\b<f) (S x:List (Fin len)->World->Prop)
  (F:∀ a (k:Fin len) W,S a W->a.length<len->YieldAt Fence.wide (n-1) prog l #[.int .i64 ((k.1:Nat):Int),.int .i64 (c k.1)] W λe W'=>
   (e=.returned (.bool Z)/\S (a++[k]) W'/\cw f h h W W')\/(e=.returned (.bool Y)/\x (a++[k]) W'))
  (W:World) (m:W.heap[h]?= U (.cells #[.slice A len s] 126 (0,0))) (H:∀ k,k<len->W.cell? ⟨b,off+k,V⟩=U (.int .i64 (c k))) (C:S [] W) :
  CallsIn Fence.wide n prog 154 #[.func (.yield l) #[] #[],.pointer (U ⟨h,0,V⟩)] W λe W'=>(∃ v,e=.returned v) /\
   ((∃ z:List (Fin len),z.map Fin.val=zly (λj=>len-1-j) len/\S z W')\/(∃ a:List (Fin len),(∃ k,k<=len/\a.map Fin.val=zly (λj=>len-1-j) k)/\x a W')):=by
 have w:Fence.wide.round=none:=rfl;refine callsIn_of_wp func154 rfl trivial ?_ w;simp only[ntmps154,ucq,uc9,udl,Nat.reduceAdd,Nat.reduceSub,ubn,ubo,ucy,ubx,udm,uc4];have N:=aO m 0
 gi_wp2
 gi_loopw [3] (λi wr=>∃ (k:Nat) (a:List (Fin len)),k<=len/\i=.int .i64 ((len:Int)-1-k)/\a.map Fin.val=zly (λj=>len-1-j) k/\S a wr/\cw f h h W wr)
  (λi _=>(intOf i+1).toNat)
 case atStart=>exact⟨0,[],uff _,by simp,rfl,C,cw.refl _ _ _ _⟩
 case round=>
  obtain⟨k,a,P,rfl,d,o,g⟩:=hrel;have O:=aO (g.2.1.trans m) 0;by_cases K:k<len
  ·obtain⟨rfl,G⟩:=D (by omega);obtain⟨fn,tmps,q,y,L,E⟩:=F a ⟨len-1-k,by omega⟩ wr o (by have:=uft List.length d;rw[BQ,ud2]at this;omega);have R:wr.cell? ⟨b,off+(len-1-k),V⟩=U (.int .i64 (c (len-1-k))):=(g.1.cell G).trans (H _ (by omega));have B:((len-1-k:Nat):Int)=(len:Int)-1-k:=by omega
   rw[B]at L
   gi_wp2
   refine E.mono ?_;rintro e M (⟨rfl,t,u⟩|⟨rfl,p⟩)
   ·gi_wp2
    go_roundw
    case rel=>exact⟨k+1,a++[⟨len-1-k,by omega⟩],by omega,by simp;omega,by rw[tX,udw,d];rfl,t,g.trans u⟩
    case measure=>simp[intOf];omega
   gi_wp2
   refine ue1 (ue2 rfl _ _ _) rfl ?_;exact⟨⟨_,rfl⟩,.inr ⟨_,⟨k+1,by omega,by rw[tX,udw,d];rfl⟩,p⟩⟩
  ·obtain rfl:k=len:=by omega
   gi_wp2
   go_end0
   exact⟨⟨_,rfl⟩,.inl ⟨_,d,o⟩⟩
def qbc(n:Nat)(A:Option Addr)(len a:Nat)(w:World):
  CallsIn Fence.wide n prog 96 #[.slice A len a] w λe w'=>e=.returned (.func (.func 154) #[] #[.pointer (U ⟨w.heap.size,0,V⟩)])/\w'=w.alloc (.cells #[.slice A len a] 126):=by
 refine callsIn_of_wp func96 rfl trivial ?_ rfl;simp only[ntmps96,ucq,uc9,udl,Nat.reduceAdd,Nat.reduceSub,ubn,ubo,ucy,ubx,udm,uc4]
 gi_wp2
 go_ret
 exact⟨rfl,rfl⟩
structure TuI (w:World) (hc:Array Value) (day:Int) (Bs:Nat) (sv:Value) (is:Nat->Bool) (pre:List (Fin len)) (W:World):Prop where
 h0:W.heap[w.heap.size]?= some (.cells hc 114 (0,0))
 d:Boxed W (w.heap.size+1) 3 (.int .i64 day)
 r:Boxed W (w.heap.size+1+1) 4 (.bool false)
 s:Boxed W Bs 126 sv
 bel:Below w.heap.size w W
 sz:Bs+1<=W.heap.size
 no:∀ k∈pre,is k.1=false
structure TuX (w:World) (is dy:Nat->Bool) (c:Code) (pre:List (Fin len)) (W:World):Prop where
 ret:c=.ret
 res:∃ ini k,pre=ini++[k]/\(∀ k∈ini,is k.1=false)/\is k.1=true/\Boxed W (w.heap.size+1+1) 4 (.bool (dy k.1))
 bel:Below w.heap.size w W
def zca{i:Array Value}{f:Nat}{l:Value}{j:Nat->Bool}(g:w.heap.size<=B):OwnFrom B (λ(c:List (Fin len)) W=>TuI w i day f l j c W):=λc X m row h a b=>
 ⟨qs h.h0 a b,iB h.d a b,iB h.r a b,iB h.s a b,h.bel.grown a h.bel.size (λk e=>ueo g (b k e).1),ueo h.sz a.size,h.no⟩
def zcb{o g:Nat->Bool}(n:w.heap.size<=B)(c:Code):OwnFrom B (λ(a:List (Fin len)) W=>TuX w o g c a W):=λa X p row h d f=>by
 obtain⟨b,k,i,j,l,m⟩:=h.res;exact⟨h.ret,⟨b,k,i,j,l,iB m d f⟩,h.bel.grown d h.bel.size (λk e=>ueo n (f k e).1)⟩
def ZN(a b:Nat->Bool)(len:Nat)(e:Ending):Prop:=
 (e=.returned (.bool Y)/\∀ k,k<len->a k=Y) \/ ∃ k,k<len/\a k=Z/\(∀ j,k<j->j<len->a j=Y)/\e=.returned (.bool (b k))
abbrev du(g:Nat->Int)(a:Option Addr)(e c:Nat)(b:Option Addr)(f d:Nat):Array Value:=#[.int .i64 (g 0),.int .i64 (g 1),.int .i64 (g 2),.int .i64 (g 3),.int .i64 (g 4),.int .i64 (g 5),.int .i64 (g 6),.int .i64 (g 7),.slice a e c,.slice b f d]
def Wh{R:Ending->World->Prop}{D z:Nat}{x y A B C E F G H a b c d e f g h i j k l m n p q s t u w:Value}(O:Boxed W (z+1+1) 4 v)(L:W.heap[D]?= U (.deferred (U [])))(P:z+3<=D)(M:R (.returned v) (W.putObj D (.deferred V))):
  bodyPostM Fence.wide 8 prog f63 R .ret { tmps:=#[x,y,A,B,.pointer (U ⟨z+1+1,0,V⟩),C,E,F,G,H,a,b,c,d,e,f,g,h,i,j,k,l,m,n,p,q,s,t,u,w],defers:=[{ target:=.collected D,args:=#[] }] } W:=by
 have N:Boxed (W.putObj D (.deferred V)) (z+1+1) 4 v:=(World.putObj_heap_other (r:=D) (o:=.deferred V) (by omega)).trans O;have K:=N.cell;refine⟨by simp,.inl ⟨_,_,rfl,run_takeDeferred L,?_⟩⟩;refine⟨v,?_,M⟩;simp[results,results63,go_sem,K]
def zce (g:Nat->Int) (H:Option Addr) (T L:Nat) (F:Option Addr) (B M b2 v:Nat) (c:Nat->ChC) (day:Int) (w:World) (hl2:B<=1000000) (hA2:0<B->F=U ⟨b2,v,V⟩/\b2<w.heap.size)
  (hc2:∀ k j u,k<B->(de (c k))[j]?= U u->w.cell? ⟨b2,v+(k*9+j),V⟩=U u)
  (n:Nat->Nat) (len:Nat) (hlen:len<=1000000) (hol:∀ k,k<len->n k<B)
  (hO:∀ W,Below w.heap.size w W->Calls prog 97 #[.agg (du g H T L F B M)] W λe w'=>∃ (A:Option Addr) (a b off:Nat),e=.returned (.slice A len a)/\Below W.heap.size W w' /\
   (0<len->A=U ⟨b,off,V⟩/\b<w'.heap.size)/\∀ k,k<len->w'.cell? ⟨b,off+k,V⟩=U (.int .i64 (n k:Int))) :
  CallsIn Fence.wide 8 prog 63 #[.agg (du g H T L F B M),.int .i64 day] w λe w'=>
   ZN (λk=>(c (n k)).p 2==3 || (c (n k)).p 2==4) (λk=>decide ((c (n k)).p 1<=day)) len e/\Below w.heap.size w w':=by
 refine callsIn_of_wp_marks func63 rfl trivial ?_ rfl;simp only[ntmps63,ucq,uc9,udl,Nat.reduceAdd,Nat.reduceSub,ubn,ubo,ucy,ubx,udm,uc4];obtain⟨x,E,G⟩:=zj8 [.cells (du g H T L F B M) 114,.cells #[.int .i64 day] 3,.cells #[.bool false] 4] w;have HO:=Lib.hid (hO _ x);have HB:=Lib.hid x;replace E:_=w.heap.size+3:=E;have HZ:=Lib.hid E;have HQ:=Lib.hid G;have HC:=Lib.hid hc2;clear hc2 hO G x E;unfold du
 gi_wp2_with (first
  |(refine⟨uT,?_⟩;gi_at_call 97;refine(callsIn_wide.2 HO.out).mono ?_;rintro e t ⟨A,a,b,off,rfl,P,hA,hcl⟩)
  |(refine⟨uT,?_⟩;gi_at_call 96;refine(qbc _ _ _ _ _).mono ?_;rintro e w' ⟨rfl,rfl⟩))
 have hw1:Below w.heap.size w t:=HB.out.trans (P.mono HB.out.size);have hz1:w.heap.size+3<=t.heap.size:=by have:=P.size;have:=HZ.out;omega
 have Q:Below t.heap.size t (t.alloc (.cells #[.slice A len a] 126)):=(ufi _ t).alloc (ue9 _) _;have hbs:=World.alloc_heap_new t (.cells #[.slice A len a] 126);have hsz0:(t.alloc (.cells #[.slice A len a] 126)).heap.size=t.heap.size+1:=by simp
 generalize t.alloc (.cells #[.slice A len a] 126)=W0 at *;have hb0:=hw1.trans (Q.mono hw1.size);have ee:∀ i o,i<3->_->W0.heap[w.heap.size+i]?= U o:=λi o hi h=>(Q.block _ (by omega)).trans ((P.block _ (by have:=HZ.out;omega)).trans (HQ.out i o h));have hI0:TuI w (du g H T L F B M) day t.heap.size (.slice A len a) (λk=>(c (n k)).p 2==3 || (c (n k)).p 2==4) ([]:List (Fin len)) W0:=⟨ee 0 _ (by decide) rfl,ee 1 _ (by decide) rfl,ee 2 _ (by decide) rfl,hbs,hb0,by omega,λk hk=>by cases hk⟩;refine wpIn_rangeFunc_ownH rfl (by omega) (gf:=154) (lb:=#[.pointer (U ⟨t.heap.size,0,V⟩)]) rfl trivial (enters_of func154 (by kernel_rfl) rfl)
  (α:=Fin len) (encs:=λ(k:Fin len)=>#[.int .i64 ((k.1:Nat):Int),.int .i64 (n k.1:Int)]) (Kp:=cw t.heap.size t.heap.size t.heap.size) (S:=λys=>ys.map Fin.val=zly (λj=>len-1-j) len) (Sp:=λf=>∃ k,k<=len/\f.map Fin.val=zly (λj=>len-1-j) k) (N:=len) (w0:=W0)
  (λl J Jx W hW _ _ hY h0=>qba 7 (by omega) l t.heap.size t.heap.size b off len a (λk=>(n k:Int)) hlen A hA J Jx hY W ((hW.block _ (by omega)).trans hbs) (λk hk=>((Q.trans (hW.mono (by omega))).cell (p:=⟨b,off+k,V⟩) (hA (by omega)).2).trans (hcl k hk)) h0)
  (λh k=>h.trans k) (λW l o o' hl ho hoc how=>⟨belowK_b (w:=t) (ue9 _) W l o o' (by omega) ho hoc how,World.putObj_heap_other (by omega),World.putObj_heap_other (by omega)⟩) (ufi _ _)
  (by intro _;rfl)
  (λf W=>TuI w (du g H T L F B M) day t.heap.size (.slice A len a) (λk=>(c (n k)).p 2==3 || (c (n k)).p 2==4) f W)
  (λcd f W=>TuX w (λk=>(c (n k)).p 2==3 || (c (n k)).p 2==4) (λk=>decide ((c (n k)).p 1<=day)) cd f W)
  (zca (by omega)) (zcb (by omega)) hI0
  (λk a' _=>a' = { tmps:=#[.agg #[.int .i64 (g 0),.int .i64 (g 1),.int .i64 (g 2),.int .i64 (g 3),.int .i64 (g 4),.int .i64 (g 5),.int .i64 (g 6),.int .i64 (g 7),.slice H T L,.slice F B M],.int .i64 day,.pointer (U ⟨w.heap.size,0,V⟩),.pointer (U ⟨w.heap.size+1,0,V⟩),.pointer (U ⟨w.heap.size+1+1,0,V⟩),undef,.int .i64 (n k.1:Int),undef,.agg #[.int .i64 (g 0),.int .i64 (g 1),.int .i64 (g 2),.int .i64 (g 3),.int .i64 (g 4),.int .i64 (g 5),.int .i64 (g 6),.int .i64 (g 7),.slice H T L,.slice F B M],.slice A len a,.func (.func 154) #[] #[.pointer (U ⟨t.heap.size,0,V⟩)],.int .i64 (k.1:Int),.int .i64 (n k.1:Int),undef,undef,undef,undef,undef,undef,undef,undef,undef,undef,undef,undef,undef,undef,undef,undef,undef],defers:=[] })
  (λk a'=>λ_ X Y row h _ _=>h) ?assign ?body ?done ?stop
 case assign=>
  rintro l f ⟨k,C⟩ W K hi O
  gi_wp2
  exact O _ _ (KeepsFrom.refl _ _) (cw.refl _ _ _ _) hi rfl
 case body=>
  rintro l f ⟨k,C⟩ a' W hl ⟨r,hr⟩ hi rfl hlt;have hk2:=hol k C;obtain⟨rfl,hb2⟩:=hA2 (by omega);have hcx:∀ j,j<9->W.cell? ⟨b2,v+n k*9+j,V⟩=U ((de (c (n k))).getD j undef):=λj hj=>by
   rw[ueh];exact(hi.bel.cell (p:=⟨b2,v+(n k*9+j),V⟩) hb2).trans (HC.out (n k) j _ hk2 (by match j,hj with|0,_|1,_|2,_|3,_|4,_|5,_|6,_|7,_|8,_=>rfl))
  obtain⟨x0,x1,x2,x3,x4,x5,x6,x7,x8⟩:=zj4 hcx;rw[uey]at x0;simp[de]at x0 x1 x2 x3 x4 x5 x6 x7 x8;have z0:=aO hi.h0 9;simp at z0;have zd:=hi.d.cell;have zr:=hi.r.cell;have zf:=hi.r.frozen;have hsz1:=hi.sz;have n1:w.heap.size+1≠W.heap.size:=by omega
  have n2:w.heap.size+1+1≠W.heap.size:=by omega
  have za:∀ o,(W.alloc o).cell? ⟨w.heap.size+1,0,V⟩=U (.int .i64 day):=λo=>(((ufi _ W).alloc (ue9 _) o).cell (p:=⟨w.heap.size+1,0,V⟩) (by show w.heap.size+1<W.heap.size;omega)).trans zd;have zb:∀ o,(W.alloc o).heap[w.heap.size+1+1]?= U (.cells #[.bool false] 4 (0,0)):=λo=>(udb W o (w.heap.size+1+1) (by omega)).trans hi.r;have zc:∀ o,(W.alloc o).cell? ⟨w.heap.size+1+1,0,V⟩=U (.bool false):=λo=>aO (zb o) 0;have zg:∀ o,(W.alloc o).frozen? ⟨w.heap.size+1+1,0,V⟩=false:=λo=>by simp[World.frozen?,zb]
  clear hcx hr
  gi_wp2
  refine⟨((KeepsOthers.alloc _ _).trans (KeepsOthers.setCell _ _ _)).from _,rfl,⟨f,⟨k,C⟩,rfl,hi.no,?_,(show Boxed (W.alloc _) _ _ _ from zb _).set _⟩,(hi.bel.alloc hi.bel.size _).setCell (by show w.heap.size<=w.heap.size+1+1;omega) _⟩
  simp_all
  refine⟨((KeepsOthers.alloc _ _).trans (KeepsOthers.setCell _ _ _)).from _,rfl,⟨f,⟨k,C⟩,rfl,hi.no,?_,(show Boxed (W.alloc _) _ _ _ from zb _).set _⟩,(hi.bel.alloc hi.bel.size _).setCell (by show w.heap.size<=w.heap.size+1+1;omega) _⟩
  simp_all
  refine⟨(KeepsOthers.alloc _ _).from _,cw.below ((ufi _ W).alloc (ue9 _) _) (by omega) (by omega) (by omega),(udb _ _ _ (by omega)).trans hi.h0,hi.d.alloc _,hi.r.alloc _,hi.s.alloc _,hi.bel.alloc hi.bel.size _,by simp;omega,λq G=>?_⟩;refine(uds.1 G).elim (hi.no q) (λe=>?_);have e2:=ucf.1 e;subst e2
  simp_all
 case done=>
  rintro D zs W hD hzs hi O;have zr:=hi.r.cell;have zf:=hi.r.frozen
  gi_wp2
  refine Wh (z:=w.heap.size) (hi.r.set (.bool false)) ((KeepsOthers.setCell W _ _).same D _ O rfl) (by omega) ⟨.inl ⟨rfl,λk hk=>?_⟩,?_⟩;have hm:k∈zs.map Fin.val:=by
   rw[hzs];exact ue6.2 ⟨len-1-k,ud9.2 (by omega),by show len-1-(len-1-k)=k;omega⟩
  obtain⟨q,G,rfl⟩:=ue6.1 hm;exact hi.no q G;have hb:=hi.bel.setCell (p:=⟨w.heap.size+1+1,0,V⟩) (by show w.heap.size<=w.heap.size+1+1;omega) (.bool false);exact hb.trans (belowK_b (w:=w) (ue9 _) _ D _ _ (by omega) ((KeepsOthers.setCell W _ _).same D _ O rfl) rfl rfl)
 case stop=>
  rintro D cd f W hD ⟨m,hm,y⟩ h O;obtain rfl:=h.ret
  gi_wp2
  obtain⟨R,k,e1,e2,e3,e4⟩:=h.res;refine Wh (z:=w.heap.size) e4 O (by omega) ⟨.inr ⟨k.1,k.2,e3,λj hj1 hj2=>?_,rfl⟩,h.bel.trans (belowK_b (w:=w) (ue9 _) _ D _ _ (by omega) O rfl rfl)⟩;subst e1;have hl:=uft List.length y;rw[BQ,ud2,ub6]at hl;obtain rfl:m=R.length+1:=by simpa using hl.symm
  rw[tX,udw]at y;obtain⟨h2,h3⟩:=List.append_inj' y rfl;have hlast:k.1=len-1-R.length:=by simpa using h3
  have hin:j∈(R.map Fin.val):=by
   rw[h2];exact ue6.2 ⟨len-1-j,ud9.2 (by omega),by show len-1-(len-1-j)=j;omega⟩
  obtain⟨q,G,rfl⟩:=ue6.1 hin;exact e2 q G
end
def Lw(h:aC.den)(day:Int):Bool:=match gM h (bE h) (bE h).length with
 |some k=>J ((bZ h k).2.1<=day)
 |none=>Y
def G8:Ct:=⟨[.d aC,.d i64],[.bool],λx=>(Lw x.1 x.2.1,()),λx=>[((aL x.1).length:Int)<=1000000]⟩
def Wj{h:aC.den}:(n:Nat)->(∀ k,k<n->kM (bZ h (l.getD k 0))=Y)->gM h l n=V
 |0,_=>rfl
 |n+1,a=>by
  unfold gM;rw[ufw (by rw[a n (Nat.lt_succ_self n)];decide)];exact Wj n λk b=>a k (Nat.lt_succ_of_lt b)
def Wk{h:aC.den}{k:Nat}(a:kM (bZ h (l.getD k 0))=Z):(n:Nat)->k<n->(∀ j,k<j->j<n->kM (bZ h (l.getD j 0))=Y)->gM h l n=U (l.getD k 0)
 |0,c,_=>absurd c (Nat.not_lt_zero _)
 |n+1,g,b=>by
  unfold gM;by_cases e:k=n;subst e;rw[ufv a];rw[ufw (by rw[b n (by omega) (Nat.lt_succ_self n)];decide)];exact Wk a n (by omega) λj d f=>b j d (Nat.lt_succ_of_lt f)
def zcf:af prog 63 G8:=by
 refine⟨enters_of func63 (by kernel_rfl) rfl,λw F xs vs g hr o=>?_⟩;obtain⟨h,day,_⟩:=xs;obtain⟨v,vs',rfl,r,hn⟩:=hr;obtain⟨rfl,hd⟩:=Ry hn;have r:bu w F aC h v:=r;have hvO:=r;obtain⟨cs,rfl⟩:=r.2.1.1 rfl;have hs:cs.size=10:=r.1;obtain⟨h0,H,⟨⟨s0,s1,_⟩,⟨r0,r1,r2,r3,_⟩,⟨A1,c1,K,_⟩,_⟩,⟨C,D,L,q⟩,_⟩:=r.2.2;obtain⟨A,cap,b,off,c,e1,hA,hc,hx⟩:=OI (w:=w) (F:=F) (l:=aL h) (v:=.slice C (aL h).length D) ⟨C,D,rfl,q⟩;cases e1;have o:((aL h).length:Int)<=1000000:=o;have N:cs=du (λj=>match j with|0=>h.1|1=>h.2.1|2=>h.2.2.1.1.1|3=>h.2.2.1.1.2.1|4=>h.2.2.1.2.1.1|5=>h.2.2.1.2.1.2.1|6=>h.2.2.1.2.1.2.2.1|_=>h.2.2.1.2.1.2.2.2.1) A1 (List.length (α:=ak.den) h.2.2.1.2.2.1) c1 C (aL h).length D:=by
  apply ufn;exact hs;intro i P Q
  match i,P,Q with
  |0,h,_=>exact ud3 ((uam h).symm.trans h0.1)
  |1,h,_=>exact ud3 ((uam h).symm.trans H.1)
  |2,h,_=>exact ud3 ((uam h).symm.trans s0.1)
  |3,h,_=>exact ud3 ((uam h).symm.trans s1.1)
  |4,h,_=>exact ud3 ((uam h).symm.trans r0.1)
  |5,h,_=>exact ud3 ((uam h).symm.trans r1.1)
  |6,h,_=>exact ud3 ((uam h).symm.trans r2.1)
  |7,h,_=>exact ud3 ((uam h).symm.trans r3.1)
  |8,h,_=>exact ud3 ((uam h).symm.trans K)
  |9,h,_=>exact ud3 ((uam h).symm.trans L)
 subst N;have hlen:(bE h).length=(aL h).length:=CO h;have m:∀ k,k<(bE h).length->((((bE h).getD k 0).toNat:Nat):Int)=(bE h).getD k 0/\((bE h).getD k 0).toNat<(aL h).length/\(bE h)[k]?= U ((bE h).getD k 0):=λk a=>by
  have e:(bE h).getD k 0=(bE h)[k]:=by rw[uah,uaq a];rfl
  have hm:=CR (h:=h) (x:=(bE h).getD k 0) (by rw[e];exact udi a);exact⟨by omega,by omega,by rw[e];exact uaq a⟩
 have t:∀ k,k<(bE h).length->(c ((bE h).getD k 0).toNat).p 1=(bZ h ((bE h).getD k 0)).2.1/\(c ((bE h).getD k 0).toNat).p 2=(bZ h ((bE h).getD k 0)).2.2.1:=λk a=>by
  have n:=(m k a).2.1;obtain⟨_,T,y⟩:=hx _ _ (uaq n);have e:bZ h ((bE h).getD k 0)=(aL h)[((bE h).getD k 0).toNat]:=by
   show(aL h).getD _ _=_;rw[uah,uaq n];rfl
  obtain⟨_,_,_,q1,q2,_⟩:=y (_,_,_) w F T;have q1':U (Value.int .i64 ((c ((bE h).getD k 0).toNat).p 1))=U (.int .i64 _):=q1.1;have q2':U (Value.int .i64 ((c ((bE h).getD k 0).toNat).p 2))=U (.int .i64 _):=q2.1;rw[e];exact⟨(Value.int.inj (ud3 q1')).2,(Value.int.inj (ud3 q2')).2⟩
 have key:=zce _ A1 _ c1 C (aL h).length D b off c day w (by omega) (λs=>⟨(hA s).1,g b (hA s).2⟩) hc (λk=>((bE h).getD k 0).toNat) (bE h).length (by omega) (λk a=>(m k a).2.1) (λW hW=>by
  have hx':=hvO.mono (λ_ h=>h) (λb f=>hW.block b (g b f));refine(JX.2 W F (h,()) [_] (λb f=>ucb (g b f) hW.size) ⟨_,[],rfl,hx',rfl⟩ o).mono ?_;rintro e w' ⟨u,F',rfl,d,g1,g2,g3⟩;have g4:aE prog w' F' (λ_ _=>True) (dE aK (bE h)) u:=fT g3;obtain⟨G,E,rfl,g5⟩:=g4.2;obtain⟨A4,c4,e4,_,_,g6⟩:=KN (w:=w') (F:=F') (l:=bE h) (v:=.slice G (bE h).length E) ⟨G,E,rfl,g5⟩;cases e4;by_cases s:0<(bE h).length;obtain⟨b3,B,rfl,O,M⟩:=g6 s;exact⟨_,E,b3,B,rfl,d,λ_=>⟨rfl,(g2 b3 O).2⟩,λk a=>by rw[(m k a).1];exact(M k _ (m k a).2.2).1⟩;exact⟨G,E,0,0,rfl,d,λh=>absurd h s,λk a=>absurd a (by omega)⟩)
 refine(callsIn_wide.1 key).mono ?_;rintro e w' ⟨he,d⟩;have z:e=.returned (.bool (Lw h day)):=by
  have f:∀ k,k<(bE h).length->((c ((bE h).getD k 0).toNat).p 2==3 || (c ((bE h).getD k 0).toNat).p 2==4)=kM (bZ h ((bE h).getD k 0)):=λk a=>by rw[(t k a).2];rfl
  unfold Lw;rcases he with ⟨rfl,S⟩|⟨k,a,R,n,rfl⟩
  rw[Wj _ λk a=>(f k a).symm.trans (S k a)];rw[Wk ((f k a).symm.trans R) _ a λj H h2=>(f j h2).symm.trans (n j H h2)];show Ending.returned (.bool (J ((c ((bE h).getD k 0).toNat).p 1<=day)))=_;rw[(t k a).1]
 subst z;exact⟨_,F,rfl,d,λ_ h=>h,λb f=>⟨.inl f,ucb (g b f) d.size⟩,rfl,⟨λh=>(by cases h),λh=>(by obtain⟨_,h⟩:=h;cases h)⟩,rfl⟩
abbrev p7:Pt:=⟨73,0,⟨[(3,.d i64)],[.x 1 140 aQ,.r 1 1 0]⟩,⟨[],[.x 1 140 aQ,.r 1 1 0]⟩,⟨[(2,.d .bool)],[]⟩⟩
def F4(v:aQ.den):List Int:=[v.2.1.1,v.2.1.2.1,v.2.1.2.2.1,v.2.1.2.2.2.1]
def f7(x:p7.M.X):Fr p7.Out:=
 let k:Int:=x.1.1;let v:aQ.den:=x.2.1
 Jb (J (k<4))
  (Jd (0<=k/\k<((4:Nat):Int)) (Jd (J ((F4 v).getD k.toNat 0<0)=Y->0<=k/\k<((4:Nat):Int))
   (Jb (bif J ((F4 v).getD k.toNat 0<0)then Z else J ((F4 v).getD k.toNat 0>100000)) (Jv (Rd.back ((Y,()),()))) (Jv (Rd.next ((I6.wrap (k+1),()),(v,())))))))
  (Jv (Rd.out ((),(v,()))))
abbrev p9:Pt:=⟨85,0,⟨[(10,.d i64),(8,.d aK),(9,.d i64)],[.x 3 140 aQ,.r 3 3 0]⟩,⟨[(9,.d i64)],[.x 3 140 aQ,.r 3 3 0]⟩,⟨[(6,.d i64),(7,.d i64)],[]⟩⟩
noncomputable def YX:Cx:=cx [(60,fN),(61,mE),(62,ow),(63,G8)] []
def YY:CxOK prog YX:=aP aG ⟨CN,N4,Sh,zcf,uT⟩ trivial
def HU(x:ag [.d aC,.d zll,.d i64]):Fr (aa [i64,i64]):=
 Jd (bL x.1) (Jd (bJ (x.2.1.1,())) (Jb ((fN.f (x.1,(x.2.1.1,()),())).2.1 != 0) (Jv (0,(fN.f (x.1,(x.2.1.1,()),())).2.1,())) (Jb ((mE.f ((fN.f (x.1,(x.2.1.1,()),())).1,I6.wrap ((if 292194<x.2.2.1 then 292194 else x.2.2.1)+1),())).2.1 != 0) (Jv (0,(mE.f ((fN.f (x.1,(x.2.1.1,()),())).1,I6.wrap ((if 292194<x.2.2.1 then 292194 else x.2.2.1)+1),())).2.1,())) (Jd (bL x.1) (Jd (bJ (x.2.1.1,())) (Jb ((ow.f (x.1,(x.2.1.1,()),())).2.1 != 0) (Jv (0,(ow.f (x.1,(x.2.1.1,()),())).2.1,())) (Jd (((aL x.1).length:Int)<=1000000) (Jb (G8.f (x.1,x.2.2.1,())).1 (Jv (I6.wrap ((mE.f ((fN.f (x.1,(x.2.1.1,()),())).1,I6.wrap ((if 292194<x.2.2.1 then 292194 else x.2.2.1)+1),())).1+(ow.f (x.1,(x.2.1.1,()),())).1),0,())) (Jv ((mE.f ((fN.f (x.1,(x.2.1.1,()),())).1,I6.wrap ((if 292194<x.2.2.1 then 292194 else x.2.2.1)+1),())).1,0,()))))))))))
def qje:af prog 40 ⟨[.d aC,.d zll,.d i64],[i64,i64],λxs=>(HU xs).get,λxs=>[(HU xs).ok]⟩:=
 cf YY (Λ:=bw) (fn:=f40) (aW [.d aC,.d zll,.d i64]) (by kernel_rfl) (λc E _=>aY c 0) (λx=>by kernel_rfl)
def GH:Ct:=⟨[.d aC,.d zll,.d i64],[i64,i64],λx=>(HU x).get,λx=>[bL x.1,bJ x.2.1]⟩
def qci:af prog 40 GH:=bW qje _ (λx e a=>by
 have b:bL x.1:=a.1;have c:bJ x.2.1:=a.2;have d:((aL x.1).length:Int)<=1000000:=by have:=b.1;omega
 exact⟨b,c,λ_=>uT,λ_=>⟨λ_=>uT,λ_=>⟨b,c,λ_=>uT,λ_=>⟨d,λ_=>uT,λ_=>uT⟩⟩⟩⟩)
def Lq(d:bS.den)(e:Int):dw.den:=
 let g:=λ(k:Int)=>(uG d).getD (Int.toNat k) 0
 let W:=I6.wrap
 (0,W (W (g 1-g 2)+g 3),W (g 0-g 1),W (e-g 0),W (0-e),W (g 2-g 3),W (0-g 4),g 4,g 5,W (0-g 5),())
def H7(f:aD.den)(d:bS.den)(e i:Int):Fr (aa [be]):=
 cI (InK 9 0 9) (quq (Lq d e,f.1,i,be.dflt) []) (qmi (Lq d e,f.1,i,be.dflt) []) (λs=>Jv ((f.1,i,s,()),()))
def Fr.in6(t:Fr α):List Int->Fr α
 |[]=>t
 |k::l=>Jd (0<=k/\k<6) (Fr.in6 t l)
def WE{Q:α->Prop}{t:Fr α}(h:t.satP Q):(l:List Int)->(∀ k∈l,0<=k/\k<6)->(Fr.in6 t l).satP Q
 |[],_=>h
 |k::l,a=>⟨a k ucc,WE h l λx b=>a x (ubj _ b)⟩
def HV(x:ag [.d aD,.d bS,.d i64]):Fr (aa [be]):=
 Fr.in6 (Jb (x.1.2.1==6) (H7 x.1 x.2.1 x.2.2.1 x.1.2.2.2.2.2.2.2.2.2.1.1) (H7 x.1 x.2.1 x.2.2.1 x.1.2.2.1)) [1,2,3,0,1,0,2,3,4,4,5,5]
def qjf:af prog 36 (bg [.d aD,.d bS,.d i64] [be] HV):=
 cS aH qr2 (fn:=f36)
def PW(y:aa [be]):Prop:=List.length (α:=bR.den) y.1.2.2.1<=9
def PA(f:aD.den)(d:bS.den)(e i:Int):(H7 f d e i).satP PW:=
 fz (A:=λ(s:List bR.den)=>s.length<=9) ⟨rfl,by decide,by decide,by decide⟩
  (dk (step:=DN (Lq d e,f.1,i,be.dflt) True) (λj (s:List bR.den)=>s.length<=j) (List.replicate 9 ()) (λj e s b a=>by
   have c:=Te b;have g:=ew;refine⟨WB c,λ_=>⟨?_,?_⟩,λ_=>uc3 a⟩;show s.length+1<=maxLen/\(s.length+1)*16<=140737488355328;omega;show(s++[_]).length<=j+1;rw[ub6];exact udj a) [] (ue9 _)) (λ_ a=>a)
def PC(x:ag [.d aD,.d bS,.d i64]):(HV x).satP PW:=WE (t:=Jb _ _ _) ⟨λ_=>PA _ _ _ _,λ_=>PA _ _ _ _⟩ _ (by decide)
def AO:Ct:=⟨[.d aD,.d bS,.d i64],[be],λx=>(HV x).get,λ_=>[]⟩
def qcj:af prog 36 AO:=bW qjf _ (λx _ _=>(cO (PC x)).1)
def qgn(x:ag [.d aD,.d bS,.d i64]):List.length (α:=bR.den) (AO.f x).1.2.2.1<=9:=(cO (PC x)).2
noncomputable def OZ:List (FuncId×Ct):=[(40,GH)]
noncomputable def YZ:Cx:=cW OZ [] (fU prog (cx [] []) Fl)
def M2:CxOK prog YZ:=cZ (cs:=OZ) aG ⟨qci,uT⟩ trivial (gG kq (lk (by kernel_rfl) qe))
abbrev yF:Pt:=⟨38,0,⟨[(14,.d i64),(13,.d i64),(12,.d (.sl zjv)),(1,.d i64)],[.x 2 59 aq,.r 2 2 0,.x 6 111 cK,.r 6 6 0]⟩,⟨[],[.x 6 111 cK,.r 6 6 0]⟩,⟨[(4,.d i64),(5,.d i64)],[]⟩⟩
abbrev Jf:Type:=Int×List zjv.den×Int×aq.den
def H3(k:Jf)(e:zjv.den):aa [i64,i64]:=GH.f (e.1,k.2.2.2.1,k.2.2.1,())
def DM(k:Jf)(b:Prop)(_i:Int)(e:zjv.den)(s:cK.den):Fr (cK.den ⊕ yF.R.X):=
 Jd b (Jd (bL e.1) (Jd (bJ k.2.2.2.1) (Jb ((H3 k e).2.1 != 0) (Jv (.inr ((0,(H3 k e).2.1,()),())))
  (nJ (λs1=>Jv (.inl s1)) (nX 0 (H3 k e).1 s)))))
def Z3:yF.M.X->Fr yF.Out:=FK (λx=>(x.1.1,(x.1.2.1,x.1.2.2.1,x.1.2.2.2.1,x.2.1),x.2.2.1)) (λk=>k.1) (λk=>k.2.1) DM (λ_ s=>((),s,())) (λ_ y=>Rd.back y) cK.dflt (aW _,bN _)
def qr1:ae prog (.loop (au f17 0)) yF.M yF Z3:=
 lm M2 (λi k s=>((i,k.1,k.2.1,k.2.2.1,()),k.2.2.2,s,())) zjv.dflt
def Jg(a:aq.den)(day:Int):Jf:=((List.length (α:=zjv.den) a.2.1:Int),a.2.1,day,a)
def Qf(x:ag [.d aq,.d i64]):Fr (aa [i64,i64]):=
 iY (InK (List.length (α:=zjv.den) x.1.2.1:Int) 0 (List.length (α:=zjv.den) x.1.2.1)) (eJ (DM (Jg x.1 x.2.1) True) 0 x.1.2.1 cK.dflt) (da (DM (Jg x.1 x.2.1) True) 0 x.1.2.1 cK.dflt) cK.dflt (aW _,bN _)
  (λs=>Jb s.2.1 (Jv (0,5,())) (Jd ((0:Int)<=0/\0<(6:Int)) (Jv ((uG s.1).getD (Int.toNat 0) 0,0,())))) (λy=>Jv y.1)
def qi9:af prog 17 (bg [.d aq,.d i64] [i64,i64] Qf):=
 cS M2 qr1 (fn:=f17)
def qgf(a:aq.den)(day:Int)(b:bD a):eJ (DM (Jg a day) True) 0 a.2.1 cK.dflt:=
 (nm (step:=DM (Jg a day) True) (λ_ _=>True) (λ_=>True) a.2.1 (λi e s c _=>
  ⟨uT,b.2.2.2 e (ubg c),b.1,λ_=>uT,λ_=>qg (Fr.satP_mono (λs1 _=>uT) (qo (by decide)))⟩) cK.dflt trivial).1
def GD:Ct:=⟨[.d aq,.d i64],[i64,i64],λx=>(Qf x).get,λx=>[bD x.1]⟩
def qce:af prog 17 GD:=bW qi9 _ (λx _ a=>
 ss (dI (ueo a.2.1 (by decide))) (qgf x.1 x.2.1 a) (λs=>⟨λ_=>uT,λ_=>⟨by decide,uT⟩⟩) (λ_=>uT))
noncomputable def Pa:List (FuncId×Ct):=[(35,Gy),(34,Gh),(23,GG),(17,GD),(36,AO),(37,fA bR),(38,GF),(39,GL)]
noncomputable def M3:Cx:=cx Pa []
def zR:CxOK prog M3:=aP (cs:=Pa) aG ⟨qt7,qf0,qch,qce,qcj,qap,qcf,qcq,uT⟩ trivial
abbrev FE:List (Nat×PT):=[(28,.d i64),(27,.d i64),(26,.d (.sl aD)),(1,.d i64),(8,.d i64)]
abbrev NW:List MI:=[.x 4 52 bV,.r 4 4 0,.x 6 52 bV,.r 6 6 0,.x 7 76 bS,.r 7 7 0,.x 9 59 aq,.r 9 9 0]
abbrev NX:List MI:=NW++[.x 11 46 aD,.r 11 11 0,.x 14 76 bS,.r 14 14 0,.x 19 76 bS,.r 19 19 0]
abbrev vB:Pt:=⟨110,2,⟨(72,.d i64)::FE++[(16,.d i64)],NX⟩,⟨FE++[(16,.d i64)],NX⟩,⟨[],[]⟩⟩
abbrev uu:Type:=(Int×Int×List aD.den×Int×Int×Int)×bV.den×bV.den×bS.den×aq.den×aD.den×bS.den
def Ea(k:uu)(_b:Prop)(i:Int)(_e:Unit)(d:bS.den):Fr bS.den:=
 let a:=Int.toNat i;Jd (0<=i/\i<(6:Int)) (Jd (0<=i/\i<(6:Int)) (Jd (0<=i/\i<(6:Int)) (Jv (Vg d i (I6.wrap ((uG k.2.2.2.2.2.2).getD a 0-(uG k.2.2.2.1).getD a 0))))))
def Nn:vB.M.X->Fr vB.Out:=FG (λx=>(x.1.1,((x.1.2.1,x.1.2.2.1,x.1.2.2.2.1,x.1.2.2.2.2.1,x.1.2.2.2.2.2.1,x.1.2.2.2.2.2.2.1),x.2.1,x.2.2.1,x.2.2.2.1,x.2.2.2.2.1,x.2.2.2.2.2.1,x.2.2.2.2.2.2.1),x.2.2.2.2.2.2.2.1)) (λ_=>6) (λ_=>List.replicate 6 ()) Ea
 (λ(k:uu) d=>((k.1.1,k.1.2.1,k.1.2.2.1,k.1.2.2.2.1,k.1.2.2.2.2.1,k.1.2.2.2.2.2,()),(k.2.1,k.2.2.1,k.2.2.2.1,k.2.2.2.2.1,k.2.2.2.2.2.1,k.2.2.2.2.2.2,d,())))
noncomputable def RG:Code:=((Go.Ab.loopB (au f15 0) 0).getD .skip)
def qs1:ae prog (.loop RG) vB.M vB Nn:=
 cN zR (λi (k:uu) d=>((i,k.1.1,k.1.2.1,k.1.2.2.1,k.1.2.2.2.1,k.1.2.2.2.2.1,k.1.2.2.2.2.2,()),(k.2.1,k.2.2.1,k.2.2.2.1,k.2.2.2.2.1,k.2.2.2.2.2.1,k.2.2.2.2.2.2,d,()))) ()
def zee(Γ:Gm):St->Option Tr:=vB.han Γ vB.M Nn
abbrev rL:Pt:=⟨110,0,⟨FE,NW⟩,⟨[],[.x 4 52 bV,.r 4 4 0,.x 6 52 bV,.r 6 6 0]⟩,⟨[(5,.d i64)],[.x 4 52 bV,.r 4 4 0]⟩⟩
abbrev ur:Type:=Int×List aD.den×Int×bV.den
abbrev kZ:Type:=bV.den×bS.den×Int×aq.den
def Pr(a:aq.den)(f:aD.den):aa [aq,i64]:=Gh.f (a,f,())
def yY(a:aq.den):aa [bS,i64]:=GG.f (a,())
def edO(a:aq.den)(d:Int):aa [i64,i64]:=GD.f (a,d,())
def tM(f:aD.den)(d:bS.den)(m:Int):be.den:=(AO.f (f,d,m,())).1
def Kj(b:bV.den)(x:be.den):aa [bV,i64]:=GL.f (b,x,())
def qbl(x:be.den):Bool:=((fA bR).f (x.2.2.1,λy=>GF.f y,())).1
def CK(e:Int):kZ ⊕ rL.R.X:=.inr ((e,()),bV.dflt,())
def Jn(k:ur)(i:Int)(f:aD.den)(s:kZ)(a:aq.den)(m b:Int):uu:=((i,k.1,k.2.1,k.2.2.1,b,m),k.2.2.2,s.1,s.2.1,a,f,(yY a).1)
def qum(k:uu):Prop:=bM (Ea k True) 0 (List.replicate 6 ()) bS.dflt
def qmf(k:uu):bS.den:=bO (Ea k True) 0 (List.replicate 6 ()) bS.dflt
def Kx(k:ur)(i:Int)(f:aD.den)(s:kZ)(a:aq.den)(m b:Int):Fr (kZ ⊕ rL.R.X):=
 cI (InK 6 0 6) (qum (Jn k i f s a m b)) (qmf (Jn k i f s a m b)) (λd=>
  Jb ((List.length (α:=bR.den) (tM f d m).2.2.1:Int)==0) (Jv (.inl (s.1,(yY a).1,b,a)))
   (Jd (∀ y:aa [bR],fi [bR] y->av ([]:List Prop)) (Jb (qbl (tM f d m)) (Jv (CK 5))
    (Jd (List.length (α:=bR.den) (tM f d m).2.2.1<=1000000) (Jb ((Kj s.1 (tM f d m)).2.1 != 0) (Jv (CK (Kj s.1 (tM f d m)).2.1))
     (Jv (.inl ((Kj s.1 (tM f d m)).1,(yY a).1,b,a))))))))
def DL(k:ur)(b:Prop)(i:Int)(f:aD.den)(s:kZ):Fr (kZ ⊕ rL.R.X):=
 let a:=Pr s.2.2.2 f;let c:=edO a.1 f.2.2.2.2.1;Jd b (Jb (J (f.1>k.2.2.1)) (Jv (.inl s)) (Jd (bD s.2.2.2) (Jb (a.2.1 != 0) (Jv (.inl s))
  (Jd (bD a.1) (Jd (ev (bq a.1)) (Jb ((yY a.1).2.1 != 0) (Jv (CK (yY a.1).2.1))
   (Jb (f.2.1==7)
    (Jd (bD a.1) (Jb (c.2.1 != 0) (Jv (CK c.2.1))
     (Kx k i f s a.1 (I6.wrap (c.1-s.2.2.1)) c.1)))
    (Kx k i f s a.1 0 s.2.2.1))))))))
def Z2:rL.M.X->Fr rL.Out:=FK (λx=>(x.1.1,((x.1.2.1,x.1.2.2.1,x.1.2.2.2.1,x.2.1):ur),((x.2.2.1,x.2.2.2.1,x.1.2.2.2.2.1,x.2.2.2.2.1):kZ))) (λk=>k.1) (λk=>k.2.1) DL (λk s=>((),k.2.2.2,s.1,())) (λ_ y=>Rd.back y) (bV.dflt,bS.dflt,0,aq.dflt) (aW _,bN _)
def qrw:ae prog (.loop (au f15 0)) rL.M rL Z2:=
 lm zR (λi k s=>((i,k.1,k.2.1,k.2.2.1,s.2.2.1,()),(k.2.2.2,s.1,s.2.1,s.2.2.2,()))) aD.dflt (Λ:=λ_=>zee M3.Γ) (hΛ:=λ_=>kP (by kernel_rfl) (b:=RG) (by kernel_rfl) (ae.han zR rfl qs1))
def Je(j:jourT.den)(day:Int):ur:=((List.length (α:=aD.den) j.2.1:Int),j.2.1,day,bV.dflt)
def DA(j:jourT.den):kZ:=(bV.dflt,bS.dflt,0,(Gy.f (j.1,())).1)
def Qg(x:ag [.d jourT,.d i64]):Fr (aa [bV,i64]):=
 iY (InK (List.length (α:=aD.den) x.1.2.1:Int) 0 (List.length (α:=aD.den) x.1.2.1)) (eJ (DL (Je x.1 x.2.1) True) 0 x.1.2.1 (DA x.1)) (da (DL (Je x.1 x.2.1) True) 0 x.1.2.1 (DA x.1)) (bV.dflt,bS.dflt,0,aq.dflt) (aW _,bN _)
  (λs=>Jv (s.1,0,())) (λy=>Jv (y.2.1,y.1.1,()))
def qjc:af prog 15 (bg [.d jourT,.d i64] [bV,i64] Qg):=
 cS zR qrw (fn:=f15)
def LE{e:Unit}(h:(List.replicate 6 ())[i]?= U e):0<=(i:Int)/\(i:Int)<6:=by
 have:=(uak.1 h).1;rw[ubc]at this;omega
def U3(k:ur)(i:Int)(j:Nat)(f:aD.den)(s:kZ)(c:aq.den)(m b:Int)(h:oO c):(Kx k i f s c m b).satP (my ((λ_ (s:kZ)=>oO s.2.2.2) j) (λ_=>True)):=
 fz (A:=λ_=>True) ⟨rfl,by decide,by decide,by decide⟩ ⟨(dk (step:=Ea (Jn k i f s c m b) True) (λ_ _=>True) (List.replicate 6 ()) (λj e s a _=>⟨LE a,LE a,LE a,uT⟩) bS.dflt trivial).1,uT⟩
  (λd _=>⟨λ_=>h,λ_=>⟨λ_ _=>uT,λ_=>uT,λ_=>⟨ueo (qgn _) (by decide),λ_=>uT,λ_=>h⟩⟩⟩)
def qqc(j:jourT.den)(day:Int)(d:bJ j.1):eJ (DL (Je j day) True) 0 j.2.1 (DA j):=
 (nm (step:=DL (Je j day) True) (λ_ (s:kZ)=>oO s.2.2.2) (λ_=>True) j.2.1 (λi f s e b=>by
  refine⟨uT,λ_=>b,λ_=>⟨b.1,λ_=>b,λc=>?_⟩⟩;have c:(jY s.2.2.2 f).2=0:=by
   have h:((jY s.2.2.2 f).2 != 0)=false:=c;simpa using h
  have a:oO (Pr s.2.2.2 f).1:=qht f b c;exact⟨a.1,qhr a,λ_=>uT,λ_=>⟨λ_=>⟨a.1,λ_=>uT,λ_=>U3 _ _ (i+1) _ _ _ _ _ a⟩,λ_=>U3 _ _ (i+1) _ _ _ _ _ a⟩⟩) (DA j) (qhs d)).1
def GE:Ct:=⟨[.d jourT,.d i64],[bV,i64],λx=>(Qg x).get,λx=>[bJ x.1.1]⟩
def qcg:af prog 15 GE:=bW qjc _ (λx b a=>ss (gt b.1.2.1.1) (qqc x.1 x.2.1 a) (λ_=>uT) (λ_=>uT))
noncomputable def zgq:Cx:=cx [(32,tC),(49,GI)] []
def zgr:CxOK prog zgq:=aP aG ⟨O4,qcm,uT⟩ trivial
def zf8(x:ag [.d aq]):Fr (aa [.sl ay,i64]):=
 Jd (bD x.1) (Jd (ev (bq x.1)) (Jb ((gE x.1).2.1 != 0) (Jv ([],(gE x.1).2.1,()))
  (Jd (List.length (α:=aJ.den) (gE x.1).1<=List.length (α:=ar.den) (bq x.1)) (Jd (List.length (α:=aJ.den) (gE x.1).1<=1000000) (Jv (J2 x.1,0,()))))))
def zhg:af prog 33 (bg [.d aq] [.sl ay,i64] zf8):=
 aS zgr f33
def zf3:Ct:=⟨[.d aq],[.sl ay,i64],λx=>(zf8 x).get,λx=>[bD x.1,ev (bq x.1)]⟩
def zg4:af prog 33 zf3:=bW zhg _ (λx _ a=>⟨a.1,a.2,λ_=>uT,λd=>by
 have c:(gE x.1).2.1=0:=by simpa using d
 have b:=qkt x.1 a.1 a.2 c;exact⟨Nat.le_of_eq b,by rw[show List.length (α:=aJ.den) (gE x.1).1=_ from b];exact ueo a.1.2.2.1 (by decide),uT⟩⟩)
abbrev nTm:dm.den:=((0,0,()),(0,0,0,0,()),[],())
abbrev nCh:az.den:=(0,0,0,(0,0,0,0,()),[],0,())
abbrev nCl:dD.den:=(0,0,0,0,0,0,())
abbrev nAc:bn.den:=(0,0,0,())
abbrev nTr:ah.den:=(0,0,(0,0,()),0,0,0,0,0,())
def zey:jourT.den:=(([(1,(10000,0,0,0,()),[],[10000],[10000,10000,10000,10000,10000,10000,10000,10000],0,())],()),
 [(5,1,1,0,0,((1,101,()),(0,36500,0,0,()),[(1,1000,1500,100,10000,())],()),nCh,nCl,nAc,nTr,()),(7,3,1,4000,0,nTm,nCh,nCl,nAc,nTr,()),(9,4,0,0,0,nTm,nCh,(3,1,1,8,9,0,()),nAc,nTr,()),(10,5,3,0,0,nTm,nCh,nCl,(10,1,900,()),nTr,()),
 (11,5,3,0,0,nTm,nCh,nCl,(11,2,700,()),nTr,()),(12,6,0,0,0,nTm,nCh,nCl,nAc,(2,1,(1,101,()),5000,0,0,0,255,()),()),(20,7,0,0,20,nTm,nCh,nCl,nAc,nTr,())],())
def zf1:Ct:=⟨[],[jourT],λ_=>(zey,()),λ_=>[]⟩
def zh0:af prog 31 zf1:=
 conv (aS aH f31 (fr:=λ_=>Jv (zey,())) (ps:=[]) (rs:=[jourT])) _ _ (λ_ _ _ _ _ _=>⟨uT,rfl⟩)
noncomputable def zf5:List (FuncId×Ct):=[(31,zf1),(15,GE),(16,zfq),(23,GG),(32,tC),(33,zf3),(17,GD),(22,GM)]
noncomputable def zgs:Cx:=cx zf5 []
def zgt:CxOK prog zgs:=aP (cs:=zf5) aG ⟨zh0,qcg,zhw,qch,O4,zg4,qce,qcr,uT⟩ trivial
def zfn:aq.den:=(zfq.f (zey,99,())).1
def zhn(_:ag []):Fr (aa [.bool]):=
 let t:=λ(x:Fr (aa [.bool]))=>Jd (bD zfn) (Jd (ev (bq zfn)) x)
 Jd (bJ zey.1) (Jd (bJ zey.1) (t (t (t (Jd (bD zfn) (Jd (bJ zey.1) (Jd (Z=Z->(0:Int)<=0/\(0:Int)<1) (Jd (Z=Z->(0:Int)<=0/\(0:Int)<1) (Jv (Z,()))))))))))
def zg2:af prog 13 (bg [] [.bool] zhn):=
 aS zgt f13
end Go.Proofs.YtdokapnnagbehaaGreat
