/-
  Parts of the proof, one behind the other.
-/
import Derived.Test.YtdokapnnagbehaaGreatMe
set_option linter.all false
set_option maxRecDepth 100000
set_option maxHeartbeats 4000000
noncomputable section
open Option renaming some->U,none->V
open Bool renaming true->Z,false->Y
open Decidable renaming decide->J
open List renaming replicate->Lrp
open BitVec renaming ofInt->Bvo
open Go Go.RowKit
variable {T α σ ρ β:Type} {P:Program} {ad:Addr} {arr cs cur:Array Value} {f:FuncId} {p x a y r day:Int} {k:IntKind} {l:List Int} {xs vs news:List Value} {off i n b c d B m len:Nat} {F F' K:Nat->Prop} {R g R':Nat->Value->Prop} {o:Oper} {e ety t ty el:TypeId} {v u vx:Value} {w w' W' W:World}
namespace Go.Proofs.YtdokapnnagbehaaGreat
open Go Go.Ab Go.RowKit Go.Proofs Tryz
open Go.Ab.Fr renaming val->Jv,need->Jd,br->Jb
abbrev Hm:Pt:=⟨123,0,⟨[(27,.d i64),(26,.d i64),(25,.d (.sl aq)),(1,.d (.sl aq))],[.x 2 142 ar,.r 2 2 0,.o 7 272 aA]⟩,⟨[(1,.d (.sl aq))],[.x 2 142 ar,.r 2 2 0,.o 7 272 aA]⟩,⟨[],[]⟩⟩
def If(k:Int×(List aq.q)×(List aq.q)×ar.q)(b:Prop)(i:Int)(e:aq.q)(s:(List aA.q)):Fr ((List aA.q)):=
 let d:=List.length e.2.1;let c:=List.drop (Int.toNat 0) e.2.1;let a:=zI ((d:Int),e.2.1,i,i,k.1,k.2.1,k.2.2.1,k.2.2.2) True;Jd b (Jd (InK ((d:Int)) 0 d) (Jd (bY a 0 c s) (Jv (bw a 0 c s))))
def qjp:Hm.M.X->Fr Hm.Out:=FG (λx=>(x.1.1,(x.1.2.1,x.1.2.2.1,x.1.2.2.2.1,x.2.1),x.2.2.1)) (λk=>k.1) (λk=>k.2.1) If (λk s=>((k.2.2.1,()),(k.2.2.2,s,())))
def ze9:af prog (.loop (au f82 0)) Hm.M Hm qjp:=
 cX Ai (λi k s=>((i,k.1,k.2.1,k.2.2.1,()),k.2.2.2,s,())) aq.j (Λ:=(λ_=>zs2 QN.Γ)) (hΛ:=λ_=>nc (by kernel_rfl) (b:=WM) (by kernel_rfl) (af.han Ai rfl ze8))
def xN:=λk s=>bw (If k True) 0 k.2.1 s
def YI:=λk s=>bY (If k True) 0 k.2.1 s
def Jr:(aZ aA).q:=(λx=>tA.f x,λx=>az (tA.ok x))
def ki(s:List aA.q):List aA.q:=dp (aR Jr) s
def lH(n:Nat):List Int:=Lrp (Int.toNat (n:Int)) 0
def xB(x:ap [.d ar,.d (.sl aq)]):Fr (aa [.sl db,i64]):=
 Jd (dC x.2.1) (Jb ((px.f x).1 != 0) (Jv ([],(px.f x).1,()))
  (cT (InK ((List.length x.2.1):Int) 0 (List.length x.2.1)) (YI (((List.length x.2.1):Int),x.2.1,x.2.1,x.1) []) (xN (((List.length x.2.1):Int),x.2.1,x.2.1,x.1) []) (λa=>
   Jd ((a.length:Int)<=4611686018427387903) (Jd (jD Jr a) (Jd (yk (List.length x.2.1) 8) (Jd (yk (List.length x.2.1) 8)
    (cT (InK ((ki a).length:Int) 0 (ki a).length) (YJ (((ki a).length:Int),x.1,ki a) (0,lH (List.length x.2.1),lH (List.length x.2.1),[])) (MW (((ki a).length:Int),x.1,ki a) (0,lH (List.length x.2.1),lH (List.length x.2.1),[])) (λr=>Jv (r.2.2.2,0,())))))))))
def qtd:ag prog 82 (bg [.d ar,.d (.sl aq)] [.sl db,i64] xB):=
 oc Ai ze9 zfa (fn:=f82)
def nx(n:Nat)(s:List aA.q):Prop:=∀ x∈s,0<=x.1/\x.1<(n:Int)
def zi1(k:Int×(List ba.q)×Int×Int×Int×(List aq.q)×(List aq.q)×ar.q)(n:Nat)(d:0<=k.2.2.1/\k.2.2.1<(n:Int))(s:List aA.q)(g:nx n s)(i:s.length+k.2.1.length<=4000):
  bY (zI k True) 0 k.2.1 s/\(bw (zI k True) 0 k.2.1 s).length=s.length+k.2.1.length/\nx n (bw (zI k True) 0 k.2.1 s):=
 dK (step:=zI k True) (λj (r:List aA.q)=>r.length=s.length+j/\nx n r) k.2.1 (λj e r c b=>by
  have l:=eO c;have m:=fI;have f:=b.1;refine⟨uT,?_,?_,λx a=>?_⟩;show r.length+1<=maxLen/\(r.length+1)*32<=140737488355328;omega;rw[ub6];show r.length+1=_;omega;rcases udt.1 a with h|h
  exact b.2 x h;rw[ucf.1 h];exact d) s ⟨rfl,g⟩
def zo1{l:List aq.q}(i:Nat):fu (l.take i)<=fu l:=by
 have:fu l=fu (l.take i)+fu (l.drop i):=by
  conv=>lhs;rw[<- uba i l]
  unfold fu;rw[udx,List.sum_append]
 omega
def Zi(c:ar.q)(l:List aq.q)(t:l.length<=2000)(u:fu l<=2000):
  YI ((l.length:Int),l,l,c) []/\(xN ((l.length:Int),l,l,c) []).length=fu l/\nx l.length (xN ((l.length:Int),l,l,c) []):=by
 have a:=dK (step:=If ((l.length:Int),l,l,c) True) (λi (s:List aA.q)=>s.length=fu (l.take i)/\nx l.length s) l (λi e s b d=>by
  have m:=eO b;have f:=qby b;have r:=zo1 (l:=l) (i+1);have g:=d.1;have k:s.length+List.length (α:=ba.q) e.2.1<=4000:=by omega
  obtain⟨n,o,p⟩:=zi1 ((List.length (α:=ba.q) e.2.1:Int),e.2.1,(i:Int),(i:Int),(l.length:Int),l,l,c) l.length ⟨ub4 _,Int.ofNat_lt.2 m⟩ s d.2 k;refine⟨uT,eU (show List.length (α:=ba.q) e.2.1<=1000000000 by omega),n,o.trans ?_,p⟩;rw[f,g]) [] ⟨rfl,λ_ h=>(nomatch h)⟩
 rw[List.take_length]at a;exact a
def toNat_lt(h:0<=a/\a<(n:Int)):Int.toNat a<n:=by omega
structure PdI (n i:Nat) (s:Int×(List Int)×(List Int)×(List db.q)):Prop where
 a:s.2.1.length=n
 b:s.2.2.1.length=n
 len:s.2.2.2.length<=i
 at_:∀ x∈s.2.2.2,0<=x.1/\x.1<(n:Int)
def zi3(k:Int×ar.q×(List aA.q))(n:Nat)(z:nx n k.2.2)(B:k.2.2.length<=4000)(s:Int×(List Int)×(List Int)×(List db.q))(w:PdI n 0 s):
  YJ k s/\PdI n k.2.2.length (MW k s):=
 dK (step:=Dr k True) (PdI n) k.2.2 (λi e s p h=>by
  have y:=eO p;have C:=fI;have c:=z e (ubg p);have m:Int.toNat e.1<n:=toNat_lt c;have u:0<=e.1/\e.1<(s.2.1.length:Int):=by rw[h.a];exact c
  have f:0<=e.1/\e.1<(s.2.2.1.length:Int):=by rw[h.b];exact c
  have t:Int.toNat e.1<s.2.1.length:=by rw[h.a];exact m
  have d:Int.toNat e.1<s.2.2.1.length:=by rw[h.b];exact m
  have g:∀ v,(s.2.1.set (Int.toNat e.1) v).length=n:=λv=>by rw[udp];exact h.a
  have A:∀ v,(s.2.2.1.set (Int.toNat e.1) v).length=n:=λv=>by rw[udp];exact h.b
  have r:=h.len;refine⟨uT,(ou y rfl).2,λ_=>⟨h.a,h.b,uc4 h.len,h.at_⟩,λ_=>⟨u,t,u,t,by rw[g];exact c,by rw[g];exact m,f,d,f,d,λ_=>⟨g _,h.b,uc4 h.len,h.at_⟩,λ_=>⟨f,d,f,d,?_,?_⟩⟩⟩;show s.2.2.2.length+1<=maxLen/\(s.2.2.2.length+1)*24<=140737488355328;omega;refine⟨g _,A _,?_,λx o=>?_⟩;show(_++[_]).length<=i+1;rw[ub6];exact udk h.len;rcases udt.1 o with l|l
  exact h.at_ x l;rw[ucf.1 l];exact c) s w
def Xq(b:n<=1000000)(h:0<=a/\a<(n:Int)):0<=a/\a<18446744073709551616:=by omega
def zic(a:n<=1000000){s:List aA.q}(h:nx n s):jD Jr s:=by refine⟨λ_ _ _ _=>uT,Cc,λx d y e=>?_⟩;have b:=h x d;have c:=h y e;show J ((tA.f (x,y,())).1<0)=J (Cc x<Cc y);exact udi.2 (qkt (Xq a b) (Xq a c))
def Qh(n:Nat):(lH n).length=n:=by unfold lH;rw[ubc,uc0]
def RN(l:List aq.q)(y:aa [.sl db,i64]):Prop:=List.length (α:=db.q) y.1<=4000/\(∀ x:db.q,x∈(y.1:List db.q)->0<=x.1/\x.1<(l.length:Int))/\(y.2.1=0->l.length<=2000)
def Zm(c:ar.q)(l:List aq.q)(h:dC l):(xB (c,l,())).s7 (RN l):=by
 unfold xB;refine⟨h,λi=>⟨ufj _,λ_ h=>(nomatch h),λp=>?_⟩,λi=>?_⟩;have a:((px.f (c,l,())).1 != 0)=true:=i;have e:(px.f (c,l,())).1=0:=p;rw[e]at a;cases a;have a:(px.f (c,l,())).1=0:=by simpa using i
 obtain⟨b,t⟩:=Tk c l h a;have g:l.length<=1000000:=ueq b (by decide);refine ii (A:=λ(s:List aA.q)=>s.length=fu l/\nx l.length s) (eU (ueq b (by decide))) (Zi c l b t) (λs d=>?_);have m:(ki s).length<=4000:=by unfold ki;rw[oS,d.1];omega
 have k:nx l.length (ki s):=λx u=>d.2 x (zw.1 u);have n:=d.1;refine⟨by omega,zic g d.2,Ch g (by decide),Ch g (by decide),ii (A:=PdI l.length (ki s).length) (eU (ueq m (by decide))) (zi3 (((ki s).length:Int),c,ki s) l.length k m _ ⟨Qh _,Qh _,ufd _,λ_ h=>(nomatch h)⟩) (λr o=>⟨ueq o.len m,o.at_,λ_=>b⟩)⟩
def dO:Ct:=⟨[.d ar,.d (.sl aq)],[.sl db,i64],λx=>(xB x).get,λx=>[dC x.2.1]⟩
def qmo:ag prog 82 dO:=cq qtd _ (λx _ a=>(dt (Zm x.1 x.2.1 a)).1)
def Zl(c:ar.q)(l:List aq.q)(h:dC l):RN l (dO.f (c,l,())):=(dt (Zm c l h)).2
def qh0:Cx:=cx [(82,dO),(84,A9),(83,EH)] []
def DO:CxOK prog qh0:=aQ aH ⟨qmo,Zt,qmt,uT⟩ trivial
abbrev Hb:Pt:=⟨92,0,⟨[(28,.d i64),(27,.d i64),(26,.d (.sl aq)),(6,.d (.sl db))],[.x 2 142 ar,.r 2 2 0,.o 8 99 aC]⟩,⟨[(6,.d (.sl db))],[.x 2 142 ar,.r 2 2 0,.o 8 99 aC]⟩,⟨[],[]⟩⟩
def Di(k:Int×(List aq.q)×(List db.q)×ar.q)(b:Prop)(i:Int)(e:aq.q)(s:(List aC.q)):Fr ((List aC.q)):=
 let a:=EH.f (e,());Jd b (Jd (s.length + [a.1].length<=maxLen/\(s.length + [a.1].length)*48<=140737488355328) (Jv (s++[a.1])))
def qi7:Hb.M.X->Fr Hb.Out:=FG (λx=>(x.1.1,(x.1.2.1,x.1.2.2.1,x.1.2.2.2.1,x.2.1),x.2.2.1)) (λk=>k.1) (λk=>k.2.1) Di (λk s=>((k.2.2.1,()),(k.2.2.2,s,())))
def zd3:af prog (.loop (au f55 0)) Hb.M Hb qi7:=
 cX DO (λi k s=>((i,k.1,k.2.1,k.2.2.1,()),k.2.2.2,s,())) aq.j
def rA:=λk s=>bw (Di k True) 0 k.2.1 s
def Y5:=λk s=>bY (Di k True) 0 k.2.1 s
abbrev Hc:Pt:=⟨92,2,⟨[(40,.d i64),(39,.d i64),(38,.d (.sl db)),(11,.d i64)],[.x 2 142 ar,.r 2 2 0,.o 8 99 aC]⟩,⟨[(11,.d i64)],[.x 2 142 ar,.r 2 2 0,.o 8 99 aC]⟩,⟨[],[]⟩⟩
def Dj(k:Int×(List db.q)×ar.q)(b:Prop)(i:Int)(e:db.q)(s:Int×(List aC.q)):Fr (Int×(List aC.q)):=
 let l:=Int.toNat 2;let h:=(s.2.length:Int);let g:=e.2.2.1;let d:=Int.toNat 0;let a:=[e.1,e.2.1,g].getD d 0;let c:=s.2.getD a.toNat aC.j;Jd b (Jd ((0:Int)<=0/\0<(3:Int)) (Jd (0<=[e.1,e.2.1,g].getD d 0/\[e.1,e.2.1,g].getD d 0<h) (Jd (a.toNat<s.2.length) (Jd ((0:Int)<=2/\2<(3:Int)) (Jd (0<=[e.1,e.2.1,g].getD d 0/\[e.1,e.2.1,g].getD d 0<h) (Jd (a.toNat<s.2.length) (Jd ((0:Int)<=2/\2<(3:Int)) (Jv (I6.wrap (s.1 + [e.1,e.2.1,g].getD l 0),s.2.set a.toNat (c.1,c.2.1,I6.wrap (c.2.2.1 + [e.1,e.2.1,g].getD l 0),c.2.2.2))))))))))
def qi8:Hc.M.X->Fr Hc.Out:=FG (λx=>(x.1.1,(x.1.2.1,x.1.2.2.1,x.2.1),(x.1.2.2.2.1,x.2.2.1))) (λk=>k.1) (λk=>k.2.1) Dj (λk s=>((s.1,()),(k.2.2,s.2,())))
def zd4:af prog (.loop (au f55 1)) Hc.M Hc qi8:=
 cX DO (λi k s=>((i,k.1,k.2.1,s.1,()),k.2.2,s.2,())) db.j
def uf:=λk s=>bw (Dj k True) 0 k.2.1 s
def Y6:=λk s=>bY (Dj k True) 0 k.2.1 s
abbrev Hd:Pt:=⟨92,4,⟨[(62,.d i64),(61,.d i64),(11,.d i64)],[.al 60 8,.x 2 142 ar,.r 2 2 0,.o 8 99 aC]⟩,⟨[],[.o 8 99 aC]⟩,⟨[],[]⟩⟩
def Wu(c:ar.q)(p:aC.q)(a:Int):Int:=
 if 0<I6.wrap (yB c p.1 (I6.wrap (a-p.2.2.1))-p.2.2.1)then I6.wrap (yB c p.1 (I6.wrap (a-p.2.2.1))-p.2.2.1)else 0
def ny(k:Int×ar.q)(_b:Prop)(i:Int)(_e:Unit)(s:Int×List aC.q):Fr (Int×List aC.q):=
 let b:=(s.2.length:Int);let a:=s.2.getD i.toNat aC.j;Jd (0<=i/\i<b) (Jd (i.toNat<s.2.length) (Jb (!a.2.2.2.2.2.1) (Jv s)
  (Jd (0<=i/\i<b) (Jd (i.toNat<s.2.length) (Jv (I6.wrap (s.1+Wu k.2 a s.1),
   s.2.set i.toNat (a.1,a.2.1,a.2.2.1,a.2.2.2.1,Wu k.2 a s.1,a.2.2.2.2.2.1,())))))))
def qi9:Hd.M.X->Fr Hd.Out:=FG (λx=>(x.1.1,(x.1.2.1,x.2.1),(x.1.2.2.1,x.2.2.1))) (λk=>k.1) (λk=>Lrp k.1.toNat ()) ny (λ_ s=>((),s.2,()))
def zd5:af prog (.loop (au f55 2)) Hd.M Hd qi9:=
 cX DO (λi k s=>((i,k.1,s.1,()),k.2,s.2,())) ()
def xA(x:ap [.d ar,.d (.sl aq)]):Fr (aa [.sl aC,i64]):=
 Jd (dC x.2.1) (Jb ((dO.f x).2.1 != 0) (Jv ([],(dO.f x).2.1,()))
  (cT (InK ((List.length x.2.1):Int) 0 (List.length x.2.1)) (Y5 (((List.length x.2.1):Int),x.2.1,(dO.f x).1,x.1) []) (rA (((List.length x.2.1):Int),x.2.1,(dO.f x).1,x.1) []) (λb=>cT (InK ((List.length (dO.f x).1):Int) 0 (List.length (dO.f x).1)) (Y6 ((List.length (dO.f x).1:Int),(dO.f x).1,x.1) (0,b)) (uf ((List.length (dO.f x).1:Int),(dO.f x).1,x.1) (0,b)) (λa=>cT (InK (a.2.length:Int) 0 (Lrp (Int.toNat (a.2.length:Int)) ()).length) (bY (ny ((a.2.length:Int),x.1) True) 0 (Lrp (Int.toNat (a.2.length:Int)) ()) a) (bw (ny ((a.2.length:Int),x.1) True) 0 (Lrp (Int.toNat (a.2.length:Int)) ()) a) (λc=>Jv (c.2,0,()))))))
def qtc:ag prog 55 (bg [.d ar,.d (.sl aq)] [.sl aC,i64] xA):=
 Vi DO zd3 zd4 zd5 (fn:=f55)
def qk8(c:ar.q)(l:List aq.q)(r:List db.q)(f:l.length<=2000):Y5 ((l.length:Int),l,r,c) []/\(rA ((l.length:Int),l,r,c) []).length=l.length:=
 dK (step:=Di ((l.length:Int),l,r,c) True) (λi (s:List aC.q)=>s.length=i) l (λi e s a b=>by have d:=eO a;have g:=fI;refine⟨uT,?_,?_⟩;show s.length+1<=maxLen/\(s.length+1)*48<=140737488355328;omega;show(s++[_]).length=i+1;rw[ub6,b];rfl) [] rfl
def qla(c:ar.q)(r:List db.q)(n:Nat)(k:∀ x:db.q,x∈r->0<=x.1/\x.1<(n:Int))(s:Int×List aC.q)(b:s.2.length=n):Y6 ((r.length:Int),r,c) s/\(uf ((r.length:Int),r,c) s).2.length=n:=
 dK (step:=Dj ((r.length:Int),r,c) True) (λ_ (s:Int×List aC.q)=>s.2.length=n) r (λi e s g b=>by
  have a:=k e (ubg g);have h:=toNat_lt a;have d:0<=e.1/\e.1<(s.2.length:Int):=by rw[b];exact a
  have f:Int.toNat e.1<s.2.length:=by rw[b];exact h
  refine⟨uT,by decide,d,f,by decide,d,f,by decide,?_⟩;show(List.set _ _ _).length=n;rw[udp];exact b) s b
def qlc(c:ar.q)(n:Nat)(s:Int×List aC.q)(a:s.2.length=n):bY (ny ((n:Int),c) True) 0 (Lrp (Int.toNat (n:Int)) ()) s/\(bw (ny ((n:Int),c) True) 0 (Lrp (Int.toNat (n:Int)) ()) s).2.length=n:=
 dK (step:=ny ((n:Int),c) True) (λ_ (s:Int×List aC.q)=>s.2.length=n) (Lrp (Int.toNat (n:Int)) ()) (λi e s g a=>by have f:=eO g;rw[ubc,uc0]at f;obtain⟨b,d⟩:=ou f a;refine⟨b,d,λ_=>a,λ_=>⟨b,d,?_⟩⟩;show(List.set _ _ _).length=n;rw[udp];exact a) s a
def Se(c:ar.q)(l:List aq.q)(h:dC l):(xA (c,l,())).s7 (λy=>y.2.1=0->List.length (α:=aC.q) y.1=l.length):=by
 unfold xA;obtain⟨o,p,r⟩:=Zl c l h;refine⟨h,λe b=>?_,λe=>?_⟩;have a:((dO.f (c,l,())).2.1 != 0)=true:=e;have d:(dO.f (c,l,())).2.1=0:=b;rw[d]at a;cases a;have a:(dO.f (c,l,())).2.1=0:=by simpa using e
 have g:=r a;have n:List.length (dO.f (c,l,())).1<=1000000000:=ueq o (by decide);refine ii (A:=λ(s:List aC.q)=>s.length=l.length) (eU (ueq g (by decide))) (qk8 c l _ g) (λt b=>?_);refine ii (A:=λ(s:Int×List aC.q)=>s.2.length=l.length) (eU n) (qla c _ l.length p (0,t) b) (λi k=>?_);refine ii (A:=λ(s:Int×List aC.q)=>s.2.length=i.2.length) ?_ (qlc c i.2.length i rfl) (λu m _=>m.trans k);rw[ubc,uc0];refine eU ?_;rw[k];exact ueq g (by decide)
def t9:Ct:=⟨[.d ar,.d (.sl aq)],[.sl aC,i64],λx=>(xA x).get,λx=>[dC x.2.1]⟩
def qmn:ag prog 55 t9:=cq qtc _ (λx _ a=>(dt (Se x.1 x.2.1 a)).1)
def qkr(c:ar.q)(l:List aq.q)(h:dC l)(a:(t9.f (c,l,())).2.1=0):List.length (α:=aC.q) (t9.f (c,l,())).1=l.length:=(dt (Se c l h)).2 a
def LU(x:ap [.d bj,.ptr aq,.ptr ar]):Fr (aa [.bool]):=
 let b:=x.2.2.1;let a:=x.1.2.1;Jv (bif x.1.1==x.2.1.1.2.1 then a.1==b.1&&(a.2.1==b.2.1&&(a.2.2.1==b.2.2.1&&(a.2.2.2.1==b.2.2.2.1&&(a.2.2.2.2.1==b.2.2.2.2.1&&Z))))else Y,())
def quv:ag prog 81 ⟨[.d bj,.ptr aq,.ptr ar],[.bool],λxs=>(LU xs).get,λxs=>[(LU xs).ok]⟩:=
 cF aL (Λ:=bK) (fn:=f81) (aY [.d bj,.ptr aq,.ptr ar]) (by kernel_rfl) (λc E _=>bm c 0) (λx=>by kernel_rfl)
def ET:Ct:=⟨[.d bj,.ptr aq,.ptr ar],[.bool],λx=>(LU x).get,λ_=>[]⟩
def qm8:ag prog 81 ET:=cq quv _ (λx a _=>uT)
def KV:List (FuncId×Ct):=[(78,wI),(79,Ex),(81,ET),(80,ge bj)]
def qpy:kj prog KV:=⟨RV,Tz,qm8,qzm,uT⟩
def qai:List (FuncId×Row):=[(1000000000000+147,.rw 6 3)]
def QO:Cx:=nV KV [] qai (λ_ _ _ _=>V)
def IX:CxOK prog QO:=pE (cs:=KV) (ps:=[]) (rs:=qai) aH qpy trivial ⟨uT,uT⟩ (λ_ _ _ _ _ h=>(nomatch h))
abbrev oD:Pt:=⟨70,0,⟨[(15,.d i64),(14,.d i64),(13,.d (.sl aq))],[.x 1 59 ak,.r 1 1 0,.o 4 (fJ 147 6 3) bj]⟩,⟨[],[.o 4 (fJ 147 6 3) bj]⟩,⟨[(2,.d (.sl bj)),(3,.d i64)],[]⟩⟩
def gT(st:ak.q)(f:aq.q):aa [ar,i64]:=Ex.f ((wI.f (st,f.1.2.1,())).1.1,st.1,f.1,())
def xU(a:ak.q)(f:aq.q)(s:List bj.q):Int:=((ge bj).f (s,λx=>ET.f (x.1,f,(gT a f).1,()),())).1
def Ym(a:ak.q)(f:aq.q):bj.q:=(f.1.2.1,(gT a f).1,[],())
def ZA(s:List bj.q)(j i:Int):List bj.q:=s.set j.toNat ((s.getD j.toNat bj.j).1,(s.getD j.toNat bj.j).2.1,(s.getD j.toNat bj.j).2.2.1++[i],())
def Ir(s:List bj.q)(j i:Int):Fr (List bj.q ⊕ ρ):=
 Jd (0<=j/\j<(s.length:Int)) (Jd (j.toNat<s.length) (Jd (List.length (α:=Int) (s.getD j.toNat bj.j).2.2.1+1<=maxLen/\(List.length (α:=Int) (s.getD j.toNat bj.j).2.2.1+1)*8<=140737488355328)
  (Jd (0<=j/\j<(s.length:Int)) (Jd (j.toNat<s.length/\j.toNat=j.toNat) (Jv (.inl (ZA s j i)))))))
def qt(k:Int×(List aq.q)×ak.q)(b:Prop)(i:Int)(e:aq.q)(s:List bj.q):Fr ((List bj.q) ⊕ oD.R.X):=
 let a:=gT k.2.2 e;Jd b (Jd (cj (wI.f (k.2.2,e.1.2.1,())).1.1) (Jd (bf k.2.2.1) (Jb (a.2.1 != 0) (Jv (.inr (([],a.2.1,()),())))
  (Jd (∀ (x:aa [bj]),gN [bj] x->az (ET.ok (x.1,e,a.1,()))) (Jb (J (xU k.2.2 e s<0))
   (Jd (s.length+1<=maxLen/\(s.length+1)*72<=140737488355328) (Ir (s++[Ym k.2.2 e]) (s.length:Int) i)) (Ir s (xU k.2.2 e s) i))))))
def Ry:oD.M.X->Fr oD.Out:=FK (λx=>(x.1.1,(x.1.2.1,x.1.2.2.1,x.2.1),x.2.2.1)) (λk=>k.1) (λk=>k.2.1) qt (λk s=>((),s,())) (λ_ y=>Rd.back y) ([]) (aY _,cf _)
def zep:af prog (.loop (au f54 0)) oD.M oD Ry:=
 lG IX (λi k s=>((i,k.1,k.2.1,()),k.2.2,s,())) aq.j
def VR:=λk s=>bC (qt k True) 0 k.2.1 s
def YE:=λk s=>eI (qt k True) 0 k.2.1 s
def zsx(a:Gm):St->Option Tr:=oD.han a oD.M Ry
def xD(x:ap [.d ak]):Fr (aa [.sl bj,i64]):=
 iS (InK (((List.length x.1.2.2.1):Int)) 0 (List.length x.1.2.2.1)) (YE (((List.length x.1.2.2.1):Int),x.1.2.2.1,x.1) []) (VR (((List.length x.1.2.2.1):Int),x.1.2.2.1,x.1) []) ([]) (aY _,cf _) (λa=>Jv (a,0,())) (λb=>Jv b.1)
def quw:ag prog 54 ⟨[.d ak],[.sl bj,i64],λxs=>(xD xs).get,λxs=>[(xD xs).ok]⟩:=
 cF IX (Λ:=(λ_=>zsx QO.Γ)) (fn:=f54) (aY [.d ak]) (by kernel_rfl) (λc E a=>fH a (by kernel_rfl) (b:=au f54 0) (by kernel_rfl) (af.han IX rfl zep)) (λx=>by kernel_rfl)
structure GrI (n i:Nat) (s:List bj.q):Prop where
 len:s.length<=i
 at_:∀ g:bj.q,g∈s->List.length (α:=Int) g.2.2.1<=i/\∀ k:Int,k∈(g.2.2.1:List Int)->0<=k/\k<(n:Int)
def GrI.up{s:List bj.q}(h:GrI n i s):GrI n (i+1) s:=⟨uc4 h.len,λg a=>⟨uc4 (h.at_ g a).1,(h.at_ g a).2⟩⟩
def qcw{B:ρ->Prop}{s:List bj.q}{j:Int}(u:i<n)(v:n<=1000000)(t:s.length<=m)(d:0<=j/\j<(s.length:Int))(e:∀ g:bj.q,g∈s->List.length (α:=Int) g.2.2.1<=i/\∀ k:Int,k∈(g.2.2.1:List Int)->0<=k/\k<(n:Int)):
  (Ir (ρ:=ρ) s j i).s7 (iV (λr=>r.length<=m/\∀ g:bj.q,g∈r->List.length (α:=Int) g.2.2.1<=i+1/\∀ k:Int,k∈(g.2.2.1:List Int)->0<=k/\k<(n:Int)) B):=by
 have a:=toNat_lt d;have o:s.getD j.toNat bj.j∈s:=by rw[uah,uaq a];exact udj _
 have f:=e _ o;have l:=f.1;have w:=fI;refine⟨d,a,⟨by omega,by omega⟩,d,⟨a,rfl⟩,?_,λg c=>?_⟩;show(List.set _ _ _).length<=m;rw[udp];exact t;rcases uap c with h|h
 exact⟨uc4 (e g h).1,(e g h).2⟩;rw[h];refine⟨?_,λk p=>?_⟩;show((s.getD j.toNat bj.j).2.2.1++[(i:Int)]).length<=i+1;rw[ub6];exact udk l;rcases udt.1 p with b|b
 exact f.2 k b;rw[ucf.1 b];omega
def qy1(a:ak.q)(c:bi a):YE ((List.length (α:=aq.q) (aJ a):Int),aJ a,a) []/\iV (GrI (List.length (α:=aq.q) (aJ a)) (List.length (α:=aq.q) (aJ a))) (λy=>y.1.1=[]) (VR ((List.length (α:=aq.q) (aJ a):Int),aJ a,a) []):=
 o5 (step:=qt ((List.length (α:=aq.q) (aJ a):Int),aJ a,a) True) (GrI (List.length (α:=aq.q) (aJ a))) (λ(y:oD.R.X)=>y.1.1=[]) (aJ a) (λi e s o d=>by
  have k:=eO o;have t:List.length (α:=aq.q) (aJ a)<=100000:=c.2.2.1;have u:=fI;have l:=d.len;refine⟨uT,RU c _,c.1,λ_=>rfl,λ_=>⟨λ_ _=>uT,λ_=>⟨⟨by omega,by omega⟩,?_⟩,λh=>?_⟩⟩;refine Fr.satP_mono (λr b=>?_) (qcw (ρ:=oD.R.X) (B:=λy=>y.1.1=[]) (m:=i+1) (s:=s++[Ym a e]) (j:=(s.length:Int)) k (by omega) ?_ ?_ (λg p=>?_));cases r with
  |inl r=>exact⟨b.1,b.2⟩
  |inr y=>exact b
  rw[ub6];exact udk l;rw[ub6];show 0<=(s.length:Int)/\(s.length:Int)<((s.length+1:Nat):Int);omega;rcases udt.1 p with h|h
  exact d.at_ g h;rw[ucf.1 h];exact⟨ufj _,λ_ h=>(nomatch h)⟩;have f:0<=xU a e s:=by have:=uch h;exact ufp.1 this
  have n:=(pY f).1;refine Fr.satP_mono (λr b=>?_) (qcw (ρ:=oD.R.X) (B:=λy=>y.1.1=[]) (m:=i+1) k (by omega) (uc4 l) ⟨f,n⟩ d.at_);cases r with
  |inl r=>exact⟨b.1,b.2⟩
  |inr y=>exact b) [] ⟨ufj _,λ_ h=>(nomatch h)⟩
def RE(n:Nat)(y:aa [.sl bj,i64]):Prop:=List.length (α:=bj.q) y.1<=n/\∀ g:bj.q,g∈(y.1:List bj.q)->List.length (α:=Int) g.2.2.1<=n/\∀ k:Int,k∈(g.2.2.1:List Int)->0<=k/\k<(n:Int)
def Wm(a:ak.q)(d:bi a):(xD (a,())).s7 (RE (List.length (α:=aq.q) (aJ a))):=by have f:List.length (α:=aq.q) (aJ a)<=100000:=d.2.2.1;refine I8 (eU (ueq f (by decide))) (qy1 a d) (λs e=>⟨e.len,e.at_⟩) (λy c=>?_);have c:y.1.1=[]:=c;refine⟨?_,λg b=>?_⟩;show List.length y.1.1<=_;rw[c];exact ufj _;have b:g∈y.1.1:=b;rw[c]at b;cases b
def ES:Ct:=⟨[.d ak],[.sl bj,i64],λx=>(xD x).get,λx=>[bi x.1]⟩
def qm9:ag prog 54 ES:=cq quw _ (λx _ a=>(dt (Wm x.1 a)).1)
def Wl(st:ak.q)(a:bi st):RE (List.length (α:=aq.q) (aJ st)) (ES.f (st,())):=(dt (Wm st a)).2
def IY:Cx:=cx [(54,ES),(55,t9)] []
def wc:CxOK prog IY:=aQ aH ⟨qm9,qmn,uT⟩ trivial
abbrev yP:Pt:=⟨78,2,⟨[(37,.d i64),(36,.d i64),(35,.d aP),(30,.d i64),(29,.d i64),(28,.d (.sl bj))],[.x 1 59 ak,.r 1 1 0,.x 8 147 bj,.r 8 8 0,.o 6 99 aC,.o 9 150 aq]⟩,⟨[(30,.d i64),(29,.d i64),(28,.d (.sl bj))],[.x 1 59 ak,.r 1 1 0,.x 8 147 bj,.r 8 8 0,.o 6 99 aC,.o 9 150 aq]⟩,⟨[],[]⟩⟩
def Dk(k:Int×(List Int)×Int×Int×(List bj.q)×ak.q×bj.q×(List aC.q))(b:Prop)(i:Int)(e:i64.q)(s:(List aq.q)):Fr ((List aq.q)):=
 let a:=List.getD k.2.2.2.2.2.1.2.2.1 (Int.toNat e) aq.j;Jd b (Jd (0<=e/\e<((List.length k.2.2.2.2.2.1.2.2.1):Int)) (Jd (s.length + [a].length<=maxLen/\(s.length + [a].length)*72<=140737488355328) (Jv (s++[a]))))
def WI:Code:=((Go.Ab.loopB (au f32 0) 0).getD .skip)
def Rw:yP.M.X->Fr yP.Out:=FG (λx=>(x.1.1,(x.1.2.1,x.1.2.2.1,x.1.2.2.2.1,x.1.2.2.2.2.1,x.1.2.2.2.2.2.1,x.2.1,x.2.2.1,x.2.2.2.1),x.2.2.2.2.1)) (λk=>k.1) (λk=>k.2.1) Dk (λk s=>((k.2.2.1,k.2.2.2.1,k.2.2.2.2.1,()),(k.2.2.2.2.2.1,k.2.2.2.2.2.2.1,k.2.2.2.2.2.2.2,s,())))
def zel:af prog (.loop WI) yP.M yP Rw:=
 cX wc (λi k s=>((i,k.1,k.2.1,k.2.2.1,k.2.2.2.1,k.2.2.2.2.1,()),k.2.2.2.2.2.1,k.2.2.2.2.2.2.1,k.2.2.2.2.2.2.2,s,())) i64.j
def ug:=λk s=>bw (Dk k True) 0 k.2.1 s
def YC:=λk s=>bY (Dk k True) 0 k.2.1 s
def zsv(a:Gm):St->Option Tr:=yP.han a yP.M Rw
abbrev yQ:Pt:=⟨78,4,⟨[(63,.d i64),(62,.d i64),(61,.d aP),(12,.d (.sl aC)),(30,.d i64),(29,.d i64),(28,.d (.sl bj))],[.x 1 59 ak,.r 1 1 0,.o 6 99 aC]⟩,⟨[(30,.d i64),(29,.d i64),(28,.d (.sl bj))],[.x 1 59 ak,.r 1 1 0,.o 6 99 aC]⟩,⟨[],[]⟩⟩
def Dl(k:Int×(List Int)×(List aC.q)×Int×Int×(List bj.q)×ak.q)(b:Prop)(i:Int)(e:i64.q)(s:(List aC.q)):Fr ((List aC.q)):=
 Jd b (Jd (0<=i/\i<((List.length k.2.2.1):Int)) (Jd (0<=e/\e<(s.length:Int)) (Jd (Int.toNat e<s.length) (Jv (s.set (Int.toNat e) (List.getD k.2.2.1 (Int.toNat i) aC.j))))))
def WJ:Code:=((Go.Ab.loopB (au f32 0) 1).getD .skip)
def Rx:yQ.M.X->Fr yQ.Out:=FG (λx=>(x.1.1,(x.1.2.1,x.1.2.2.1,x.1.2.2.2.1,x.1.2.2.2.2.1,x.1.2.2.2.2.2.1,x.1.2.2.2.2.2.2.1,x.2.1),x.2.2.1)) (λk=>k.1) (λk=>k.2.1) Dl (λk s=>((k.2.2.2.1,k.2.2.2.2.1,k.2.2.2.2.2.1,()),(k.2.2.2.2.2.2,s,())))
def zem:af prog (.loop WJ) yQ.M yQ Rx:=
 cX wc (λi k s=>((i,k.1,k.2.1,k.2.2.1,k.2.2.2.1,k.2.2.2.2.1,k.2.2.2.2.2.1,()),k.2.2.2.2.2.2,s,())) i64.j
def MU:=λk s=>bw (Dl k True) 0 k.2.1 s
def YD:=λk s=>bY (Dl k True) 0 k.2.1 s
def zsw(a:Gm):St->Option Tr:=yQ.han a yQ.M Rx
abbrev vj:Pt:=⟨78,0,⟨[(30,.d i64),(29,.d i64),(28,.d (.sl bj))],[.x 1 59 ak,.r 1 1 0,.o 6 99 aC]⟩,⟨[],[.o 6 99 aC]⟩,⟨[(2,.d (.sl aC)),(3,.d i64)],[]⟩⟩
abbrev BV:Type:=Int×List bj.q×ak.q
def nJ(g:bj.q):List Int:=g.2.2.1
def xW(k:BV)(i:Int)(g:bj.q)(s:List aC.q):Int×(List Int)×Int×Int×(List bj.q)×ak.q×bj.q×(List aC.q):=(((nJ g).length:Int),nJ g,i,k.1,k.2.1,k.2.2,g,s)
def vK(g:bj.q)(l:List aq.q):aa [.sl aC,i64]:=t9.f (g.2.1,l,())
def G0(k:BV)(i:Int)(g:bj.q)(l:List aq.q):Int×(List Int)×(List aC.q)×Int×Int×(List bj.q)×ak.q:=(((nJ g).length:Int),nJ g,(vK g l).1,i,k.1,k.2.1,k.2.2)
def zE(k:BV)(b:Prop)(i:Int)(e:bj.q)(s:List aC.q):Fr (List aC.q ⊕ vj.R.X):=
 Jd b (cT (InK ((nJ e).length:Int) 0 (nJ e).length) (YC (xW k i e s) []) (ug (xW k i e s) []) (λl=>
  Jd (dC l) (Jb ((vK e l).2.1 != 0) (Jv (.inr (([],(vK e l).2.1,()),())))
   (cT (InK ((nJ e).length:Int) 0 (nJ e).length) (YD (G0 k i e l) s) (MU (G0 k i e l) s) (λo=>Jv (.inl o))))))
def qjg:vj.M.X->Fr vj.Out:=FK (λx=>(x.1.1,((x.1.2.1,x.1.2.2.1,x.2.1):BV),x.2.2.1)) (λk=>k.1) (λk=>k.2.1) zE (λ_ s=>((),s,())) (λ_ y=>Rd.back y) [] (aY _,cf _)
def zen:af prog (.loop (au f32 0)) vj.M vj qjg:=
 lG wc (λi k s=>((i,k.1,k.2.1,()),k.2.2,s,())) bj.j (Λ:=(λk=>if k=0 then zsv IY.Γ else zsw IY.Γ)) (hΛ:=λ_=>Xu (by kernel_rfl) (b0:=WI) (b1:=WJ) (by kernel_rfl) (by kernel_rfl) (af.han wc rfl zel) (af.han wc rfl zem))
def js(st:ak.q):aa [.sl bj,i64]:=ES.f (st,())
def mZ(st:ak.q):BV:=((List.length (α:=bj.q) (js st).1:Int),(js st).1,st)
def F5(x:ap [.d ak]):Fr (aa [.sl aC,i64]):=
 Jd (bi x.1) (Jb ((js x.1).2.1 != 0) (Jv ([],(js x.1).2.1,()))
  (Jd (yk (List.length x.1.2.2.1) 48)
   (iS (InK (List.length (js x.1).1:Int) 0 (List.length (js x.1).1)) (eI (zE (mZ x.1) True) 0 (js x.1).1 (Lrp (Int.toNat (List.length x.1.2.2.1:Int)) aC.j)) (bC (zE (mZ x.1) True) 0 (js x.1).1 (Lrp (Int.toNat (List.length x.1.2.2.1:Int)) aC.j)) [] (aY _,cf _)
    (λs=>Jv (s,0,())) (λy=>Jv y.1))))
def qun:ag prog 32 (bg [.d ak] [.sl aC,i64] F5):=
 cZ wc zen (fn:=f32)
def qwi(k:Int×(List Int)×Int×Int×(List bj.q)×ak.q×bj.q×(List aC.q))(m:k.2.1.length<=100000)(i:∀ x∈k.2.1,0<=x/\x<(List.length (α:=aq.q) (aJ k.2.2.2.2.2.1):Int)):
  YC k []/\(ug k []).length=k.2.1.length/\∀ f∈ug k [],f∈aJ k.2.2.2.2.2.1:=
 dK (step:=Dk k True) (λj (r:List aq.q)=>r.length=j/\∀ f∈r,f∈aJ k.2.2.2.2.2.1) k.2.1 (λj e r b c=>by
  have l:=eO b;have a:=i e (ubg b);have n:=toNat_lt a;have o:=fI;have d:=c.1;refine⟨uT,a,?_,?_,λf g=>?_⟩;show r.length+1<=maxLen/\(r.length+1)*72<=140737488355328;omega;rw[ub6];exact ufy (· + 1) d;rcases udt.1 g with h|h
  exact c.2 f h;rw[ucf.1 h];exact eT a) [] ⟨rfl,λ_ h=>(nomatch h)⟩
def qwk(k:Int×(List Int)×(List aC.q)×Int×Int×(List bj.q)×ak.q)(n:Nat)(g:k.2.1.length=k.2.2.1.length)(f:∀ x∈k.2.1,0<=x/\x<(n:Int))(s:List aC.q)(i:s.length=n):
  YD k s/\(MU k s).length=n:=
 dK (step:=Dl k True) (λ_ (r:List aC.q)=>r.length=n) k.2.1 (λj e r c b=>by have d:=eO c;rw[g]at d;have a:=f e (ubg c);have h:=toNat_lt a;refine⟨uT,(ou d rfl).1,by rw[b];exact a,by rw[b];exact h,?_⟩;show(List.set _ _ _).length=n;rw[udp];exact b) s i
def UY(a:ak.q)(p:bi a)(D:dC (aJ a)):(F5 (a,())).s7 (λy=>y.2.1=0->List.length (α:=aC.q) y.1=List.length (α:=aq.q) (aJ a)):=by
 obtain⟨x,z⟩:=Wl a p;have t:List.length (α:=aq.q) (aJ a)<=100000:=p.2.2.1;refine⟨p,λm c=>?_,λm=>⟨Ch (ueq t (by decide)) (by decide),I8 (A:=λ(s:List aC.q)=>s.length=List.length (α:=aq.q) (aJ a)) (B:=λ(y:vj.R.X)=>y.1.2.1≠0) (eU (ueq x (ueq t (by decide)))) ?_ (λs u _=>u) (λy F c=>absurd c F)⟩⟩;have d:((js a).2.1 != 0)=true:=m;have n:(js a).2.1=0:=c;rw[n]at d;cases d;refine o5 (step:=zE (mZ a) True) (λ_ (s:List aC.q)=>s.length=List.length (α:=aq.q) (aJ a)) (λ(y:vj.R.X)=>y.1.2.1≠0) (js a).1 (λi e s m u=>?_) _ ?_;obtain⟨w,v⟩:=z e (ubg m);have k:(nJ e).length<=100000:=ueq w t;refine⟨uT,ii (A:=λ(l:List aq.q)=>l.length=(nJ e).length/\∀ f∈l,f∈aJ a) (eU (ueq k (by decide))) (qwi (xW (mZ a) i e s) k v) (λl b=>?_)⟩;have g:dC l:=⟨by rw[b.1];exact ueq k (by decide),λf r=>D.2 f (b.2 f r)⟩;refine⟨g,λh=>?_,λh=>?_⟩;show(vK e l).2.1≠0;simpa using h;have c:(vK e l).2.1=0:=by simpa using h
 have C:=qkr e.2.1 l g c;exact ii (A:=λ(o:List aC.q)=>o.length=List.length (α:=aq.q) (aJ a)) (eU (ueq k (by decide))) (qwk (G0 (mZ a) i e l) _ (b.1.symm.trans C.symm) v s u) (λo E=>E);show(Lrp (Int.toNat (List.length (α:=aq.q) (aJ a):Int)) _).length=_;rw[ubc,uc0]
def qZ:Ct:=⟨[.d ak],[.sl aC,i64],λx=>(F5 x).get,λx=>[bi x.1,dC (aJ x.1)]⟩
def EN:ag prog 32 qZ:=cq qun _ (λx _ a=>(dt (UY x.1 a.1 a.2)).1)
def Mk(a:ak.q)(c:bi a)(d:dC (aJ a))(b:(qZ.f (a,())).2.1=0):List.length (α:=aC.q) (qZ.f (a,())).1=List.length (α:=aq.q) (aJ a):=(dt (UY a c d)).2 b
def Jp:FuncId->Option (Func×(Nat->St->Option Tr)):=cR [(41,(f41,bK))]
def T9:List (FuncId×Ct):=[(47,E1),(32,qZ),(48,tC)]
def qpz:kj prog T9:=⟨TZ,EN,SY,uT⟩
def QP:Cx:=dI T9 [] (iJ prog (cx [] []) Jp)
def Aj:CxOK prog QP:=dP aH qpz trivial (jt mM (nD (by kernel_rfl) sP))
abbrev C9:Pt:=⟨105,0,⟨[(22,.d i64),(21,.d i64),(20,.d (.sl bn))],[.x 1 59 ak,.r 1 1 0,.x 4 111 cO,.r 4 4 0,.x 2 76 bQ,.r 2 2 0]⟩,⟨[],[.x 1 59 ak,.r 1 1 0,.x 4 111 cO,.r 4 4 0,.x 2 76 bQ,.r 2 2 0]⟩,⟨[(3,.d i64)],[.x 2 76 bQ,.r 2 2 0]⟩⟩
def nE(k:α->Fr β):Fr α->Fr β
 |.val x=>k x
 |.br b x y=>.br b (nE k x) (nE k y)
 |.need p x=>.need p (nE k x)
def sR{k:α->Fr β}{Q:β->Prop}:{f:Fr α}->f.s7 (λa=>(k a).s7 Q)->(nE k f).s7 Q
 |.val _,h=>h
 |.br _ _ _,h=>⟨λb=>sR (h.1 b),λb=>sR (h.2 b)⟩
 |.need _ _,h=>⟨h.1,sR h.2⟩
def yi(a:bQ.q):List Int:=[a.1,a.2.1,a.2.2.1,a.2.2.2.1,a.2.2.2.2.1,a.2.2.2.2.2.1]
def qa9(a:bQ.q)(w x:Int):bQ.q:=(bif w==0 then x else a.1,bif w==0+1 then x else a.2.1,bif w==0+1+1 then x else a.2.2.1,bif w==0+1+1+1 then x else a.2.2.2.1,bif w==0+1+1+1+1 then x else a.2.2.2.2.1,bif w==0+1+1+1+1+1 then x else a.2.2.2.2.2.1,())
def Oy(s:cO.q)(w m:Int):Bool:=bif s.2.1 then Z else J (m>I6.wrap (4000000000000000000-(yi s.1).getD (Int.toNat w) 0))
def qL(w m:Int)(s:cO.q):Fr cO.q:=
 Jd (s.2.1=Y->0<=w/\w<(6:Int)) (Jb (!Oy s w m)
  (Jd (0<=w/\w<(6:Int)) (Jd (0<=w/\w<(6:Int)) (Jv (qa9 s.1 w (I6.wrap ((yi s.1).getD (Int.toNat w) 0+m)),Oy s w m,()))))
  (Jv (s.1,Oy s w m,())))
def tg{w m:Int}{s:cO.q}(a:0<=w/\w<6):(qL w m s).s7 λ_=>True:=⟨λ_=>a,λ_=>⟨a,a,uT⟩,λ_=>uT⟩
def qu(k:Int×(List bn.q)×ak.q×bQ.q)(b:Prop)(_i:Int)(e:bn.q)(s:cO.q):Fr (cO.q ⊕ C9.R.X):=
 let a:=E1.f (e.1,k.2.2.1.1,());Jd b (Jd (cj e.1) (Jd (bf k.2.2.1.1) (Jb (a.2.1 != 0) (Jv (.inr ((a.2.1,()),(0,0,0,0,0,0,()),())))
  (nE (λc=>nE (λd=>Jv (.inl d)) (qL 1 e.2.1 c)) (qL 0 a.1 s)))))
def qjt:C9.M.X->Fr C9.Out:=FK (λx=>(x.1.1,(x.1.2.1,x.1.2.2.1,x.2.1,x.2.2.2.1),x.2.2.1)) (λk=>k.1) (λk=>k.2.1) qu (λk s=>((),(k.2.2.1,s,k.2.2.2,()))) (λ_ y=>Rd.back y) cO.j (aY _,cf _)
def zfn:af prog (.loop (au f23 0)) C9.M C9 qjt:=
 lG Aj (λi k s=>((i,k.1,k.2.1,()),k.2.2.1,s,k.2.2.2,())) bn.j
abbrev D1:List MI:=[.x 4 111 cO,.r 4 4 0,.x 2 76 bQ,.r 2 2 0]
abbrev stM:List MI:=.x 1 59 ak :: .r 1 1 0::D1
abbrev Hq:Pt:=⟨105,2,⟨[(55,.d i64),(54,.d i64),(53,.d (.sl aC)),(9,.d (.sl aC))],stM⟩,⟨[(9,.d (.sl aC))],stM⟩,⟨[],[]⟩⟩
def Dv(_k:Int×(List aC.q)×(List aC.q)×ak.q×bQ.q)(b:Prop)(_i:Int)(e:aC.q)(s:cO.q):Fr cO.q:=
 Jd b (nE (λa=>nE (λc=>qL 4 e.2.2.2.2.1 c) (qL 3 e.2.2.2.1 a)) (qL 2 e.2.2.1 s))
def qju:Hq.M.X->Fr Hq.Out:=FG (λx=>(x.1.1,(x.1.2.1,x.1.2.2.1,x.1.2.2.2.1,x.2.1,x.2.2.2.1),x.2.2.1)) (λk=>k.1) (λk=>k.2.1) Dv (λk s=>((k.2.2.1,()),k.2.2.2.1,s,k.2.2.2.2,()))
def zfo:af prog (.loop (au f23 1)) Hq.M Hq qju:=
 cX Aj (λi k s=>((i,k.1,k.2.1,k.2.2.1,()),k.2.2.2.1,s,k.2.2.2.2,())) aC.j
abbrev yY:Pt:=⟨105,6,⟨[(91,.d i64),(90,.d i64),(89,.d lQ),(85,.d i64),(84,.d i64),(83,.d (.sl lQ))],D1⟩,⟨[(85,.d i64),(84,.d i64),(83,.d (.sl lQ))],D1⟩,⟨[],[]⟩⟩
def Dx(_k:Int×(List ew.q)×Int×Int×(List (List ew.q))×bQ.q)(b:Prop)(_i:Int)(e:ew.q)(s:cO.q):Fr cO.q:=Jd b (qL 5 e.2.1 s)
def RA:yY.M.X->Fr yY.Out:=FG (λx=>(x.1.1,(x.1.2.1,x.1.2.2.1,x.1.2.2.2.1,x.1.2.2.2.2.1,x.1.2.2.2.2.2.1,x.2.2.1),x.2.1)) (λk=>k.1) (λk=>k.2.1) Dx (λk s=>((k.2.2.1,k.2.2.2.1,k.2.2.2.2.1,()),s,k.2.2.2.2.2,()))
def WO:Code:=(Go.Ab.loopB (au f23 2) 0).getD .skip
def zfq:af prog (.loop WO) yY.M yY RA:=
 cX Aj (λi k s=>((i,k.1,k.2.1,k.2.2.1,k.2.2.2.1,k.2.2.2.2.1,()),s,k.2.2.2.2.2,())) ew.j
abbrev Hr:Pt:=⟨105,4,⟨[(85,.d i64),(84,.d i64),(83,.d (.sl lQ))],D1⟩,⟨[],D1⟩,⟨[],[]⟩⟩
def Xj(k:Int×(List (List ew.q))×bQ.q)(i:Int)(e:List ew.q):Int×(List ew.q)×Int×Int×(List (List ew.q))×bQ.q:=((e.length:Int),e,i,k.1,k.2.1,k.2.2)
def Dw(k:Int×(List (List ew.q))×bQ.q)(b:Prop)(i:Int)(e:List ew.q)(s:cO.q):Fr cO.q:=
 Jd b (cT (InK (e.length:Int) 0 e.length) (bY (Dx (Xj k i e) True) 0 e s) (bw (Dx (Xj k i e) True) 0 e s) (λs=>Jv s))
def qjv:Hr.M.X->Fr Hr.Out:=FG (λx=>(x.1.1,(x.1.2.1,x.1.2.2.1,x.2.2.1),x.2.1)) (λk=>k.1) (λk=>k.2.1) Dw (λk s=>((),s,k.2.2,()))
def zfp:af prog (.loop (au f23 2)) Hr.M Hr qjv:=
 cX Aj (λi k s=>((i,k.1,k.2.1,()),s,k.2.2,())) lQ.j (Λ:=λ_=>yY.han QP.Γ yY.M RA) (hΛ:=λ_=>nc (by kernel_rfl) (b:=WO) (by kernel_rfl) (af.han Aj rfl zfq))
abbrev yS:Pt:=⟨41,0,⟨[(11,.d i64),(10,.d i64),(9,.d (.sl aC))],[.x 2 59 ak,.r 2 2 0,.o 5 101 ax]⟩,⟨[],[.o 5 101 ax]⟩,⟨[],[]⟩⟩
def Dm(k:Int×(List aC.q)×ak.q)(b:Prop)(i:Int)(e:aC.q)(s:(List ax.q)):Fr ((List ax.q)):=
 let a:=List.getD k.2.2.2.2.1 (Int.toNat i) aq.j;let c:=(a.1.1,a.1.2.2.2.2.2.1,a.1.2.2.2.1,a.1.2.2.1,e.2.2.1,());Jd b (Jd (0<=i/\i<((List.length k.2.2.2.2.1):Int)) (Jb (J (e.2.2.1>0)) (Jd (s.length + [c].length<=maxLen/\(s.length + [c].length)*40<=140737488355328) (Jv (s++[c]))) (Jv s)))
def R1:yS.M.X->Fr yS.Out:=FG (λx=>(x.1.1,(x.1.2.1,x.1.2.2.1,x.2.1),x.2.2.1)) (λk=>k.1) (λk=>k.2.1) Dm (λk s=>((),s,()))
def zet:af prog (.loop (au f49 0)) yS.M yS R1:=
 cX aL (λi k s=>((i,k.1,k.2.1,()),k.2.2,s,())) aC.j
def MV:=λk s=>bw (Dm k True) 0 k.2.1 s
def YH:=λk s=>bY (Dm k True) 0 k.2.1 s
def zsz(a:Gm):St->Option Tr:=yS.han a yS.M R1
def LV(x:ap [.d ak,.d (.sl aC)]):Fr (aa [.sl ax]):=
 cT (InK (((List.length x.2.1):Int)) 0 (List.length x.2.1)) (YH (((List.length x.2.1):Int),x.2.1,x.1) []) (MV (((List.length x.2.1):Int),x.2.1,x.1) []) (λa=>Jv (a,()))
def qux:ag prog 49 ⟨[.d ak,.d (.sl aC)],[.sl ax],λxs=>(LV xs).get,λxs=>[(LV xs).ok]⟩:=
 cF aL (Λ:=(λ_=>zsz eN.Γ)) (fn:=f49) (aY [.d ak,.d (.sl aC)]) (by kernel_rfl) (λc E a=>fH a (by kernel_rfl) (b:=au f49 0) (by kernel_rfl) (af.han aL rfl zet)) (λx=>by kernel_rfl)
def zfz(a:ak.q)(l:List aC.q)(h:l.length<=List.length (α:=aq.q) (aJ a))(g:l.length<=1000000):YH ((l.length:Int),l,a) []:=
 (dK (step:=Dm ((l.length:Int),l,a) True) (λi (s:List ax.q)=>s.length<=i) l (λi e s c b=>by
  have f:=eO c;have k:=fI;have d:0<=(i:Int)/\(i:Int)<(List.length (α:=aq.q) (aJ a):Int):=by omega
  refine⟨uT,d,λ_=>⟨?_,?_⟩,λ_=>uc4 b⟩;show s.length+1<=maxLen/\(s.length+1)*40<=140737488355328;omega;show(s++[_]).length<=i+1;rw[ub6];exact udk b) [] (ufd _)).1
def EU:Ct:=⟨[.d ak,.d (.sl aC)],[.sl ax],λx=>(LV x).get,λx=>[List.length (α:=aC.q) x.2.1<=List.length (α:=aq.q) (aJ x.1),List.length (α:=aC.q) x.2.1<=1000000]⟩
def SV:ag prog 49 EU:=cq qux _ (λx b a=>qz (jd b.2.1.1) (zfz x.1 x.2.1 a.1 a.2) (λ_=>uT))
def TA:List (FuncId×Ct):=[(32,qZ),(48,tC),(49,EU)]
def qp0:kj prog TA:=⟨EN,SY,SV,uT⟩
def qh2:Cx:=dI TA [] (iJ prog (cx [] []) Jp)
def qh3:CxOK prog qh2:=dP aH qp0 trivial (jt mM (nD (by kernel_rfl) sP))
abbrev z6:bQ.q:=(0,0,0,0,0,0,())
def e8(st:ak.q):aa [.sl aC,i64]:=qZ.f (st,())
def uH(a:ak.q):List ax.q:=(EU.f (a,(e8 a).1,())).1
def lE(a:ak.q):aa [.sl lQ,aP,i64]:=tC.f (a.2.2.2.1,uH a,())
def rF(a:ak.q):Int×(List bn.q)×ak.q×bQ.q:=((List.length (α:=bn.q) a.2.1:Int),a.2.1,a,z6)
def G6(a:ak.q):Int×(List aC.q)×(List aC.q)×ak.q×bQ.q:=((List.length (α:=aC.q) (e8 a).1:Int),(e8 a).1,(e8 a).1,a,z6)
def G7(a:ak.q):Int×(List (List ew.q))×bQ.q:=((List.length (α:=List ew.q) (lE a).1:Int),(lE a).1,z6)
def F7(x:ap [.d ak]):Fr (aa [bQ,i64]):=
 iS (InK (List.length (α:=bn.q) x.1.2.1:Int) 0 (List.length (α:=bn.q) x.1.2.1)) (eI (qu (rF x.1) True) 0 x.1.2.1 cO.j) (bC (qu (rF x.1) True) 0 x.1.2.1 cO.j) cO.j (aY _,cf _)
  (λa=>Jd (bi x.1) (Jd (dC (aJ x.1)) (Jb ((e8 x.1).2.1 != 0) (Jv (z6,(e8 x.1).2.1,()))
   (cT (InK (List.length (α:=aC.q) (e8 x.1).1:Int) 0 (List.length (α:=aC.q) (e8 x.1).1)) (bY (Dv (G6 x.1) True) 0 (e8 x.1).1 a) (bw (Dv (G6 x.1) True) 0 (e8 x.1).1 a) (λb=>
    Jd (List.length (α:=aC.q) (e8 x.1).1<=List.length (α:=aq.q) (aJ x.1)) (Jd (List.length (α:=aC.q) (e8 x.1).1<=1000000) (Jb ((lE x.1).2.2.1 != 0) (Jv (z6,(lE x.1).2.2.1,()))
     (cT (InK (List.length (α:=List ew.q) (lE x.1).1:Int) 0 (List.length (α:=List ew.q) (lE x.1).1)) (bY (Dw (G7 x.1) True) 0 (lE x.1).1 b) (bw (Dw (G7 x.1) True) 0 (lE x.1).1 b) (λc=>Jb c.2.1 (Jv (z6,5,())) (Jv (c.1,0,())))))))))))
  (λy=>Jv (y.2.1,y.1.1,()))
def qus:ag prog 23 (bg [.d ak] [bQ,i64] F7):=
 Vi qh3 zfn zfo zfp (fn:=f23)
def zpd(a:ak.q)(b:bi a):eI (qu (rF a) True) 0 a.2.1 cO.j:=
 (o5 (step:=qu (rF a) True) (λ_ _=>True) (λ_=>True) a.2.1 (λi e s c _=>by have d:cj e.1:=b.2.2.2 e (ubg c);refine⟨uT,d,b.1,λ_=>uT,λ_=>sR (Fr.satP_mono (λf _=>?_) (tg (by decide)))⟩;exact sR (Fr.satP_mono (λg _=>uT) (tg (by decide)))) cO.j trivial).1
def zpe(a:ak.q)(b:cO.q):bY (Dv (G6 a) True) 0 (e8 a).1 b:=
 (dK (step:=Dv (G6 a) True) (λ_ _=>True) (e8 a).1 (λi e s c _=>by refine⟨uT,sR (Fr.satP_mono (λd _=>?_) (tg (by decide)))⟩;exact sR (Fr.satP_mono (λf _=>tg (by decide)) (tg (by decide)))) b trivial).1
def zpg(k:Int×(List ew.q)×Int×Int×(List (List ew.q))×bQ.q)(e:List ew.q)(s:cO.q):bY (Dx k True) 0 e s:=
 (dK (step:=Dx k True) (λ_ _=>True) e (λi e s a _=>⟨uT,tg (by decide)⟩) s trivial).1
def zpf(a:ak.q)(b:cO.q):bY (Dw (G7 a) True) 0 (lE a).1 b:=
 (dK (step:=Dw (G7 a) True) (λ_ _=>True) (lE a).1 (λi e s c _=>⟨uT,eU (ueq ((qc3 a.2.2.2.1 (uH a)).2 e (ubg c)) (by decide)),zpg _ _ _,uT⟩) b trivial).1
def zpi(a:ak.q)(b:bi a)(d:dC (aJ a)):(F7 (a,())).ok:=by
 have h:List.length (α:=bn.q) (bW a)<=100000:=b.2.1;have e:List.length (α:=aq.q) (aJ a)<=100000:=b.2.2.1;refine sS (eU (ueq h (by decide))) (zpd a b) (λk=>⟨b,d,λ_=>uT,λi=>?_⟩) (λ_=>uT);have f:(e8 a).2.1=0:=by simpa using i
 have c:List.length (α:=aC.q) (e8 a).1=List.length (α:=aq.q) (aJ a):=Mk a b d f;have g:List.length (α:=List ew.q) (lE a).1<=2000:=(qc3 a.2.2.2.1 (uH a)).1;refine qz (eU (by rw[c];exact ueq e (by decide))) (zpe a k) (λl=>⟨Nat.le_of_eq c,by rw[c];exact ueq e (by decide),λ_=>uT,λ_=>?_⟩);exact qz (eU (ueq g (by decide))) (zpf a l) (λm=>⟨λ_=>uT,λ_=>uT⟩)
def AM:Ct:=⟨[.d ak],[bQ,i64],λx=>(F7 x).get,λx=>[bi x.1,dC (aJ x.1)]⟩
def K0:ag prog 23 AM:=cq qus _ (λx _ a=>zpi x.1 a.1 a.2)
def LT(x:ap [.d bD]):Fr (aa [.bool]):=
 Jv (bif J (x.1.2.1>1000000000000000)then Z else J (x.1.2.1 < -1000000000000000),())
def quq:ag prog 38 ⟨[.d bD],[.bool],λxs=>(LT xs).get,λxs=>[(LT xs).ok]⟩:=
 cF aL (Λ:=bK) (fn:=f38) (aY [.d bD]) (by kernel_rfl) (λc E _=>bm c 0) (λx=>by kernel_rfl)
def Ky:Ct:=⟨[.d bD],[.bool],λx=>(LT x).get,λ_=>[]⟩
def qm5:ag prog 38 Ky:=cq quq _ (λx a _=>uT)
abbrev Ud:List MI:=[.y 8 71 [(V,i64),(V,i64),(U 107,bD)],.r 8 8 0,.x 6 71 aW,.r 6 6 0]
abbrev He:Pt:=⟨78,0,⟨[(58,.d i64)],.x 7 73 dX :: .r 7 7 0::Ud⟩,⟨[],Ud⟩,⟨[],[]⟩⟩
def gn(a:dX.q):List Int:=[a.1,a.2.1,a.2.2.1,a.2.2.2.1,a.2.2.2.2.1,a.2.2.2.2.2.1,a.2.2.2.2.2.2.1,a.2.2.2.2.2.2.2.1,a.2.2.2.2.2.2.2.2.1,a.2.2.2.2.2.2.2.2.2.1]
def nz(k:dX.q×Int×Int×aW.q)(_b:Prop)(i:Int)(_e:Unit)(s:List bD.q):Fr (List bD.q):=
 let a:=I6.wrap (i+1);Jd (0<=I6.wrap (i+1)/\I6.wrap (i+1)<(10:Int)) (Jb ((gn k.1).getD a.toNat 0 != 0)
  (Jd (s.length+1<=maxLen/\(s.length+1)*16<=140737488355328) (Jv (s++[(I6.wrap (i+1),(gn k.1).getD a.toNat 0,())]))) (Jv s))
def qjd:He.M.X->Fr He.Out:=FG (λx=>(x.1.1,(x.2.1,x.2.2.1.1,x.2.2.1.2.1,x.2.2.2.1),x.2.2.1.2.2.1)) (λ_=>9) (λ_=>Lrp 9 ()) nz (λk s=>((),(k.2.1,k.2.2.1,s,()),k.2.2.2,()))
def zee:af prog (.loop (au f36 0)) He.M He qjd:=
 cX aL (λi k s=>((i,()),k.1,(k.2.1,k.2.2.1,s,()),k.2.2.2,())) ()
def qym:=λk s=>bw (nz k True) 0 (Lrp 9 ()) s
def zhe:=λk s=>bY (nz k True) 0 (Lrp 9 ()) s
abbrev vo:Pt:=⟨71,0,⟨[(11,.d i64),(10,.d i64),(9,.d (.sl bD)),(4,.d i64),(5,.d i64)],[.x 1 71 aW,.r 1 1 0]⟩,⟨[(4,.d i64)],[.x 1 71 aW,.r 1 1 0]⟩,⟨[(2,.d i64),(3,.d .bool)],[]⟩⟩
def n9(k:Int×(List bD.q)×aW.q)(b:Prop)(i:Int)(e:bD.q)(s:Int×Int):Fr ((Int×Int) ⊕ vo.R.X):=
 Jd b (Jb (bif bif bif bif J (e.1<=s.2)then Z else J (e.1>9)then Z else e.2.1==0 then Z else J (e.2.1 < -1000000000000000)then Z else J (e.2.1>1000000000000000)) (Jv (.inr ((0,Y,()),()))) (Jv (.inl (I6.wrap (s.1+e.2.1),e.1))))
def R7:vo.M.X->Fr vo.Out:=FK (λx=>(x.1.1,(x.1.2.1,x.1.2.2.1,x.2.1),(x.1.2.2.2.1,x.1.2.2.2.2.1))) (λk=>k.1) (λk=>k.2.1) n9 (λk s=>((s.1,()),k.2.2,())) (λ_ y=>Rd.back y) (0,0) (aY _,cf _)
def zfb:af prog (.loop (au f50 0)) vo.M vo R7:=
 lG aL (λi k s=>((i,k.1,k.2.1,s.1,s.2,()),k.2.2,())) bD.j
def qyq:=λk s=>bC (n9 k True) 0 k.2.1 s
def zhj:=λk s=>eI (n9 k True) 0 k.2.1 s
def zs3(a:Gm):St->Option Tr:=vo.han a vo.M R7
def ua(x:ap [.d aW]):Fr (aa [i64,.bool]):=
 iS (InK (((List.length x.1.2.2.1):Int)) 0 (List.length x.1.2.2.1)) (zhj (((List.length x.1.2.2.1):Int),x.1.2.2.1,x.1) (0,0)) (qyq (((List.length x.1.2.2.1):Int),x.1.2.2.1,x.1) (0,0)) (0,0) (aY _,cf _) (λa=>Jv (a.1,bif bif bif bif J (x.1.1>=1)then J (x.1.1<=292194)else Y then J (x.1.2.1>=0)else Y then J (x.1.2.1<=1000000000)else Y then J (((List.length x.1.2.2.1):Int)>=2)else Y,())) (λb=>Jv b.1)
def qvb:ag prog 50 ⟨[.d aW],[i64,.bool],λxs=>(ua xs).get,λxs=>[(ua xs).ok]⟩:=
 cF aL (Λ:=(λ_=>zs3 eN.Γ)) (fn:=f50) (aY [.d aW]) (by kernel_rfl) (λc E a=>fH a (by kernel_rfl) (b:=au f50 0) (by kernel_rfl) (af.han aL rfl zfb)) (λx=>by kernel_rfl)
def pz:Ct:=⟨[.d aW],[i64,.bool],λx=>(ua x).get,λ_=>[]⟩
def qnf:ag prog 50 pz:=cq qvb _ (λx a _=>sS (jd a.1.2.2.1.1) (by refine Oh (λ_ _ _=>?_) _ _ _;exact⟨uT,λ_=>uT,λ_=>uT⟩) (λ_=>by repeat' first|exact trivial|intro _|refine⟨?_,?_⟩|decide) (λ_=>uT))
def qaj:List (FuncId×Row):=[(59,.clone 107 bD 16)]
def qh5:Cx:=nV [(50,pz)] [] qaj (λ_ _ _ _=>V)
def qh6:CxOK prog qh5:=pE (cs:=[(50,pz)]) (ps:=[]) (rs:=qaj) aH ⟨qnf,uT⟩ trivial ⟨qos,uT⟩ (λ_ _ _ _ _ h=>(nomatch h))
def tZ(x:ap [.d bq,.d aW]):Fr (aa [bq,i64]):=
 let h:=pz.f (x.2.1,());let b:=(none:Option Int);let c:=List.drop (b.getD 0).toNat x.1.1;let a:=((List.length x.1.1):Int);let g:=List.take (a-b.getD 0).toNat c;Jb (!h.2.1) (Jv (([],()),1,())) (Jb (h.1 != 0) (Jv (([],()),13,())) (Jb (J (a>=2000)) (Jv (([],()),2,())) (Jd (J (a>0)=Z->0<=I6.wrap (a-1)/\I6.wrap (a-1)<a) (Jb (bif J (a>0)then J (x.2.1.1<(List.getD x.1.1 (I6.wrap (a-1)).toNat aW.j).1)else Y) (Jv (([],()),4,())) (Jd (List.length x.2.1.2.2.1<=maxLen) (Jd (List.length x.2.1.2.2.1*16<=140737488355328) (Jd (0<=b.getD 0/\b.getD 0<=a/\a<=a/\a=a) (Jd (0 < [x.2.1].length/\g.length + [x.2.1].length<=maxLen/\(g.length + [x.2.1].length)*40<=140737488355328) (Jv ((List.take (a-b.getD 0).toNat c++[x.2.1],()),0,()))))))))))
def qu8:ag prog 39 ⟨[.d bq,.d aW],[bq,i64],λxs=>(tZ xs).get,λxs=>[(tZ xs).ok]⟩:=
 cF qh6 (Λ:=bK) (fn:=f39) (aY [.d bq,.d aW]) (by kernel_rfl) (λc E _=>bm c 0) (λx=>by kernel_rfl)
def zju(b:bq.q)(e:aW.q)(h:List.length (α:=bD.q) e.2.2.1<=1000000):(tZ (b,e,())).ok:=by
 have g:=fI;refine⟨λ_=>uT,λ_=>⟨λ_=>uT,λ_=>⟨λ_=>uT,λc=>⟨λd=>?_,λ_=>uT,λ_=>⟨?_,?_,?_,?_,uT⟩⟩⟩⟩⟩;have i:(List.length (α:=aW.q) b.1:Int)>0:=ucx d;have f:¬ (List.length (α:=aW.q) b.1:Int)>=2000:=uch c;rw[show I6.wrap ((List.length (α:=aW.q) b.1:Int)-1)=(List.length (α:=aW.q) b.1:Int)-1 from cV (by omega)];show 0<=(List.length (α:=aW.q) b.1:Int)-1/\(List.length (α:=aW.q) b.1:Int)-1<(List.length (α:=aW.q) b.1:Int);omega;show List.length (α:=bD.q) e.2.2.1<=maxLen;omega;show List.length (α:=bD.q) e.2.2.1*16<=_;omega;exact⟨ufe _,ub4 _,ufe _,rfl⟩;have f:¬ (List.length (α:=aW.q) b.1:Int)>=2000:=uch c;have a:(List.take ((List.length (α:=aW.q) b.1:Int)-(none:Option Int).getD 0).toNat (List.drop ((none:Option Int).getD 0).toNat (b.1:List aW.q))).length<=2000:=by rw[uc6];show min _ (List.length (α:=aW.q) b.1)<=_;omega
 refine⟨udv,?_,?_⟩;exact ueq (udk a) (ueq (show 2001<=1000000 by decide) g);exact ueq (ube 40 (udk a)) (by decide)
def K2:Ct:=⟨[.d bq,.d aW],[bq,i64],λx=>(tZ x).get,λx=>[List.length (α:=bD.q) x.2.1.2.2.1<=1000000]⟩
def qnd:ag prog 39 K2:=cq qu8 _ (λx _ a=>zju x.1 x.2.1 a)
def LX(x:ap [.d i64,.ptr i64]):Fr (aa [.bool]):=
 Jv (J (x.1<=x.2.1),())
def qu6:ag prog 43 ⟨[.d i64,.ptr i64],[.bool],λxs=>(LX xs).get,λxs=>[(LX xs).ok]⟩:=
 cF aL (Λ:=bK) (fn:=f43) (aY [.d i64,.ptr i64]) (by kernel_rfl) (λc E _=>bm c 0) (λx=>by kernel_rfl)
def xc:Ct:=⟨[.d i64,.ptr i64],[.bool],λx=>(LX x).get,λ_=>[]⟩
def qnb:ag prog 43 xc:=cq qu6 _ (λx a _=>uT)
abbrev pR:PT:=.fn [i64] [.bool]
abbrev yI:Pt:=⟨42,2,⟨[(27,.d i64),(26,.d i64),(25,.d (.sl bD)),(7,.d i64),(1,.d i64),(2,pR),(15,.d i64),(14,.d i64),(13,.d (.sl aW))],[]⟩,⟨[(7,.d i64),(1,.d i64),(2,pR),(15,.d i64),(14,.d i64),(13,.d (.sl aW))],[]⟩,⟨[],[]⟩⟩
abbrev Ny:Type:=Int×List bD.q×Int×pR.q×Int×Int×List aW.q
def HT(k:Ny)(b:Prop)(_i:Int)(e:bD.q)(s:Int):Fr Int:=Jd b (Jb (e.1==k.2.2.1) (Jv (I6.wrap (s+e.2.1))) (Jv s))
def Ro:yI.M.X->Fr yI.Out:=FG (λx=>(x.1.1,((x.1.2.1,x.1.2.2.1,x.1.2.2.2.2.1,x.1.2.2.2.2.2.1,x.1.2.2.2.2.2.2.1,x.1.2.2.2.2.2.2.2.1,x.1.2.2.2.2.2.2.2.2.1):Ny),(x.1.2.2.2.1:Int))) (λk=>k.1) (λk=>k.2.1) HT (λk s=>((s,k.2.2.1,k.2.2.2.1,k.2.2.2.2.1,k.2.2.2.2.2.1,k.2.2.2.2.2.2,()),()))
def WE:Code:=(Go.Ab.loopB (au f42 0) 0).getD .skip
def zd0:af prog (.loop WE) yI.M yI Ro:=
 cX aL (λi k s=>((i,k.1,k.2.1,s,k.2.2.1,k.2.2.2.1,k.2.2.2.2.1,k.2.2.2.2.2.1,k.2.2.2.2.2.2,()),())) bD.j
abbrev Ha:Pt:=⟨42,0,⟨[(15,.d i64),(14,.d i64),(13,.d (.sl aW)),(1,.d i64),(2,pR),(7,.d i64)],[]⟩,⟨[(7,.d i64)],[]⟩,⟨[],[]⟩⟩
abbrev Gz:Type:=Int×List aW.q×Int×pR.q
def bN(e:aW.q):List bD.q:=e.2.2.1
def N2(k:Gz)(i:Int)(e:aW.q):Ny:=(((bN e).length:Int),bN e,k.2.2.1,k.2.2.2,i,k.1,k.2.1)
def Dg(k:Gz)(b:Prop)(i:Int)(e:aW.q)(s:Int):Fr Int:=
 Jd b (Jb (!(k.2.2.2 (e.1,())).1) (Jv s) (cT (InK ((bN e).length:Int) 0 (bN e).length) (bY (HT (N2 k i e) True) 0 (bN e) s) (bw (HT (N2 k i e) True) 0 (bN e) s) (λs=>Jv s)))
def qi6:Ha.M.X->Fr Ha.Out:=FG (λx=>(x.1.1,((x.1.2.1,x.1.2.2.1,x.1.2.2.2.1,x.1.2.2.2.2.1):Gz),(x.1.2.2.2.2.2.1:Int))) (λk=>k.1) (λk=>k.2.1) Dg (λ_ s=>((s,()),()))
def zdz:af prog (.loop (au f42 0)) Ha.M Ha qi6:=
 cX aL (λi k s=>((i,k.1,k.2.1,k.2.2.1,k.2.2.2,s,()),())) aW.j (Λ:=λ_=>yI.han eN.Γ yI.M Ro) (hΛ:=λ_=>nc (by kernel_rfl) (b:=WE) (by kernel_rfl) (af.han aL rfl zd0))
def BT(x:ap [.d bq,.d i64,pR]):Gz:=((List.length (α:=aW.q) x.1.1:Int),x.1.1,x.2.1,x.2.2.1)
def UU(x:ap [.d bq,.d i64,pR]):Fr (aa [i64]):=
 cT (InK (List.length (α:=aW.q) x.1.1:Int) 0 (List.length (α:=aW.q) x.1.1)) (bY (Dg (BT x) True) 0 x.1.1 0) (bw (Dg (BT x) True) 0 x.1.1 0) (λs=>Jv (s,()))
def qva:ag prog 42 (bg [.d bq,.d i64,pR] [i64] UU):=cZ aL zdz (fn:=f42)
def K3:Ct:=⟨[.d bq,.d i64,pR],[i64],λx=>(UU x).get,λ_=>[]⟩
def qne:ag prog 42 K3:=cq qva _ (λx d _=>by have a:=d.1.1;refine qz (jd a.1) (dK (step:=Dg (BT x) True) (λ_ _=>True) x.1.1 (λi e s c _=>?_) 0 trivial).1 (λ_=>uT);have b:=a.2 i e c;refine⟨uT,λ_=>uT,λ_=>⟨jd b.2.2.1.1,?_,uT⟩⟩;refine yx (λ_ _ _=>?_) _ _ _;exact⟨uT,λ_=>uT,λ_=>uT⟩)
def qh7:Cx:=cx [(42,K3),(43,xc)] []
def qh8:CxOK prog qh7:=aQ aH ⟨qne,qnb,uT⟩ trivial
def LY(x:ap [.d bq,.d i64,.d i64]):Fr (aa [i64]):=
 Jd (∀ (a:aa [i64]),gN [i64] a->az (xc.ok (a.1,x.2.2.1,()))) (Jv ((K3.f ((x.1.1,()),x.2.1,λa=>xc.f (a.1,x.2.2.1,()),())).1,()))
def qu7:ag prog 18 ⟨[.d bq,.d i64,.d i64],[i64],λxs=>(LY xs).get,λxs=>[(LY xs).ok]⟩:=
 cF qh8 (Λ:=bK) (fn:=f18) (aY [.d bq,.d i64,.d i64]) (by kernel_rfl) (λc E _=>bm c 0) (λx=>by kernel_rfl)
def xd:Ct:=⟨[.d bq,.d i64,.d i64],[i64],λx=>(LY x).get,λ_=>[]⟩
def qnc:ag prog 18 xd:=cq qu7 _ (λx a _=>⟨λ_ _=>uT,uT⟩)
def qh9:Cx:=cx [(18,xd)] []
def QR:CxOK prog qh9:=aQ aH ⟨qnc,uT⟩ trivial
def znt(a:dX.q)(w x:Int):dX.q:=(bif w==0 then x else a.1,bif w==0+1 then x else a.2.1,bif w==0+1+1 then x else a.2.2.1,bif w==0+1+1+1 then x else a.2.2.2.1,bif w==0+1+1+1+1 then x else a.2.2.2.2.1,bif w==0+1+1+1+1+1 then x else a.2.2.2.2.2.1,bif w==0+1+1+1+1+1+1 then x else a.2.2.2.2.2.2.1,bif w==0+1+1+1+1+1+1+1 then x else a.2.2.2.2.2.2.2.1,bif w==0+1+1+1+1+1+1+1+1 then x else a.2.2.2.2.2.2.2.2.1,bif w==0+1+1+1+1+1+1+1+1+1 then x else a.2.2.2.2.2.2.2.2.2.1,())
abbrev trM:List MI:=[.x 2 52 bq,.r 2 2 0,.x 4 73 dX,.r 4 4 0,.x 5 73 dX,.r 5 5 0]
abbrev Hu:Pt:=⟨20,0,⟨[(7,.d i64),(1,.d i64)],trM⟩,⟨[],[.x 4 73 dX,.r 4 4 0,.x 5 73 dX,.r 5 5 0]⟩,⟨[],[]⟩⟩
def Ik(k:Int×bq.q×dX.q)(_b:Prop)(i:Int)(_e:Unit)(s:dX.q):Fr dX.q:=
 Jd (0<=I6.wrap (i+1)/\I6.wrap (i+1)<(10:Int)) (Jv (znt s (I6.wrap (i+1)) (xd.f (k.2.1,I6.wrap (i+1),k.1,())).1))
def qjy:Hu.M.X->Fr Hu.Out:=FG (λx=>(x.1.1,(x.1.2.1,x.2.1,x.2.2.1),x.2.2.2.1)) (λ_=>9) (λ_=>Lrp 9 ()) Ik (λk s=>((),k.2.2,s,()))
def zfx:af prog (.loop (au f22 0)) Hu.M Hu qjy:=
 cX QR (λi k s=>((i,k.1,()),k.2.1,k.2.2,s,())) ()
def UT(x:ap [.d bq,.d i64]):Fr (aa [dX]):=
 cT (InK 9 0 (Lrp 9 ()).length) (bY (Ik (x.2.1,x.1,dX.j) True) 0 (Lrp 9 ()) dX.j) (bw (Ik (x.2.1,x.1,dX.j) True) 0 (Lrp 9 ()) dX.j) (λs=>Jv (s,()))
def qu9:ag prog 22 (bg [.d bq,.d i64] [dX] UT):=cZ QR zfx (fn:=f22)
def Yv{e:Unit}(h:(Lrp 9 ())[i]?= U e):i<9:=by
 have:=eO h
 rwa [ubc]at this
def qd5(h:i<9):0<=I6.wrap ((i:Int)+1)/\I6.wrap ((i:Int)+1)<(10:Int):=by rw[show I6.wrap ((i:Int)+1)=(i:Int)+1 from cV (by omega)];omega
def AN:Ct:=⟨[.d bq,.d i64],[dX],λx=>(UT x).get,λ_=>[]⟩
def SW:ag prog 22 AN:=cq qu9 _ (λx _ _=>qz ⟨rfl,by decide,by decide,by decide⟩ (dK (step:=Ik (x.2.1,x.1,dX.j) True) (λ_ _=>True) (Lrp 9 ()) (λi e s a _=>⟨qd5 (Yv a),uT⟩) dX.j trivial).1 (λ_=>uT))
def gX(s:ak.q):Prop:=∀ f∈aJ s,List.length (α:=ba.q) f.2.1<=2000
def qps(g:aq.q)(a:ba.q)(h:List.length (α:=ba.q) g.2.1<=2000):List.length (α:=ba.q) (eX g a).1.2.1<=2000:=by unfold eX;cases !(lc a);cases b:J (((List.length (α:=ba.q) g.2.1:Nat):Int)>=2000);have:=uch b;cases J (a.1<qb g);cases (m9 g).2.2.2.2.2.1==(a.2.1==5);cases A8 g a;show(g.2.1++[a]).length<=2000;rw[ub6,ua7];omega;exact ufj _;exact ufj _;exact ufj _;exact ufj _;exact ufj _
def qsv(t:bh.q):gX (hZ t):=λf a=>by cases a
def qsr{s:ak.q}(f:ae.q)(h:gX s):gX (fB s f).1:=by unfold fB;cases J (aI s f>=0);cases J (((List.length (bW s):Nat):Int)>=2000);exact h;exact h;exact h
def qsq{s:ak.q}(f:ae.q)(h:gX s):gX (fA s f).1:=by unfold fA;cases J (aI s f<0);cases (aJ s).any (lO f);exact h;exact h;exact h
def qsw{s:ak.q}(f:ae.q)(h:gX s):gX (fD s f).1:=by unfold fD;cases J (aI s f<0);cases J (ej f>I6.wrap (4000000000000000000-(gc s (aI s f)).2.1));exact h;exact h;exact h
def qsu{s:ak.q}(f:ae.q)(h:gX s):gX (fl s f).1:=by
 unfold fl;cases J (eS s (dk f).1>=0);cases J (((List.length (aJ s):Nat):Int)>=2000);cases !(lA s f).2;intro g a;rcases o9 a with a|a
 exact h g a;rw[a];exact ufj _;exact h;exact h;exact h
def qsp{s:ak.q}(f:ae.q)(h:gX s):gX (eY s f).1:=by
 unfold eY;cases b:J (gI s f<0);intro g a;rcases qd a with a|a
 exact h g a;rw[a];exact qps _ _ (h _ (eT (FI (uch b))));exact h
def qsx{s:ak.q}(f:ae.q)(h:gX s):gX (fE s f).1:=by unfold fE;cases oZ s (dB f);cases J (((List.length (bT s):Nat):Int)>=100);cases jV (bT s) (dB f);exact h;exact h;exact h;exact h
def qss{s:ak.q}(f:ae.q)(h:gX s):gX (gi s f).1:=by unfold gi;cases J (dA f<=kg s);exact h;exact h
def qst{s:ak.q}(f:ae.q)(h:gX s):gX (gU s f).1:=by show gX (kB s f).1;unfold kB;cases aM f==1;cases aM f==2;cases aM f==3;cases aM f==4;cases aM f==5;cases aM f==6;exact qss f h;exact qsx f h;exact qsp f h;exact qsu f h;exact qsw f h;exact qsq f h;exact qsr f h
def ix(s:ak.q):Prop:=bi s/\gX s
def Fv{t:bh.q}(h:bf t):ix (hZ t):=⟨L9 h,qsv t⟩
def L7{s:ak.q}(f:ae.q)(h:ix s)(a:(dq s f).2=0):ix (dq s f).1:=by rw[(Dp a).2.2];exact⟨UF f h.1,qst f h.2⟩
def Bg{s:ak.q}(h:ix s):dC (aJ s):=⟨ueq h.1.2.2.1 (by decide),λf a=>ueq (h.2 f a) (by decide)⟩
section
open Go.Shelf
attribute [local go_sem] Oper.semAt_some
def qlt (n:Nat) (hn:1<=n) (l Bs n₀ b off len cap:Nat) (c:Nat->Int) (hreach:len<=1000000) (A:Option Addr) (hA:0<len->A=some ⟨b,off,none⟩/\b<n₀) (J Jx:List (Fin len)->World->Prop)
  (hY:∀ pre (k:Fin len) W,J pre W->pre.length<len->YieldAt Fence.wide (n-1) prog l #[.int .i64 ((k.1:Nat):Int),.int .i64 (c k.1)] W λe W'=>
   (e=.returned (.bool true)/\J (pre++[k]) W'/\cU n₀ Bs Bs W W')\/(e=.returned (.bool false)/\Jx (pre++[k]) W'))
  (W:World) (hBs:W.heap[Bs]?= some (.cells #[.slice A len cap] 126 (0,0))) (hc:∀ k,k<len->W.cell? ⟨b,off+k,none⟩=some (.int .i64 (c k))) (h0:J [] W) :
  CallsIn Fence.wide n prog 154 #[.func (.yield l) #[] #[],.pointer (some ⟨Bs,0,none⟩)] W λe W'=>(∃ v,e=.returned v) /\
   ((∃ ys:List (Fin len),ys.map Fin.val=jO (λj=>len-1-j) len/\J ys W')\/(∃ pre:List (Fin len),(∃ k,k<=len/\pre.map Fin.val=jO (λj=>len-1-j) k)/\Jx pre W')):=by
 have hro:Fence.wide.round=none:=rfl;refine callsIn_of_wp func154 rfl trivial ?_ hro;simp only[ntmps154,ucq,uda,udm,Nat.reduceAdd,Nat.reduceSub,ubn,ubo,ucy,ubx,udn,uc5];have c0:=cn hBs 0
 gi_wp2
 gi_loopw [3] (λi wr=>∃ (k:Nat) (pre:List (Fin len)),k<=len/\i=.int .i64 ((len:Int)-1-k)/\pre.map Fin.val=jO (λj=>len-1-j) k/\J pre wr/\cU n₀ Bs Bs W wr)
  (λi _=>(intOf i+1).toNat)
 case atStart=>exact⟨0,[],ufj _,by simp,rfl,h0,cU.refl _ _ _ _⟩
 case round=>
  obtain⟨k,pre,hk,rfl,hpre,hJs,hnx⟩:=hrel;have e0:=cn (hnx.2.1.trans hBs) 0;by_cases hlt:k<len
  ·obtain⟨rfl,hb⟩:=hA (by omega);obtain⟨fn,tmps,assign,body,hy,hR⟩:=hY pre ⟨len-1-k,by omega⟩ wr hJs (by have:=ufy List.length hpre;rw[FM,ud3]at this;omega);have x0:wr.cell? ⟨b,off+(len-1-k),none⟩=some (.int .i64 (c (len-1-k))):=(hnx.1.cell hb).trans (hc _ (by omega));have ek:((len-1-k:Nat):Int)=(len:Int)-1-k:=by omega
   rw[ek]at hy
   gi_wp2
   refine hR.mono ?_;rintro e W3 (⟨rfl,hJ3,hk3⟩|⟨rfl,hJx3⟩)
   ·gi_wp2
    go_roundw
    case rel=>exact⟨k+1,pre++[⟨len-1-k,by omega⟩],by omega,by simp;omega,by rw[xG,udx,hpre];rfl,hJ3,hnx.trans hk3⟩
    case measure=>simp[intOf];omega
   ·gi_wp2
    refine ue4 (ue5 rfl _ _ _) rfl ?_;exact⟨⟨_,rfl⟩,.inr ⟨_,⟨k+1,by omega,by rw[xG,udx,hpre];rfl⟩,hJx3⟩⟩
  ·obtain rfl:k=len:=by omega
   gi_wp2
   go_end0
   exact⟨⟨_,rfl⟩,.inl ⟨_,hpre,hJs⟩⟩
def qlv(n:Nat)(A:Option Addr)(b a:Nat)(w:World):
  CallsIn Fence.wide n prog 96 #[.slice A b a] w λe w'=>e=.returned (.func (.func 154) #[] #[.pointer (U ⟨w.heap.size,0,V⟩)])/\w'=w.alloc (.cells #[.slice A b a] 126):=by
 refine callsIn_of_wp func96 rfl trivial ?_ rfl;simp only[ntmps96,ucq,uda,udm,Nat.reduceAdd,Nat.reduceSub,ubn,ubo,ucy,ubx,udn,uc5]
 gi_wp2
 go_ret
 exact⟨rfl,rfl⟩
structure TuI (w:World) (hc:Array Value) (day:Int) (Bs:Nat) (sv:Value) (is:Nat->Bool) (pre:List (Fin len)) (W:World):Prop where
 h0:W.heap[w.heap.size]?= some (.cells hc 114 (0,0))
 d:Boxed W (w.heap.size+1) 3 (.int .i64 day)
 r:Boxed W (w.heap.size+1+1) 4 (.bool false)
 s:Boxed W Bs 126 sv
 bel:Below w.heap.size w W
 sz:Bs+1<=W.heap.size
 no:∀ k∈pre,is k.1=false
structure TuX (w:World) (is dy:Nat->Bool) (c:Code) (pre:List (Fin len)) (W:World):Prop where
 ret:c=.ret
 res:∃ ini k,pre=ini++[k]/\(∀ k∈ini,is k.1=false)/\is k.1=true/\Boxed W (w.heap.size+1+1) 4 (.bool (dy k.1))
 bel:Below w.heap.size w W
def zqy{i:Array Value}{f:Nat}{n:Value}{l:Nat->Bool}(g:w.heap.size<=B):OwnFrom B (λ(c:List (Fin len)) W=>TuI w i day f n l c W):=λc X o m h a b=>⟨tu h.h0 a b,ku h.d a b,ku h.r a b,ku h.s a b,h.bel.grown a h.bel.size (λk e=>ueq g (b k e).1),ueq h.sz a.size,h.no⟩
def zqz{p g:Nat->Bool}(o:w.heap.size<=B)(c:Code):OwnFrom B (λ(a:List (Fin len)) W=>TuX w p g c a W):=λa X s r h d f=>by obtain⟨b,k,i,l,m,n⟩:=h.res;exact⟨h.ret,⟨b,k,i,l,m,ku n d f⟩,h.bel.grown d h.bel.size (λk e=>ueq o (f k e).1)⟩
def qj3(b c:Nat->Bool)(a:Nat)(e:Ending):Prop:=
 (e=.returned (.bool Y)/\∀ k,k<a->b k=Y) \/ ∃ k,k<a/\b k=Z/\(∀ j,k<j->j<a->b j=Y)/\e=.returned (.bool (c k))
abbrev fU(g:Nat->Int)(a:Option Addr)(e c:Nat)(b:Option Addr)(f d:Nat):Array Value:=#[.int .i64 (g 0),.int .i64 (g 1),.int .i64 (g 2),.int .i64 (g 3),.int .i64 (g 4),.int .i64 (g 5),.int .i64 (g 6),.int .i64 (g 7),.slice a e c,.slice b f d]
def qda{R:Ending->World->Prop}{D z:Nat}{A B C E F G H K L a b c d e f g h i k l m n p s t u w x y:Value}(Q:Boxed W (z+1+1) 4 v)(N:W.heap[D]?= U (.deferred (U [])))(S:z+3<=D)(O:R (.returned v) (W.putObj D (.deferred V))):
  bodyPostM Fence.wide 8 prog f63 R .ret { tmps:=#[A,B,C,E,.pointer (U ⟨z+1+1,0,V⟩),F,G,H,K,L,a,b,c,d,e,f,g,h,i,k,l,m,n,p,s,t,u,w,x,y],defers:=[{ target:=.collected D,args:=#[] }] } W:=by
 have P:Boxed (W.putObj D (.deferred V)) (z+1+1) 4 v:=(World.putObj_heap_other (r:=D) (o:=.deferred V) (by omega)).trans Q;have M:=P.cell;refine⟨by simp,.inl ⟨_,_,rfl,run_takeDeferred N,?_⟩⟩;refine⟨v,?_,O⟩;simp[results,results63,go_sem,M]
def zq2 (g:Nat->Int) (O:Option Addr) (l1 P:Nat) (L:Option Addr) (F Q b2 B:Nat) (c:Nat->ChC) (y:Int) (w:World) (hl2:F<=1000000) (hA2:0<F->L=U ⟨b2,B,V⟩/\b2<w.heap.size)
  (hc2:∀ k j u,k<F->(dZ (c k))[j]?= U u->w.cell? ⟨b2,B+(k*9+j),V⟩=U u)
  (v:Nat->Nat) (a:Nat) (hlen:a<=1000000) (hol:∀ k,k<a->v k<F)
  (hO:∀ W,Below w.heap.size w W->Calls prog 97 #[.agg (fU g O l1 P L F Q)] W λe w'=>∃ (A:Option Addr) (n b off:Nat),e=.returned (.slice A a n)/\Below W.heap.size W w' /\
   (0<a->A=U ⟨b,off,V⟩/\b<w'.heap.size)/\∀ k,k<a->w'.cell? ⟨b,off+k,V⟩=U (.int .i64 (v k:Int))) :
  CallsIn Fence.wide 8 prog 63 #[.agg (fU g O l1 P L F Q),.int .i64 y] w λe w'=>qj3 (λk=>(c (v k)).p 2==3 || (c (v k)).p 2==4) (λk=>decide ((c (v k)).p 1<=y)) a e/\Below w.heap.size w w':=by
 refine callsIn_of_wp_marks func63 rfl trivial ?_ rfl;simp only[ntmps63,ucq,uda,udm,Nat.reduceAdd,Nat.reduceSub,ubn,ubo,ucy,ubx,udn,uc5];obtain⟨C,H,M⟩:=wB [.cells (fU g O l1 P L F Q) 114,.cells #[.int .i64 y] 3,.cells #[.bool false] 4] w;have HO:=Lib.hid (hO _ C);have HB:=Lib.hid C;replace H:_=w.heap.size+3:=H;have HZ:=Lib.hid H;have HQ:=Lib.hid M;have HC:=Lib.hid hc2;clear hc2 hO M C H;unfold fU
 gi_wp2_with (first
  |(refine⟨uT,?_⟩;gi_at_call 97;refine(callsIn_wide.2 HO.out).mono ?_;rintro e x ⟨A,n,b,off,rfl,T,hA,hcl⟩)
  |(refine⟨uT,?_⟩;gi_at_call 96;refine(qlv _ _ _ _ _).mono ?_;rintro e w' ⟨rfl,rfl⟩))
 have hw1:Below w.heap.size w x:=HB.out.trans (T.mono HB.out.size);have hz1:w.heap.size+3<=x.heap.size:=by have:=T.size;have:=HZ.out;omega
 have hbb:Below x.heap.size x (x.alloc (.cells #[.slice A a n] 126)):=(ufn _ x).alloc (ufd _) _;have hbs:=World.alloc_heap_new x (.cells #[.slice A a n] 126);have hsz0:(x.alloc (.cells #[.slice A a n] 126)).heap.size=x.heap.size+1:=by simp
 generalize x.alloc (.cells #[.slice A a n] 126)=W0 at *;have hb0:=hw1.trans (hbb.mono hw1.size);have ee:∀ i o,i<3->_->W0.heap[w.heap.size+i]?= U o:=λi o f h=>(hbb.block _ (by omega)).trans ((T.block _ (by have:=HZ.out;omega)).trans (HQ.out i o h));have hI0:TuI w (fU g O l1 P L F Q) y x.heap.size (.slice A a n) (λk=>(c (v k)).p 2==3 || (c (v k)).p 2==4) ([]:List (Fin a)) W0:=⟨ee 0 _ (by decide) rfl,ee 1 _ (by decide) rfl,ee 2 _ (by decide) rfl,hbs,hb0,by omega,λk hk=>by cases hk⟩;refine wpIn_rangeFunc_ownH rfl (by omega) (gf:=154) (lb:=#[.pointer (U ⟨x.heap.size,0,V⟩)]) rfl trivial (enters_of func154 (by kernel_rfl) rfl)
  (α:=Fin a) (encs:=λ(k:Fin a)=>#[.int .i64 ((k.1:Nat):Int),.int .i64 (v k.1:Int)]) (Kp:=cU x.heap.size x.heap.size x.heap.size) (S:=λys=>ys.map Fin.val=jO (λj=>a-1-j) a) (Sp:=λt=>∃ k,k<=a/\t.map Fin.val=jO (λj=>a-1-j) k) (N:=a) (w0:=W0)
  (λl J Jx W hW _ _ hY h0=>qlt 7 (by omega) l x.heap.size x.heap.size b off a n (λk=>(v k:Int)) hlen A hA J Jx hY W ((hW.block _ (by omega)).trans hbs) (λk hk=>((hbb.trans (hW.mono (by omega))).cell (p:=⟨b,off+k,V⟩) (hA (by omega)).2).trans (hcl k hk)) h0)
  (λh k=>h.trans k) (λW l o o' hl ho hoc how=>⟨belowK_b (w:=x) (ufd _) W l o o' (by omega) ho hoc how,World.putObj_heap_other (by omega),World.putObj_heap_other (by omega)⟩) (ufn _ _)
  (by intro _;rfl)
  (λt W=>TuI w (fU g O l1 P L F Q) y x.heap.size (.slice A a n) (λk=>(c (v k)).p 2==3 || (c (v k)).p 2==4) t W)
  (λcd t W=>TuX w (λk=>(c (v k)).p 2==3 || (c (v k)).p 2==4) (λk=>decide ((c (v k)).p 1<=y)) cd t W)
  (zqy (by omega)) (zqz (by omega)) hI0
  (λk a' _=>a' = { tmps:=#[.agg #[.int .i64 (g 0),.int .i64 (g 1),.int .i64 (g 2),.int .i64 (g 3),.int .i64 (g 4),.int .i64 (g 5),.int .i64 (g 6),.int .i64 (g 7),.slice O l1 P,.slice L F Q],.int .i64 y,.pointer (U ⟨w.heap.size,0,V⟩),.pointer (U ⟨w.heap.size+1,0,V⟩),.pointer (U ⟨w.heap.size+1+1,0,V⟩),undef,.int .i64 (v k.1:Int),undef,.agg #[.int .i64 (g 0),.int .i64 (g 1),.int .i64 (g 2),.int .i64 (g 3),.int .i64 (g 4),.int .i64 (g 5),.int .i64 (g 6),.int .i64 (g 7),.slice O l1 P,.slice L F Q],.slice A a n,.func (.func 154) #[] #[.pointer (U ⟨x.heap.size,0,V⟩)],.int .i64 (k.1:Int),.int .i64 (v k.1:Int),undef,undef,undef,undef,undef,undef,undef,undef,undef,undef,undef,undef,undef,undef,undef,undef,undef],defers:=[] })
  (λk a'=>λ_ X Y row h _ _=>h) ?assign ?body ?done ?stop
 case assign=>
  rintro l t ⟨k,G⟩ W K f R
  gi_wp2
  exact R _ _ (KeepsFrom.refl _ _) (cU.refl _ _ _ _) f rfl
 case body=>
  rintro l t ⟨k,G⟩ a' W hl ⟨r,hr⟩ f rfl hlt;have hk2:=hol k G;obtain⟨rfl,hb2⟩:=hA2 (by omega);have hcx:∀ j,j<9->W.cell? ⟨b2,B+v k*9+j,V⟩=U ((dZ (c (v k))).getD j undef):=λj hj=>by rw[uei];exact(f.bel.cell (p:=⟨b2,B+(v k*9+j),V⟩) hb2).trans (HC.out (v k) j _ hk2 (by match j,hj with|0,_|1,_|2,_|3,_|4,_|5,_|6,_|7,_|8,_=>rfl))
  obtain⟨x0,x1,x2,x3,x4,x5,x6,x7,x8⟩:=uM hcx;rw[ue0]at x0;simp[dZ]at x0 x1 x2 x3 x4 x5 x6 x7 x8;have z0:=cn f.h0 9;simp at z0;have zd:=f.d.cell;have zr:=f.r.cell;have zf:=f.r.frozen;have hsz1:=f.sz;have n1:w.heap.size+1≠W.heap.size:=by omega
  have n2:w.heap.size+1+1≠W.heap.size:=by omega
  have za:∀ o,(W.alloc o).cell? ⟨w.heap.size+1,0,V⟩=U (.int .i64 y):=λo=>(((ufn _ W).alloc (ufd _) o).cell (p:=⟨w.heap.size+1,0,V⟩) (by show w.heap.size+1<W.heap.size;omega)).trans zd;have zb:∀ o,(W.alloc o).heap[w.heap.size+1+1]?= U (.cells #[.bool false] 4 (0,0)):=λo=>(udc W o (w.heap.size+1+1) (by omega)).trans f.r;have zc:∀ o,(W.alloc o).cell? ⟨w.heap.size+1+1,0,V⟩=U (.bool false):=λo=>cn (zb o) 0;have zg:∀ o,(W.alloc o).frozen? ⟨w.heap.size+1+1,0,V⟩=false:=λo=>by simp[World.frozen?,zb]
  clear hcx hr
  gi_wp2
  refine⟨((KeepsOthers.alloc _ _).trans (KeepsOthers.setCell _ _ _)).from _,rfl,⟨t,⟨k,G⟩,rfl,f.no,?_,(show Boxed (W.alloc _) _ _ _ from zb _).set _⟩,(f.bel.alloc f.bel.size _).setCell (by show w.heap.size<=w.heap.size+1+1;omega) _⟩
  simp_all
  refine⟨((KeepsOthers.alloc _ _).trans (KeepsOthers.setCell _ _ _)).from _,rfl,⟨t,⟨k,G⟩,rfl,f.no,?_,(show Boxed (W.alloc _) _ _ _ from zb _).set _⟩,(f.bel.alloc f.bel.size _).setCell (by show w.heap.size<=w.heap.size+1+1;omega) _⟩
  simp_all
  refine⟨(KeepsOthers.alloc _ _).from _,cU.below ((ufn _ W).alloc (ufd _) _) (by omega) (by omega) (by omega),(udc _ _ _ (by omega)).trans f.h0,f.d.alloc _,f.r.alloc _,f.s.alloc _,f.bel.alloc f.bel.size _,by simp;omega,λq M=>?_⟩;refine(udt.1 M).elim (f.no q) (λe=>?_);have e2:=ucf.1 e;subst e2
  simp_all
 case done=>
  rintro D zs W hD hzs f R;have zr:=f.r.cell;have zf:=f.r.frozen
  gi_wp2
  refine qda (z:=w.heap.size) (f.r.set (.bool false)) ((KeepsOthers.setCell W _ _).same D _ R rfl) (by omega) ⟨.inl ⟨rfl,λk hk=>?_⟩,?_⟩;have hm:k∈zs.map Fin.val:=by rw[hzs];exact ufa.2 ⟨a-1-k,uea.2 (by omega),by show a-1-(a-1-k)=k;omega⟩
  obtain⟨q,M,rfl⟩:=ufa.1 hm;exact f.no q M;have hb:=f.bel.setCell (p:=⟨w.heap.size+1+1,0,V⟩) (by show w.heap.size<=w.heap.size+1+1;omega) (.bool false);exact hb.trans (belowK_b (w:=w) (ufd _) _ D _ _ (by omega) ((KeepsOthers.setCell W _ _).same D _ R rfl) rfl rfl)
 case stop=>
  rintro D cd t W hD ⟨m,hm,E⟩ h R;obtain rfl:=h.ret
  gi_wp2
  obtain⟨ini,k,e1,e2,e3,e4⟩:=h.res;refine qda (z:=w.heap.size) e4 R (by omega) ⟨.inr ⟨k.1,k.2,e3,λj hj1 hj2=>?_,rfl⟩,h.bel.trans (belowK_b (w:=w) (ufd _) _ D _ _ (by omega) R rfl rfl)⟩;subst e1;have hl:=ufy List.length E;rw[FM,ud3,ub6]at hl;obtain rfl:m=ini.length+1:=by simpa using hl.symm
  rw[xG,udx]at E;obtain⟨h2,h3⟩:=List.append_inj' E rfl;have hlast:k.1=a-1-ini.length:=by simpa using h3
  have hin:j∈(ini.map Fin.val):=by rw[h2];exact ufa.2 ⟨a-1-j,uea.2 (by omega),by show a-1-(a-1-j)=j;omega⟩
  obtain⟨q,M,rfl⟩:=ufa.1 hin;exact e2 q M
end
def PP(h:aD.q)(a:Int):Bool:=match j8 h (bV h) (bV h).length with
 |some k=>J ((cw h k).2.1<=a)
 |none=>Y
def Ku:Ct:=⟨[.d aD,.d i64],[.bool],λx=>(PP x.1 x.2.1,()),λx=>[((aO x.1).length:Int)<=1000000]⟩
def qdc{h:aD.q}:(n:Nat)->(∀ k,k<n->mX (cw h (l.getD k 0))=Y)->j8 h l n=V
 |0,_=>rfl
 |n+1,a=>by unfold j8;rw[uf1 (by rw[a n (Nat.lt_succ_self n)];decide)];exact qdc n λk b=>a k (Nat.lt_succ_of_lt b)
def qdd{h:aD.q}{k:Nat}(a:mX (cw h (l.getD k 0))=Z):(n:Nat)->k<n->(∀ j,k<j->j<n->mX (cw h (l.getD j 0))=Y)->j8 h l n=U (l.getD k 0)
 |0,c,_=>absurd c (Nat.not_lt_zero _)
 |n+1,g,b=>by unfold j8;by_cases e:k=n;subst e;rw[uf0 a];rw[uf1 (by rw[b n (by omega) (Nat.lt_succ_self n)];decide)];exact qdd a n (by omega) λj d f=>b j d (Nat.lt_succ_of_lt f)
def zq3:ag prog 63 Ku:=by
 refine⟨enters_of func63 (by kernel_rfl) rfl,λw F xs vs g hr r=>?_⟩;obtain⟨h,o,_⟩:=xs;obtain⟨v,vs',rfl,t,hn⟩:=hr;obtain⟨rfl,hd⟩:=W5 hn;have t:bJ w F aD h v:=t;have hvO:=t;obtain⟨cs,rfl⟩:=t.2.1.1 rfl;have hs:cs.size=10:=t.1;obtain⟨h0,L,⟨⟨s0,s1,_⟩,⟨r0,r1,r2,r3,_⟩,⟨A1,c1,M,_⟩,_⟩,⟨E,G,N,s⟩,_⟩:=t.2.2;obtain⟨A,cap,b,off,c,e1,hA,hc,hx⟩:=Tn (w:=w) (F:=F) (l:=aO h) (v:=.slice E (aO h).length G) ⟨E,G,rfl,s⟩;cases e1;have r:((aO h).length:Int)<=1000000:=r;have P:cs=fU (λj=>match j with|0=>h.1|1=>h.2.1|2=>h.2.2.1.1.1|3=>h.2.2.1.1.2.1|4=>h.2.2.1.2.1.1|5=>h.2.2.1.2.1.2.1|6=>h.2.2.1.2.1.2.2.1|_=>h.2.2.1.2.1.2.2.2.1) A1 (List.length (α:=ar.q) h.2.2.1.2.2.1) c1 E (aO h).length G:=by
  apply ufs;exact hs;intro i R S
  match i,R,S with
  |0,h,_=>exact ud4 ((uam h).symm.trans h0.1)
  |1,h,_=>exact ud4 ((uam h).symm.trans L.1)
  |2,h,_=>exact ud4 ((uam h).symm.trans s0.1)
  |3,h,_=>exact ud4 ((uam h).symm.trans s1.1)
  |4,h,_=>exact ud4 ((uam h).symm.trans r0.1)
  |5,h,_=>exact ud4 ((uam h).symm.trans r1.1)
  |6,h,_=>exact ud4 ((uam h).symm.trans r2.1)
  |7,h,_=>exact ud4 ((uam h).symm.trans r3.1)
  |8,h,_=>exact ud4 ((uam h).symm.trans M)
  |9,h,_=>exact ud4 ((uam h).symm.trans N)
 subst P;have hlen:(bV h).length=(aO h).length:=GQ h;have m:∀ k,k<(bV h).length->((((bV h).getD k 0).toNat:Nat):Int)=(bV h).getD k 0/\((bV h).getD k 0).toNat<(aO h).length/\(bV h)[k]?= U ((bV h).getD k 0):=λk a=>by
  have e:(bV h).getD k 0=(bV h)[k]:=by rw[uah,uaq a];rfl
  have hm:=Cp (h:=h) (x:=(bV h).getD k 0) (by rw[e];exact udj a);exact⟨by omega,by omega,by rw[e];exact uaq a⟩
 have z:∀ k,k<(bV h).length->(c ((bV h).getD k 0).toNat).p 1=(cw h ((bV h).getD k 0)).2.1/\(c ((bV h).getD k 0).toNat).p 2=(cw h ((bV h).getD k 0)).2.2.1:=λk a=>by
  have n:=(m k a).2.1;obtain⟨_,hsl,B⟩:=hx _ _ (uaq n);have e:cw h ((bV h).getD k 0)=(aO h)[((bV h).getD k 0).toNat]:=by show(aO h).getD _ _=_;rw[uah,uaq n];rfl
  obtain⟨_,_,_,q1,q2,_⟩:=B (_,_,_) w F hsl;have q1':U (Value.int .i64 ((c ((bV h).getD k 0).toNat).p 1))=U (.int .i64 _):=q1.1;have q2':U (Value.int .i64 ((c ((bV h).getD k 0).toNat).p 2))=U (.int .i64 _):=q2.1;rw[e];exact⟨(Value.int.inj (ud4 q1')).2,(Value.int.inj (ud4 q2')).2⟩
 have key:=zq2 _ A1 _ c1 E (aO h).length G b off c o w (by omega) (λy=>⟨(hA y).1,g b (hA y).2⟩) hc (λk=>((bV h).getD k 0).toNat) (bV h).length (by omega) (λk a=>(m k a).2.1) (λW hW=>by have hx':=hvO.mono (λ_ h=>h) (λb f=>hW.block b (g b f));refine(Ox.2 W F (h,()) [_] (λb f=>ucb (g b f) hW.size) ⟨_,[],rfl,hx',rfl⟩ r).mono ?_;rintro e w' ⟨u,F',rfl,d,g1,g2,g3⟩;have g4:aK prog w' F' (λ_ _=>True) (eR aP (bV h)) u:=iH g3;obtain⟨K,H,rfl,g5⟩:=g4.2;obtain⟨A4,c4,e4,_,_,g6⟩:=Ps (w:=w') (F:=F') (l:=bV h) (v:=.slice K (bV h).length H) ⟨K,H,rfl,g5⟩;cases e4;by_cases y:0<(bV h).length;obtain⟨b3,D,rfl,Q,O⟩:=g6 y;exact⟨_,H,b3,D,rfl,d,λ_=>⟨rfl,(g2 b3 Q).2⟩,λk a=>by rw[(m k a).1];exact(O k _ (m k a).2.2).1⟩;exact⟨K,H,0,0,rfl,d,λh=>absurd h y,λk a=>absurd a (by omega)⟩)
 refine(callsIn_wide.1 key).mono ?_;rintro e w' ⟨he,d⟩;have C:e=.returned (.bool (PP h o)):=by
  have f:∀ k,k<(bV h).length->((c ((bV h).getD k 0).toNat).p 2==3 || (c ((bV h).getD k 0).toNat).p 2==4)=mX (cw h ((bV h).getD k 0)):=λk a=>by rw[(z k a).2];rfl
  unfold PP;rcases he with ⟨rfl,hno⟩|⟨k,a,T,n,rfl⟩
  rw[qdc _ λk a=>(f k a).symm.trans (hno k a)];rw[qdd ((f k a).symm.trans T) _ a λj L h2=>(f j h2).symm.trans (n j L h2)];show Ending.returned (.bool (J ((c ((bV h).getD k 0).toNat).p 1<=o)))=_;rw[(z k a).1]
 subst C;exact⟨_,F,rfl,d,λ_ h=>h,λb f=>⟨.inl f,ucb (g b f) d.size⟩,rfl,⟨λh=>(by cases h),λh=>(by obtain⟨_,h⟩:=h;cases h)⟩,rfl⟩
abbrev p7:Pt:=⟨73,0,⟨[(3,.d i64)],[.x 1 140 aU,.r 1 1 0]⟩,⟨[],[.x 1 140 aU,.r 1 1 0]⟩,⟨[(2,.d .bool)],[]⟩⟩
def J2(v:aU.q):List Int:=[v.2.1.1,v.2.1.2.1,v.2.1.2.2.1,v.2.1.2.2.2.1]
def f7(x:p7.M.X):Fr p7.Out:=
 let k:Int:=x.1.1;let v:aU.q:=x.2.1
 Jb (J (k<4))
  (Jd (0<=k/\k<((4:Nat):Int)) (Jd (J ((J2 v).getD k.toNat 0<0)=Y->0<=k/\k<((4:Nat):Int))
   (Jb (bif J ((J2 v).getD k.toNat 0<0)then Z else J ((J2 v).getD k.toNat 0>100000)) (Jv (Rd.back ((Y,()),()))) (Jv (Rd.next ((I6.wrap (k+1),()),(v,())))))))
  (Jv (Rd.out ((),(v,()))))
abbrev p9:Pt:=⟨85,0,⟨[(10,.d i64),(8,.d aP),(9,.d i64)],[.x 3 140 aU,.r 3 3 0]⟩,⟨[(9,.d i64)],[.x 3 140 aU,.r 3 3 0]⟩,⟨[(6,.d i64),(7,.d i64)],[]⟩⟩
def qia:Cx:=cx [(60,iE),(61,pw),(62,qU),(63,Ku)] []
def qib:CxOK prog qia:=aQ aH ⟨GP,RP,Xp,zq3,uT⟩ trivial
def F8(x:ap [.d aD,.d bh,.d i64]):Fr (aa [i64,i64]):=
 Jd (cj x.1) (Jd (bf (x.2.1.1,())) (Jb ((iE.f (x.1,(x.2.1.1,()),())).2.1 != 0) (Jv (0,(iE.f (x.1,(x.2.1.1,()),())).2.1,())) (Jb ((pw.f ((iE.f (x.1,(x.2.1.1,()),())).1,I6.wrap ((if 292194<x.2.2.1 then 292194 else x.2.2.1)+1),())).2.1 != 0) (Jv (0,(pw.f ((iE.f (x.1,(x.2.1.1,()),())).1,I6.wrap ((if 292194<x.2.2.1 then 292194 else x.2.2.1)+1),())).2.1,())) (Jd (cj x.1) (Jd (bf (x.2.1.1,())) (Jb ((qU.f (x.1,(x.2.1.1,()),())).2.1 != 0) (Jv (0,(qU.f (x.1,(x.2.1.1,()),())).2.1,())) (Jd (((aO x.1).length:Int)<=1000000) (Jb (Ku.f (x.1,x.2.2.1,())).1 (Jv (I6.wrap ((pw.f ((iE.f (x.1,(x.2.1.1,()),())).1,I6.wrap ((if 292194<x.2.2.1 then 292194 else x.2.2.1)+1),())).1+(qU.f (x.1,(x.2.1.1,()),())).1),0,())) (Jv ((pw.f ((iE.f (x.1,(x.2.1.1,()),())).1,I6.wrap ((if 292194<x.2.2.1 then 292194 else x.2.2.1)+1),())).1,0,()))))))))))
def qut:ag prog 40 ⟨[.d aD,.d bh,.d i64],[i64,i64],λxs=>(F8 xs).get,λxs=>[(F8 xs).ok]⟩:=
 cF qib (Λ:=bK) (fn:=f40) (aY [.d aD,.d bh,.d i64]) (by kernel_rfl) (λc E _=>bm c 0) (λx=>by kernel_rfl)
def EP:Ct:=⟨[.d aD,.d bh,.d i64],[i64,i64],λx=>(F8 x).get,λx=>[cj x.1,bf x.2.1]⟩
def qm6:ag prog 40 EP:=cq qut _ (λx e a=>by
 have b:cj x.1:=a.1;have c:bf x.2.1:=a.2;have d:((aO x.1).length:Int)<=1000000:=by have:=b.1;omega
 exact⟨b,c,λ_=>uT,λ_=>⟨λ_=>uT,λ_=>⟨b,c,λ_=>uT,λ_=>⟨d,λ_=>uT,λ_=>uT⟩⟩⟩⟩)
def kW(d:bQ.q)(e:Int):dX.q:=
 let g:=λ(k:Int)=>(yi d).getD (Int.toNat k) 0
 let W:=I6.wrap
 (0,W (W (g 1-g 2)+g 3),W (g 0-g 1),W (e-g 0),W (0-e),W (g 2-g 3),W (0-g 4),g 4,g 5,W (0-g 5),())
def Lr(f:ae.q)(d:bQ.q)(e i:Int):Fr (aa [aW]):=
 cT (InK 9 0 9) (zhe (kW d e,f.1,i,aW.j) []) (qym (kW d e,f.1,i,aW.j) []) (λs=>Jv ((f.1,i,s,()),()))
def Fr.in6(t:Fr α):List Int->Fr α
 |[]=>t
 |k::l=>Jd (0<=k/\k<6) (Fr.in6 t l)
def qd7{Q:α->Prop}{t:Fr α}(h:t.s7 Q):(l:List Int)->(∀ k∈l,0<=k/\k<6)->(Fr.in6 t l).s7 Q
 |[],_=>h
 |k::l,a=>⟨a k ucc,qd7 h l λx b=>a x (ubj _ b)⟩
def tY(x:ap [.d ae,.d bQ,.d i64]):Fr (aa [aW]):=
 Fr.in6 (Jb (x.1.2.1==6) (Lr x.1 x.2.1 x.2.2.1 x.1.2.2.2.2.2.2.2.2.2.1.1) (Lr x.1 x.2.1 x.2.2.1 x.1.2.2.1)) [1,2,3,0,1,0,2,3,4,4,5,5]
def quu:ag prog 36 (bg [.d ae,.d bQ,.d i64] [aW] tY):=
 cZ aL zee (fn:=f36)
def UD(y:aa [aW]):Prop:=List.length (α:=bD.q) y.1.2.2.1<=9
def Um(f:ae.q)(d:bQ.q)(e i:Int):(Lr f d e i).s7 UD:=
 ii (A:=λ(s:List bD.q)=>s.length<=9) ⟨rfl,by decide,by decide,by decide⟩
  (dK (step:=nz (kW d e,f.1,i,aW.j) True) (λj (s:List bD.q)=>s.length<=j) (Lrp 9 ()) (λj e s b a=>by have c:=Yv b;have g:=fI;refine⟨qd5 c,λ_=>⟨?_,?_⟩,λ_=>uc4 a⟩;show s.length+1<=maxLen/\(s.length+1)*16<=140737488355328;omega;show(s++[_]).length<=j+1;rw[ub6];exact udk a) [] (ufd _)) (λ_ a=>a)
def Ur(x:ap [.d ae,.d bQ,.d i64]):(tY x).s7 UD:=qd7 (t:=Jb _ _ _) ⟨λ_=>Um _ _ _ _,λ_=>Um _ _ _ _⟩ _ (by decide)
def ER:Ct:=⟨[.d ae,.d bQ,.d i64],[aW],λx=>(tY x).get,λ_=>[]⟩
def qm7:ag prog 36 ER:=cq quu _ (λx _ _=>(dt (Ur x)).1)
def qry(x:ap [.d ae,.d bQ,.d i64]):List.length (α:=bD.q) (ER.f x).1.2.2.1<=9:=(dt (Ur x)).2
def TB:List (FuncId×Ct):=[(40,EP)]
def qic:Cx:=dI TB [] (iJ prog (cx [] []) Jp)
def QT:CxOK prog qic:=dP (cs:=TB) aH ⟨qm6,uT⟩ trivial (jt mM (nD (by kernel_rfl) sP))
abbrev C8:Pt:=⟨38,0,⟨[(14,.d i64),(13,.d i64),(12,.d (.sl bn)),(1,.d i64)],[.x 2 59 ak,.r 2 2 0,.x 6 111 cO,.r 6 6 0]⟩,⟨[],[.x 6 111 cO,.r 6 6 0]⟩,⟨[(4,.d i64),(5,.d i64)],[]⟩⟩
abbrev Nz:Type:=Int×List bn.q×Int×ak.q
def Fm(k:Nz)(e:bn.q):aa [i64,i64]:=EP.f (e.1,k.2.2.2.1,k.2.2.1,())
def vN(k:Nz)(b:Prop)(_i:Int)(e:bn.q)(s:cO.q):Fr (cO.q ⊕ C8.R.X):=
 Jd b (Jd (cj e.1) (Jd (bf k.2.2.2.1) (Jb ((Fm k e).2.1 != 0) (Jv (.inr ((0,(Fm k e).2.1,()),())))
  (nE (λa=>Jv (.inl a)) (qL 0 (Fm k e).1 s)))))
def qjc:C8.M.X->Fr C8.Out:=FK (λx=>(x.1.1,(x.1.2.1,x.1.2.2.1,x.1.2.2.2.1,x.2.1),x.2.2.1)) (λk=>k.1) (λk=>k.2.1) vN (λ_ s=>((),s,())) (λ_ y=>Rd.back y) cO.j (aY _,cf _)
def zed:af prog (.loop (au f17 0)) C8.M C8 qjc:=
 lG QT (λi k s=>((i,k.1,k.2.1,k.2.2.1,()),k.2.2.2,s,())) bn.j
def uz(b:ak.q)(a:Int):Nz:=((List.length (α:=bn.q) b.2.1:Int),b.2.1,a,b)
def LR(x:ap [.d ak,.d i64]):Fr (aa [i64,i64]):=
 iS (InK (List.length (α:=bn.q) x.1.2.1:Int) 0 (List.length (α:=bn.q) x.1.2.1)) (eI (vN (uz x.1 x.2.1) True) 0 x.1.2.1 cO.j) (bC (vN (uz x.1 x.2.1) True) 0 x.1.2.1 cO.j) cO.j (aY _,cf _)
  (λs=>Jb s.2.1 (Jv (0,5,())) (Jd ((0:Int)<=0/\0<(6:Int)) (Jv ((yi s.1).getD (Int.toNat 0) 0,0,())))) (λy=>Jv y.1)
def qum:ag prog 17 (bg [.d ak,.d i64] [i64,i64] LR):=
 cZ QT zed (fn:=f17)
def qro(b:ak.q)(a:Int)(c:bi b):eI (vN (uz b a) True) 0 b.2.1 cO.j:=
 (o5 (step:=vN (uz b a) True) (λ_ _=>True) (λ_=>True) b.2.1 (λi e s d _=>⟨uT,c.2.2.2 e (ubg d),c.1,λ_=>uT,λ_=>sR (Fr.satP_mono (λf _=>uT) (tg (by decide)))⟩) cO.j trivial).1
def EM:Ct:=⟨[.d ak,.d i64],[i64,i64],λx=>(LR x).get,λx=>[bi x.1]⟩
def ST:ag prog 17 EM:=cq qum _ (λx _ a=>sS (eU (ueq a.2.1 (by decide))) (qro x.1 x.2.1 a) (λs=>⟨λ_=>uT,λ_=>⟨by decide,uT⟩⟩) (λ_=>uT))
def TC:List (FuncId×Ct):=[(35,A7),(34,tx),(23,AM),(17,EM),(36,ER),(37,ir bD),(38,Ky),(39,K2)]
def QU:Cx:=cx TC []
def DP:CxOK prog QU:=aQ (cs:=TC) aH ⟨Yo,Lj,K0,ST,qm7,qk5,qm5,qnd,uT⟩ trivial
abbrev JA:List (Nat×PT):=[(28,.d i64),(27,.d i64),(26,.d (.sl ae)),(1,.d i64),(8,.d i64)]
abbrev Sz:List MI:=[.x 4 52 bq,.r 4 4 0,.x 6 52 bq,.r 6 6 0,.x 7 76 bQ,.r 7 7 0,.x 9 59 ak,.r 9 9 0]
abbrev S0:List MI:=Sz++[.x 11 46 ae,.r 11 11 0,.x 14 76 bQ,.r 14 14 0,.x 19 76 bQ,.r 19 19 0]
abbrev yX:Pt:=⟨110,2,⟨(72,.d i64)::JA++[(16,.d i64)],S0⟩,⟨JA++[(16,.d i64)],S0⟩,⟨[],[]⟩⟩
abbrev xX:Type:=(Int×Int×List ae.q×Int×Int×Int)×bq.q×bq.q×bQ.q×ak.q×ae.q×bQ.q
def Ig(k:xX)(_b:Prop)(i:Int)(_e:Unit)(d:bQ.q):Fr bQ.q:=
 let a:=Int.toNat i;Jd (0<=i/\i<(6:Int)) (Jd (0<=i/\i<(6:Int)) (Jd (0<=i/\i<(6:Int)) (Jv (qa9 d i (I6.wrap ((yi k.2.2.2.2.2.2).getD a 0-(yi k.2.2.2.1).getD a 0))))))
def R8:yX.M.X->Fr yX.Out:=FG (λx=>(x.1.1,((x.1.2.1,x.1.2.2.1,x.1.2.2.2.1,x.1.2.2.2.2.1,x.1.2.2.2.2.2.1,x.1.2.2.2.2.2.2.1),x.2.1,x.2.2.1,x.2.2.2.1,x.2.2.2.2.1,x.2.2.2.2.2.1,x.2.2.2.2.2.2.1),x.2.2.2.2.2.2.2.1)) (λ_=>6) (λ_=>Lrp 6 ()) Ig
 (λ(k:xX) d=>((k.1.1,k.1.2.1,k.1.2.2.1,k.1.2.2.2.1,k.1.2.2.2.2.1,k.1.2.2.2.2.2,()),(k.2.1,k.2.2.1,k.2.2.2.1,k.2.2.2.2.1,k.2.2.2.2.2.1,k.2.2.2.2.2.2,d,())))
def WN:Code:=((Go.Ab.loopB (au f15 0) 0).getD .skip)
def zfi:af prog (.loop WN) yX.M yX R8:=
 cX DP (λi (k:xX) d=>((i,k.1.1,k.1.2.1,k.1.2.2.1,k.1.2.2.2.1,k.1.2.2.2.2.1,k.1.2.2.2.2.2,()),(k.2.1,k.2.2.1,k.2.2.2.1,k.2.2.2.2.1,k.2.2.2.2.2.1,k.2.2.2.2.2.2,d,()))) ()
def zs4(a:Gm):St->Option Tr:=yX.han a yX.M R8
abbrev ka:Pt:=⟨110,0,⟨JA,Sz⟩,⟨[],[.x 4 52 bq,.r 4 4 0,.x 6 52 bq,.r 6 6 0]⟩,⟨[(5,.d i64)],[.x 4 52 bq,.r 4 4 0]⟩⟩
abbrev pZ:Type:=Int×List ae.q×Int×bq.q
abbrev cr:Type:=bq.q×bQ.q×Int×ak.q
def ec(a:ak.q)(f:ae.q):aa [ak,i64]:=tx.f (a,f,())
def cW(a:ak.q):aa [bQ,i64]:=AM.f (a,())
def mO(a:ak.q)(d:Int):aa [i64,i64]:=EM.f (a,d,())
def eQ(f:ae.q)(d:bQ.q)(m:Int):aW.q:=(ER.f (f,d,m,())).1
def mu(b:bq.q)(x:aW.q):aa [bq,i64]:=K2.f (b,x,())
def Sv(x:aW.q):Bool:=((ir bD).f (x.2.2.1,λy=>Ky.f y,())).1
def rQ(e:Int):cr ⊕ ka.R.X:=.inr ((e,()),bq.j,())
def u9(k:pZ)(i:Int)(f:ae.q)(s:cr)(a:ak.q)(m b:Int):xX:=((i,k.1,k.2.1,k.2.2.1,b,m),k.2.2.2,s.1,s.2.1,a,f,(cW a).1)
def zhb(k:xX):Prop:=bY (Ig k True) 0 (Lrp 6 ()) bQ.j
def BM(k:xX):bQ.q:=bw (Ig k True) 0 (Lrp 6 ()) bQ.j
def nq(k:pZ)(i:Int)(f:ae.q)(s:cr)(a:ak.q)(m b:Int):Fr (cr ⊕ ka.R.X):=
 cT (InK 6 0 6) (zhb (u9 k i f s a m b)) (BM (u9 k i f s a m b)) (λd=>
  Jb ((List.length (α:=bD.q) (eQ f d m).2.2.1:Int)==0) (Jv (.inl (s.1,(cW a).1,b,a)))
   (Jd (∀ y:aa [bD],gN [bD] y->az ([]:List Prop)) (Jb (Sv (eQ f d m)) (Jv (rQ 5))
    (Jd (List.length (α:=bD.q) (eQ f d m).2.2.1<=1000000) (Jb ((mu s.1 (eQ f d m)).2.1 != 0) (Jv (rQ (mu s.1 (eQ f d m)).2.1))
     (Jv (.inl ((mu s.1 (eQ f d m)).1,(cW a).1,b,a))))))))
def oU(k:pZ)(b:Prop)(i:Int)(f:ae.q)(s:cr):Fr (cr ⊕ ka.R.X):=
 let a:=ec s.2.2.2 f;let c:=mO a.1 f.2.2.2.2.1;Jd b (Jb (J (f.1>k.2.2.1)) (Jv (.inl s)) (Jd (bi s.2.2.2) (Jb (a.2.1 != 0) (Jv (.inl s))
  (Jd (bi a.1) (Jd (dC (aJ a.1)) (Jb ((cW a.1).2.1 != 0) (Jv (rQ (cW a.1).2.1))
   (Jb (f.2.1==7)
    (Jd (bi a.1) (Jb (c.2.1 != 0) (Jv (rQ c.2.1))
     (nq k i f s a.1 (I6.wrap (c.1-s.2.2.1)) c.1)))
    (nq k i f s a.1 0 s.2.2.1))))))))
def qja:ka.M.X->Fr ka.Out:=FK (λx=>(x.1.1,((x.1.2.1,x.1.2.2.1,x.1.2.2.2.1,x.2.1):pZ),((x.2.2.1,x.2.2.2.1,x.1.2.2.2.2.1,x.2.2.2.2.1):cr))) (λk=>k.1) (λk=>k.2.1) oU (λk s=>((),k.2.2.2,s.1,())) (λ_ y=>Rd.back y) (bq.j,bQ.j,0,ak.j) (aY _,cf _)
def zd6:af prog (.loop (au f15 0)) ka.M ka qja:=
 lG DP (λi k s=>((i,k.1,k.2.1,k.2.2.1,s.2.2.1,()),(k.2.2.2,s.1,s.2.1,s.2.2.2,()))) ae.j (Λ:=λ_=>zs4 QU.Γ) (hΛ:=λ_=>nc (by kernel_rfl) (b:=WN) (by kernel_rfl) (af.han DP rfl zfi))
def uy(j:aE.q)(a:Int):pZ:=((List.length (α:=ae.q) j.2.1:Int),j.2.1,a,bq.j)
def fK(j:aE.q):cr:=(bq.j,bQ.j,0,(A7.f (j.1,())).1)
def F6(x:ap [.d aE,.d i64]):Fr (aa [bq,i64]):=
 iS (InK (List.length (α:=ae.q) x.1.2.1:Int) 0 (List.length (α:=ae.q) x.1.2.1)) (eI (oU (uy x.1 x.2.1) True) 0 x.1.2.1 (fK x.1)) (bC (oU (uy x.1 x.2.1) True) 0 x.1.2.1 (fK x.1)) (bq.j,bQ.j,0,ak.j) (aY _,cf _)
  (λs=>Jv (s.1,0,())) (λy=>Jv (y.2.1,y.1.1,()))
def qur:ag prog 15 (bg [.d aE,.d i64] [bq,i64] F6):=
 cZ DP zd6 (fn:=f15)
def Qe{e:Unit}(h:(Lrp 6 ())[i]?= U e):0<=(i:Int)/\(i:Int)<6:=by have:=(uak.1 h).1;rw[ubc]at this;omega
def ZY(k:pZ)(i:Int)(j:Nat)(f:ae.q)(s:cr)(c:ak.q)(m b:Int)(h:ix c):(nq k i f s c m b).s7 (iV ((λ_ (s:cr)=>ix s.2.2.2) j) (λ_=>True)):=
 ii (A:=λ_=>True) ⟨rfl,by decide,by decide,by decide⟩ ⟨(dK (step:=Ig (u9 k i f s c m b) True) (λ_ _=>True) (Lrp 6 ()) (λj e s a _=>⟨Qe a,Qe a,Qe a,uT⟩) bQ.j trivial).1,uT⟩
  (λd _=>⟨λ_=>h,λ_=>⟨λ_ _=>uT,λ_=>uT,λ_=>⟨ueq (qry _) (by decide),λ_=>uT,λ_=>h⟩⟩⟩)
def zcm(j:aE.q)(a:Int)(e:bf j.1):eI (oU (uy j a) True) 0 j.2.1 (fK j):=
 (o5 (step:=oU (uy j a) True) (λ_ (s:cr)=>ix s.2.2.2) (λ_=>True) j.2.1 (λi f s g c=>by
  refine⟨uT,λ_=>c,λ_=>⟨c.1,λ_=>c,λd=>?_⟩⟩;have d:(dq s.2.2.2 f).2=0:=by have h:((dq s.2.2.2 f).2 != 0)=false:=d;simpa using h
  have b:ix (ec s.2.2.2 f).1:=L7 f c d;exact⟨b.1,Bg b,λ_=>uT,λ_=>⟨λ_=>⟨b.1,λ_=>uT,λ_=>ZY _ _ (i+1) _ _ _ _ _ b⟩,λ_=>ZY _ _ (i+1) _ _ _ _ _ b⟩⟩) (fK j) (Fv e)).1
def xb:Ct:=⟨[.d aE,.d i64],[bq,i64],λx=>(F6 x).get,λx=>[bf x.1.1]⟩
def Kz:ag prog 15 xb:=cq qur _ (λx b a=>sS (jd b.1.2.1.1) (zcm x.1 x.2.1 a) (λ_=>uT) (λ_=>uT))
def Ut(l:List T)(a:Int->T->Unit->Fr (Unit ⊕ ((Bool×Unit)×Unit)))(K:Fr (aa [.bool])):Fr (aa [.bool]):=
 Jd (InK (l.length:Int) 0 l.length) (Jd (eI a 0 l ()) (Jb (dV (bC a 0 l ())) K (Jv ((e9 ((Y,()),()) (bC a 0 l ())).1.1,()))))
def Ls{a:Int->T->Unit->Fr (Unit ⊕ ρ)}{l2:List T}{d:T}(h:∀ i e,0<=i/\i<(l2.length:Int)->l2.getD i.toNat d=e->(a i e ()).ok/\(a i e ()).get=.inl ()):(l p:List T)->(i:Int)->i=(p.length:Int)->l2=p++l->eI a i l ()/\bC a i l ()=.inl ()
 |[],_,_,_,_=>⟨uT,rfl⟩
 |e::l,p,i,k,b=>by
  have m:l2.length=p.length+(e::l).length:=by rw[b,ub6]
  rw[uda]at m;have g:l2.getD (Int.toNat i) d=e:=by rw[b,k,uc0,uah,uae (ufd _),Nat.sub_self];rfl
  have c:=Ls h l (p++[e]) (i+1) (by rw[ub6,ua7];omega) (by rw[b,ucr];rfl);have f:=h i e (by omega) g;unfold eI bC;rw[f.2];exact⟨⟨f.1,c.1⟩,c.2⟩
def tV{a:Int->T->Unit->Fr (Unit ⊕ ((Bool×Unit)×Unit))}{l:List T}{d:T}{K:Fr (aa [.bool])}(f:(l.length:Int)<=9223372036854775807)(h:∀ i e,0<=i/\i<(l.length:Int)->l.getD i.toNat d=e->(a i e ()).ok/\(a i e ()).get=.inl ())(c:K.ok/\K.get=(Z,())):(Ut l a K).ok/\(Ut l a K).get=(Z,()):=by have b:=Ls h l [] 0 rfl rfl;refine aw ⟨rfl,ufe _,ub4 _,f⟩ (aw b.1 ?_);rw[b.2];exact aV rfl c
def j7(a:Int)(f:ae.q)(s:cr):cr ⊕ ka.R.X:=(oU (0,[],a,bq.j) True 0 f s).get
def zor(k:pZ)(i:Int)(f:ae.q)(s:cr):(oU k True i f s).get=j7 k.2.2.1 f s:=rfl
def eD(a:Int):List ae.q->cr->cr ⊕ ka.R.X
 |[],s=>.inl s
 |f::l,s=>match j7 a f s with
  |.inl b=>eD a l b
  |.inr y=>.inr y
def VG(k:pZ):(l:List ae.q)->(i:Int)->(s:cr)->bC (oU k True) i l s=eD k.2.2.1 l s
 |[],_,_=>rfl
 |f::l,i,s=>by
  unfold bC eD;rw[zor];cases j7 k.2.2.1 f s with
  |inl s'=>exact VG k l _ s'
  |inr y=>rfl
def GS:cr ⊕ ka.R.X->aa [bq,i64]
 |.inl s=>(s.1,0,())
 |.inr y=>(y.2.1,y.1.1,())
def i5(j:aE.q)(a:Int):aa [bq,i64]:=xb.f (j,a,())
def uB(j:aE.q)(a:Int):i5 j a=GS (eD a j.2.1 (fK j)):=by show(F6 (j,a,())).get=_;unfold F6;rw[show eD a j.2.1 (fK j)=bC (oU (uy j a) True) 0 j.2.1 (fK j) from (VG (uy j a) j.2.1 0 (fK j)).symm];dsimp only;cases bC (oU (uy j a) True) 0 j.2.1 (fK j)<;>rfl
def qbx{f:ae.q}(s:cr)(h:f.1>day):j7 day f s=.inl s:=by
 have e:j7 day f s=if J (f.1>day)=Z then .inl s else (Jd (bi s.2.2.2) (Jb ((ec s.2.2.2 f).2.1 != 0) (Jv (.inl s))
  (Jd (bi (ec s.2.2.2 f).1) (Jd (dC (aJ (ec s.2.2.2 f).1)) (Jb ((cW (ec s.2.2.2 f).1).2.1 != 0) (Jv (rQ (cW (ec s.2.2.2 f).1).2.1))
   (Jb (f.2.1==7)
    (Jd (bi (ec s.2.2.2 f).1) (Jb ((mO (ec s.2.2.2 f).1 f.2.2.2.2.1).2.1 != 0) (Jv (rQ (mO (ec s.2.2.2 f).1 f.2.2.2.2.1).2.1))
     (nq (0,[],day,bq.j) 0 f s (ec s.2.2.2 f).1 (I6.wrap ((mO (ec s.2.2.2 f).1 f.2.2.2.2.1).1-s.2.2.1)) (mO (ec s.2.2.2 f).1 f.2.2.2.2.1).1)))
    (nq (0,[],day,bq.j) 0 f s (ec s.2.2.2 f).1 0 s.2.2.1)))))):Fr (cr ⊕ ka.R.X)).get:=rfl
 rw[e,uf0 (ueb h)]
def gP(Q:α->Prop):Fr α->Prop
 |.val x=>Q x
 |.br b x y=>(b=Z->gP Q x)/\(b=Y->gP Q y)
 |.need _ x=>gP Q x
def dS{Q:α->Prop}:{f:Fr α}->gP Q f->Q f.get
 |.val _,h=>h
 |.br b x y,h=>by show Q (if b=Z then x.get else y.get);cases b;exact dS (f:=y) (h.2 rfl);exact dS (f:=x) (h.1 rfl)
 |.need _ x,h=>dS (f:=x) h
def jx{n:Int}(h:(n != 0)=Z):n≠0:=by simpa using h
def gW{n:Int}(h:(n != 0)=Y):n=0:=by simpa using h
def O8{b:bq.q}{x:aW.q}(h:(mu b x).2.1=0):(mu b x).1=(b.1++[x],()):=by
 have a:gP (λy=>y.2.1=0->y.1=(b.1++[x],())) (tZ (b,x,())):=by refine⟨λ_ (h:(1:Int)=0)=>absurd h (by decide),λ_=>⟨λ_ (h:(13:Int)=0)=>absurd h (by decide),λ_=>⟨λ_ (h:(2:Int)=0)=>absurd h (by decide),λ_=>⟨λ_ (h:(4:Int)=0)=>absurd h (by decide),λ_ _=>?_⟩⟩⟩⟩;show(List.take ((List.length (α:=aW.q) b.1:Int)-0).toNat (List.drop 0 b.1)++[x],())=_;rw[ueg,ua3 (by omega)]
 exact dS a h
def Bc(f:ae.q)(d:bQ.q)(m:Int):(eQ f d m).1=f.1:=by have a:gP (λy=>y.1.1=f.1) (tY (f,d,m,())):=⟨λ_=>rfl,λ_=>rfl⟩;exact dS a
def CL(f:ae.q)(s:cr):Fr (cr ⊕ ka.R.X):=
 Jd (bi s.2.2.2) (Jb ((ec s.2.2.2 f).2.1 != 0) (Jv (.inl s))
  (Jd (bi (ec s.2.2.2 f).1) (Jd (dC (aJ (ec s.2.2.2 f).1)) (Jb ((cW (ec s.2.2.2 f).1).2.1 != 0) (Jv (rQ (cW (ec s.2.2.2 f).1).2.1))
   (Jb (f.2.1==7)
    (Jd (bi (ec s.2.2.2 f).1) (Jb ((mO (ec s.2.2.2 f).1 f.2.2.2.2.1).2.1 != 0) (Jv (rQ (mO (ec s.2.2.2 f).1 f.2.2.2.2.1).2.1))
     (nq (0,[],0,bq.j) 0 f s (ec s.2.2.2 f).1 (I6.wrap ((mO (ec s.2.2.2 f).1 f.2.2.2.2.1).1-s.2.2.1)) (mO (ec s.2.2.2 f).1 f.2.2.2.2.1).1)))
    (nq (0,[],0,bq.j) 0 f s (ec s.2.2.2 f).1 0 s.2.2.1))))))
def HP(a:Int)(f:ae.q)(s:cr):j7 a f s=if J (f.1>a)=Z then .inl s else (CL f s).get:=rfl
def BK{step:Int->T->σ->Fr σ}{g:σ->T->σ}(h:∀ i e s,(step i e s).get=g s e):(l:List T)->(i:Int)->(s:σ)->bw step i l s=l.foldl g s
 |[],_,_=>rfl
 |e::l,i,s=>by show bw step (i+1) l (step i e s).get=l.foldl g (g s e);rw[h];exact BK h l _ _
def uE(a:Int)(s:Int)(x:bD.q):Int:=if (x.1==a)=Z then I6.wrap (s+x.2.1)else s
def xp(a d:Int)(s:Int)(e:aW.q):Int:=if (!(J (e.1<=d)))=Z then s else (bN e).foldl (uE a) s
def kY(l:List aW.q)(a d:Int):Int:=l.foldl (xp a d) 0
def qlw(b:bq.q)(a d:Int):(xd.f (b,a,d,())).1=kY b.1 a d:=by show bw (Dg (BT ((b.1,()),a,λx=>xc.f (x.1,d,()),())) True) 0 b.1 0=_;refine BK (λi e s=>?_) _ _ _;show(if (!(J (e.1<=d)))=Z then s else bw (HT (N2 (BT ((b.1,()),a,λx=>xc.f (x.1,d,()),())) i e) True) 0 (bN e) s)=xp a d s e;rw[BK (g:=uE a) (λ_ _ _=>rfl)];rfl
def zO(b:bq.q)(d:Int):dX.q:=(AN.f (b,d,())).1
def qd2(n:Int):I6.wrap n%(18446744073709551616:Int)=n%(18446744073709551616:Int):=by rw[udg];omega
def zr4{n:Int}(h:n%(18446744073709551616:Int)=0):I6.wrap n=0:=by rw[udg];omega
def cI(a:Int):List bD.q->Int
 |[]=>0
 |x::l=>(if (x.1==a)=Z then x.2.1 else 0)+cI a l
def ne:List bD.q->Int
 |[]=>0
 |x::l=>x.2.1+ne l
def XC(b:Int):(l:List bD.q)->(s:Int)->(l.foldl (uE b) s)%(18446744073709551616:Int)=(s+cI b l)%(18446744073709551616:Int)
 |[],s=>by show s%(18446744073709551616:Int)=(s+0)%(18446744073709551616:Int);rw[ue8]
 |x::l,s=>by show(l.foldl (uE b) (uE b s x))%(18446744073709551616:Int)=(s+((if (x.1==b)=Z then x.2.1 else 0)+cI b l))%(18446744073709551616:Int);rw[XC b l];unfold uE;split;have:=qd2 (s+x.2.1);generalize I6.wrap (s+x.2.1)=w at *;generalize cI b l=z at *;change (w+z)%(18446744073709551616:Int)=(s+((x.2.1:Int)+z))%(18446744073709551616:Int);generalize (x.2.1:Int)=a at *;omega;rw[Int.zero_add]
def gj(a d:Int):List aW.q->Int
 |[]=>0
 |e::l=>(if (!(J (e.1<=d)))=Z then 0 else cI a (bN e))+gj a d l
def Ue(a d:Int):(l:List aW.q)->(s:Int)->(l.foldl (xp a d) s)%(18446744073709551616:Int)=(s+gj a d l)%(18446744073709551616:Int)
 |[],s=>by show s%(18446744073709551616:Int)=(s+0)%(18446744073709551616:Int);rw[ue8]
 |e::l,s=>by show(l.foldl (xp a d) (xp a d s e))%(18446744073709551616:Int)=(s+((if (!(J (e.1<=d)))=Z then 0 else cI a (bN e))+gj a d l))%(18446744073709551616:Int);rw[Ue a d l];unfold xp;split;rw[Int.zero_add];have:=XC a (bN e) s;generalize (bN e).foldl (uE a) s=w at *;generalize cI a (bN e)=y at *;generalize gj a d l=z at *;omega
def qlx(l:List aW.q)(a d:Int):kY l a d%(18446744073709551616:Int)=gj a d l%(18446744073709551616:Int):=by
 have:=Ue a d l 0
 rwa [Int.zero_add]at this
def rP(g:Int->Int):Int:=g 1+g 2+g 3+g 4+g 5+g 6+g 7+g 8+g 9
def Oa:(l:List bD.q)->(∀ x∈l,1<=x.1/\x.1<=9)->rP (λa=>cI a l)=ne l
 |[],_=>rfl
 |x::l,h=>by
  have e:=Oa l λy d=>h y (ubj _ d);have c:=h x ucc;show rP (λa=>(if (x.1==a)=Z then x.2.1 else 0)+cI a l)=x.2.1+ne l;rw[<- e];unfold rP;have b:∀ (k v:Int) (f:Int->Int),1<=k/\k<=9->((if (k==1)=Z then v else 0)+f 1)+((if (k==2)=Z then v else 0)+f 2)+((if (k==3)=Z then v else 0)+f 3)+((if (k==4)=Z then v else 0)+f 4)+((if (k==5)=Z then v else 0)+f 5)+((if (k==6)=Z then v else 0)+f 6)+((if (k==7)=Z then v else 0)+f 7)+((if (k==8)=Z then v else 0)+f 8)+((if (k==9)=Z then v else 0)+f 9)=v+(f 1+f 2+f 3+f 4+f 5+f 6+f 7+f 8+f 9):=by
   intro k v f g;obtain rfl|rfl|rfl|rfl|rfl|rfl|rfl|rfl|rfl:k=1\/k=2\/k=3\/k=4\/k=5\/k=6\/k=7\/k=8\/k=9:=by omega
   all_goals
    simp only[Int.reduceBEq,ub3,ufx,beq_self_eq_true,if_true];omega
  exact b x.1 x.2.1 (λa=>cI a l) c
def pV(e:aW.q):Prop:=(pz.f (e,())).2.1=Z/\(pz.f (e,())).1=0
def Mq(k:Int×(List bD.q)×aW.q):(l:List bD.q)->(i:Int)->(s b:Int×Int)->0<=s.2->bC (n9 k True) i l s=.inl b->(∀ x∈l,1<=x.1/\x.1<=9)/\b.1%(18446744073709551616:Int)=(s.1+ne l)%(18446744073709551616:Int)
 |[],_,s,b,_,h=>by cases h;exact⟨λ_ h=>(nomatch h),by show _=(s.1+0)%(18446744073709551616:Int);rw[ue8]⟩
 |x::l,i,s,b,o,h=>by
  unfold bC at h;have t:(n9 k True i x s).get=if (bif bif bif bif J (x.1<=s.2)then Z else J (x.1>9)then Z else x.2.1==0 then Z else J (x.2.1 < -1000000000000000)then Z else J (x.2.1>1000000000000000))=Z then .inr ((0,Y,()),())else .inl (I6.wrap (s.1+x.2.1),x.1):=rfl
  rw[t]at h;by_cases c:(bif bif bif bif J (x.1<=s.2)then Z else J (x.1>9)then Z else x.2.1==0 then Z else J (x.2.1 < -1000000000000000)then Z else J (x.2.1>1000000000000000))=Z;rw[uf0 c]at h;cases h;rw[uf1 c]at h;simp only[wF,udu,not_or,ucu]at c;obtain⟨⟨⟨⟨p,r⟩,_⟩,_⟩,_⟩:=c;have d:1<=x.1/\x.1<=9:=by have f:s.2<x.1:=ufo.1 p;have g:x.1<=9:=ufp.1 r;exact⟨Int.lt_of_le_of_lt o f,g⟩
  obtain⟨m,n⟩:=Mq k l (i+1) _ b (by show 0<=x.1;exact ue6 (by decide) d.1) h;refine⟨λy v=>(uej.1 v).elim (λe=>by rw[e];exact d) (m y),?_⟩;have A:=qd2 (s.1+x.2.1);show b.1%(18446744073709551616:Int)=(s.1+(x.2.1+ne l))%(18446744073709551616:Int);rw[n];show(I6.wrap (s.1+x.2.1)+ne l)%(18446744073709551616:Int)=_;generalize I6.wrap (s.1+x.2.1)=w at *;generalize ne l=z at *;generalize s.1=u at *;change (w+z)%(18446744073709551616:Int)=(u+((x.2.1:Int)+z))%(18446744073709551616:Int);generalize (x.2.1:Int)=a at *;omega
def GF{p q:Prop}{g:σ ⊕ ρ}{d:σ}{a:ρ}{k:σ->Fr α}{r:ρ->Fr α}:(iS p q g d a k r).get=match g with
  |.inl s=>(k s).get
  |.inr y=>(r y).get:=by cases g<;>rfl
def qyy{e:aW.q}(h:pV e):(∀ x∈bN e,1<=x.1/\x.1<=9)/\ne (bN e)%(18446744073709551616:Int)=0:=by
 obtain⟨b,c⟩:=h;rw[show pz.f (e,())=(ua (e,())).get from rfl]at b c;unfold ua at b c;rw[GF]at b c;split at b;rename_i s d;rw[d]at c;obtain⟨m,k⟩:=Mq _ _ _ _ s (ufe 0) d;refine⟨m,?_⟩;have n:s.1=0:=c;rw[n,Int.zero_add]at k;exact k.symm;rename_i y d;exfalso;have o:∀ (l:List bD.q) (i:Int) (s:Int×Int) z,bC (n9 (((bN e).length:Int),bN e,e) True) i l s=.inr z->z=((0,Y,()),()):=by
  intro l
  induction l with
  |nil=>intro i s z h;cases h
  |cons x l p=>
   intro i s z h;unfold bC at h;have g:(n9 (((bN e).length:Int),bN e,e) True i x s).get=if (bif bif bif bif J (x.1<=s.2)then Z else J (x.1>9)then Z else x.2.1==0 then Z else J (x.2.1 < -1000000000000000)then Z else J (x.2.1>1000000000000000))=Z then .inr ((0,Y,()),())else .inl (I6.wrap (s.1+x.2.1),x.1):=rfl
   rw[g]at h;split at h;rename_i a;split at a;cases a;cases a;exact p _ _ _ h;rename_i a;split at a;cases a;cases h;rfl;cases a
 have:=o _ _ _ _ d;subst this;cases b
abbrev Xg:Type:=(dX.q×Int×Int×Int×List aW.q×Int)×bq.q×aW.q
def P4(k:Xg)(_b:Prop)(i:Int)(_e:Unit)(s:Int):Fr Int:=Jd (0<=i/\i<(10:Int)) (Jv (I6.wrap (s+(gn k.1.1).getD (Int.toNat i) 0)))
def bU(b:bq.q):List aW.q:=b.1
structure goodB (day:Int) (l:List aW.q):Prop where
 good:∀ e∈l,pV e/\e.1<=day
 sort:l.Pairwise (λa b=>a.1<=b.1)
def zj1{b:bq.q}{x:aW.q}(h:(mu b x).2.1=0):pV x/\∀ (e:0<(bU b).length),((bU b)[(bU b).length-1]'(by omega)).1<=x.1:=by
 have c:gP (λy=>y.2.1=0->pV x/\∀ (e:0<(bU b).length),((bU b)[(bU b).length-1]'(by omega)).1<=x.1) (tZ (b,x,())):=by
  refine⟨λ_ (h:(1:Int)=0)=>absurd h (by decide),λf=>⟨λ_ (h:(13:Int)=0)=>absurd h (by decide),λg=>⟨λ_ (h:(2:Int)=0)=>absurd h (by decide),λd=>⟨λ_ (h:(4:Int)=0)=>absurd h (by decide),λa _=>⟨⟨by simpa using f,gW g⟩,λe=>?_⟩⟩⟩⟩⟩;have d:¬ ((bU b).length:Int)>=2000:=uch d;have a:(bif J (((bU b).length:Int)>0)then J (x.1<((bU b).getD (I6.wrap (((bU b).length:Int)-1)).toNat aW.j).1)else Y)=false:=a;have i:I6.wrap (((bU b).length:Int)-1)=(((bU b).length-1:Nat):Int):=by rw[IntWalk.i64_in _ (by omega)];omega
  rw[ueb (by omega:((bU b).length:Int)>0),i,uc0,uah,uaq (by omega)]at a;exact ufp.1 (uch a)
 exact dS c h
def qyw{b:bq.q}{x:aW.q}(d:goodB day (bU b))(h:(mu b x).2.1=0)(o:x.1<=day):goodB day (bU b++[x]):=by obtain⟨k,l⟩:=zj1 h;refine⟨λe f=>(udt.1 f).elim (d.good e) (λf=>by rw[ucf.1 f];exact⟨k,o⟩),ubp.2 ⟨d.sort,uay _ _,λa m c n=>?_⟩⟩;rw[ucf.1 n];obtain⟨i,p,rfl⟩:=List.getElem_of_mem m;have g:=l (by omega);by_cases e:i=(bU b).length-1;subst e;exact g;exact ue6 (uan.1 d.sort i ((bU b).length-1) p (by omega) (by omega)) g
def Nb(a:Int):cr ⊕ ka.R.X->Prop
 |.inl s=>goodB a (bU s.1)
 |.inr y=>y.1.1≠0/\y.2.1=bq.j
def ZX{f:ae.q}{s:cr}(d:ak.q)(m b:Int)(a:goodB day (bU s.1))(c:f.1<=day):gP (Nb day) (nq (0,[],0,bq.j) 0 f s d m b):=
 ⟨λ_=>a,λ_=>⟨λ_=>⟨(by decide:(5:Int)≠0),rfl⟩,λ_=>⟨λh=>⟨jx h,rfl⟩,λh=>by show goodB day (bU (mu s.1 _).1);rw[O8 (gW h)];exact qyw a (gW h) (by rw[Bc];exact c)⟩⟩⟩
def ZO{f:ae.q}{s:cr}(a:goodB day (bU s.1))(b:f.1<=day):gP (Nb day) (CL f s):=
 ⟨λ_=>a,λ_=>⟨λh=>⟨jx h,rfl⟩,λ_=>⟨λ_=>⟨λh=>⟨jx h,rfl⟩,λ_=>ZX _ _ _ a b⟩,λ_=>ZX _ _ _ a b⟩⟩⟩
def BN(a:Int):(l:List ae.q)->(s:cr)->goodB a (bU s.1)->Nb a (eD a l s)
 |[],_,h=>h
 |f::l,s,h=>by unfold eD;rw[HP];split;rename_i d b;split at b;cases b;exact BN a l s h;rename_i c;have:=dS (ZO (f:=f) h (by have:=c;simp only[ucu]at this;exact ufp.1 this));rw[b]at this;exact BN a l d this;rename_i y b;split at b;cases b;rename_i c;have:=dS (ZO (f:=f) h (by have:=c;simp only[ucu]at this;exact ufp.1 this));rw[b]at this;exact this
def Yu(d:Int):(l:List aW.q)->(∀ e∈l,pV e)->rP (λa=>gj a d l)%(18446744073709551616:Int)=0
 |[],_=>rfl
 |e::l,h=>by have c:=Yu d l λy i=>h y (ubj _ i);obtain⟨f,b⟩:=qyy (h e ucc);have g:=Oa (bN e) f;rw[<- g]at b;show rP (λa=>(if (!(J (e.1<=d)))=Z then 0 else cI a (bN e))+gj a d l)%(18446744073709551616:Int)=0;unfold rP at c b |-;dsimp only at c b |-;cases (!(J (e.1<=d)));simp only[ub3,ufx];generalize cI 1 (bN e)=k at *;generalize cI 2 (bN e)=m at *;generalize cI 3 (bN e)=n at *;generalize cI 4 (bN e)=o at *;generalize cI 5 (bN e)=p at *;generalize cI 6 (bN e)=r at *;generalize cI 7 (bN e)=s at *;generalize cI 8 (bN e)=t at *;generalize cI 9 (bN e)=u at *;omega;simp only[if_true,Int.zero_add];exact c
def qcs(g:Int->Int):dX.q:=(0,g 1,g 2,g 3,g 4,g 5,g 6,g 7,g 8,g 9,())
def qc9(b:bq.q)(d:Int):zO b d=qcs (λa=>kY b.1 a d):=by
 have h:zO b d=qcs (λa=>(xd.f (b,a,d,())).1):=by kernel_rfl
 rw[h,show(λa=>(xd.f (b,a,d,())).1)=λa=>kY b.1 a d from funext λa=>qlw b a d]
def Iq(t:dX.q):Int:=t.1+t.2.1+t.2.2.1+t.2.2.2.1+t.2.2.2.2.1+t.2.2.2.2.2.1+t.2.2.2.2.2.2.1+t.2.2.2.2.2.2.2.1+t.2.2.2.2.2.2.2.2.1+t.2.2.2.2.2.2.2.2.2.1
def zo0(k:Xg):bw (P4 k True) 0 (Lrp 10 ()) 0=I6.wrap (Iq k.1.1):=by
 have h:bw (P4 k True) 0 (Lrp 10 ()) 0=I6.wrap (I6.wrap (I6.wrap (I6.wrap (I6.wrap (I6.wrap (I6.wrap (I6.wrap (I6.wrap (I6.wrap (0+k.1.1.1)+k.1.1.2.1)+k.1.1.2.2.1)+k.1.1.2.2.2.1)+k.1.1.2.2.2.2.1)+k.1.1.2.2.2.2.2.1)+k.1.1.2.2.2.2.2.2.1)+k.1.1.2.2.2.2.2.2.2.1)+k.1.1.2.2.2.2.2.2.2.2.1)+k.1.1.2.2.2.2.2.2.2.2.2.1):=by kernel_rfl
 rw[h];have c:∀ a b:Int,I6.wrap (I6.wrap a+b)=I6.wrap (a+b):=by intro a b;rw[udg,udg,udg];omega
 simp only[c,Int.zero_add];rfl
def XD(a:Int):(l m:List bD.q)->cI a (l++m)=cI a l+cI a m
 |[],m=>by show cI a m=0+cI a m;rw[Int.zero_add]
 |x::l,m=>by show(if (x.1==a)=Z then x.2.1 else 0)+cI a (l++m)=((if (x.1==a)=Z then x.2.1 else 0)+cI a l)+cI a m;rw[XD a l m,Int.add_assoc]
def Uo(k:dX.q×Int×Int×aW.q)(a:Int):(n:Nat)->(i:Nat)->i+n<=9->(s:List bD.q) ->
  cI a (bw (nz k True) (i:Int) (Lrp n ()) s)=cI a s+(if (i:Int)+1<=a/\a<=((i+n:Nat):Int)then (gn k.1).getD a.toNat 0 else 0)
 |0,i,_,s=>by show cI a s=cI a s+_;rw[uf1 (by omega),ue8]
 |n+1,i,m,s=>by
  have l:I6.wrap ((i:Int)+1)=((i+1:Nat):Int):=by rw[IntWalk.i64_in _ (by omega)];omega
  show cI a (bw (nz k True) ((i:Int)+1) (Lrp n ()) (nz k True (i:Int) () s).get)=_;have f:(nz k True (i:Int) () s).get=if ((gn k.1).getD (I6.wrap ((i:Int)+1)).toNat 0 != 0)=Z then s++[(I6.wrap ((i:Int)+1),(gn k.1).getD (I6.wrap ((i:Int)+1)).toNat 0,())]else s:=rfl
  rw[f,l,uc0,show(i:Int)+1=((i+1:Nat):Int) by omega,Uo k a n (i+1) (by omega)];have g:cI a (if ((gn k.1).getD (i+1) 0 != 0)=Z then s++[(((i+1:Nat):Int),(gn k.1).getD (i+1) 0,())]else s)=cI a s+(if a=((i+1:Nat):Int)then (gn k.1).getD (i+1) 0 else 0):=by
   split;rw[XD];show cI a s+((if ((((i+1:Nat):Int)==a))=Z then (gn k.1).getD (i+1) 0 else 0)+0)=_;rw[ue8];by_cases e:a=((i+1:Nat):Int);rw[uf0 e,uf0 (by simp[e])];rw[uf1 e,uf1 (by simp;omega)];rename_i h;have d:(gn k.1).getD (i+1) 0=0:=by simpa using h
   rw[d];split<;>rw[ue8]
  rw[g];by_cases e:a=((i+1:Nat):Int);have c:a.toNat=i+1:=by omega
  rw[uf0 e,uf1 (by omega),uf0 (by omega),c,ue8];rw[uf1 e,ue8];by_cases b:((i+1:Nat):Int)+1<=a/\a<=((i+1+n:Nat):Int);rw[uf0 b,uf0 (by omega)];rw[uf1 b,uf1 (by omega)]
def mP(f:ae.q)(d:bQ.q)(m a:Int)(h:1<=a/\a<=9):cI a (bN (eQ f d m))=(gn (kW d m)).getD a.toNat 0:=by
 have b:gP (λy=>cI a (bN y.1)=(gn (kW d m)).getD a.toNat 0) (tY (f,d,m,())):=by
  have c:∀ i:Int,cI a (bw (nz (kW d m,f.1,i,aW.j) True) ((0:Nat):Int) (Lrp 9 ()) [])=(gn (kW d m)).getD a.toNat 0:=λi=>by rw[Uo _ a 9 0 (by omega) [],uf0 (by omega)];show 0+_=_;rw[Int.zero_add]
  exact⟨λ_=>c _,λ_=>c _⟩
 exact dS b
def xh(c:ar.q)(l:List aq.q):Int:=(px.f (c,l,())).1
def Zk(c:ar.q)(l:List aq.q):(dO.f (c,l,())).2.1=xh c l:=by have a:gP (λy=>y.2.1=xh c l) (xB (c,l,())):=⟨λ_=>rfl,λh=>(gW h).symm⟩;exact dS a
def qkp(c:ar.q)(l:List aq.q):(t9.f (c,l,())).2.1=xh c l:=by
 have a:gP (λy=>y.2.1=xh c l) (xA (c,l,())):=⟨λ_=>Zk c l,λh=>by have b:(dO.f (c,l,())).2.1=0:=gW h;exact((Zk c l).symm.trans b).symm⟩
 exact dS a
def zqh(a:List ah.q)(l:List ax.q):(tC.f (a,l,())).2.2.1=(nR.f (a,l,())).1:=by have b:gP (λy=>y.2.2.1=(nR.f (a,l,())).1) (Bm (a,l,())):=⟨λ_=>rfl,λh=>(gW h).symm⟩;exact dS b
def mT(a:ak.q):Int:=(cW a).2.1
def zph(c:ak.q):gP (λy=>y.2.1≠0->y.2.1=5\/(∃ a∈bW c,y.2.1=(fT a.1 c.1).2)\/y.2.1=(e8 c).2.1\/y.2.1=(lE c).2.2.1) (F7 (c,())):=by
 have v:∀ (l:List bn.q) (i:Int) (s:cO.q) y,bC (qu (rF c) True) i l s=.inr y->∃ a∈l,y.1.1=(fT a.1 c.1).2:=by
  intro l
  induction l with
  |nil=>intro i s y h;cases h
  |cons a l C=>
   intro i s y h;unfold bC at h;have m:gP (λr=>match r with
     |.inl _=>True
     |.inr y=>y.1.1=(fT a.1 c.1).2) (qu (rF c) True i a s):=by
    refine⟨λ_=>rfl,λ_=>?_⟩;have g:∀ {t u:Type} (Q:u->Prop) (k:t->Fr u) (f:Fr t),(∀ x,gP Q (k x))->gP Q (nE k f):=by
     intro t u Q k f A
     induction f with
     |val x=>exact A x
     |br b x y o B=>exact⟨λ_=>o,λ_=>B⟩
     |need p x o=>exact o
    exact g _ _ _ λx=>g _ _ _ λy=>trivial
   have d:=dS m;split at h;obtain⟨b,g,e⟩:=C _ _ _ h;exact⟨b,ubj _ g,e⟩;rename_i D w;cases h;rw[w]at d;exact⟨a,ucc,d⟩
 refine⟨λ_=>⟨λ_ _=>.inr (.inr (.inl rfl)),λ_=>⟨λ_ _=>.inr (.inr (.inr rfl)),λ_=>⟨λ_ _=>.inl rfl,λ_ h=>absurd rfl h⟩⟩⟩,λn _=>.inr (.inl ?_)⟩;cases m:bC (qu (rF c) True) 0 (bW c) cO.j with
 |inl s=>have n:dV (bC (qu (rF c) True) 0 (bW c) cO.j)=false:=n;rw[m]at n;cases n
 |inr y=>obtain⟨a,z,e⟩:=v _ _ _ _ m;refine⟨a,z,?_⟩;exact e
def zpj{b:ak.q}(h:mT b≠0):mT b=5\/(∃ a∈bW b,mT b=(fT a.1 b.1).2)\/mT b=(e8 b).2.1\/mT b=(lE b).2.2.1:=dS (zph b) h
def zgf{e:Int}(h:e≠0):(l:List ba.q)->(y:aq.q)->jw l y e=e
 |[],_=>rfl
 |_::_,_=>uf1 h
def CF(l:List ba.q)(y:aq.q):aq.q:=l.foldl (λy a=>(eX y a).1) y
def NR(b:ba.q)(l:List ba.q)(y:aq.q):jw (b::l) y 0=jw l (eX y b).1 (eX y b).2:=uf0 rfl
def Yc(a:ba.q):(l:List ba.q)->(y:aq.q)->jw l y 0=0->(eX (CF l y) a).2=0->jw (l++[a]) y 0=0
 |[],y,_,h=>(NR a [] y).trans h
 |b::l,y,c,e=>by
  rw[NR]at c;have d:(eX y b).2=0:=Decidable.byContradiction λh=>by rw[zgf h]at c;exact h c
  rw[d]at c;show jw (b::(l++[a])) y 0=0;rw[NR,d];exact Yc a l _ c e
def GH(g:aq.q):Prop:=jw g.2.1 (g.1,[],()) 0=0/\CF g.2.1 (g.1,[],())=g
def zf8{g:aq.q}{a:ba.q}(h:GH g)(e:(eX g a).2=0):GH (eX g a).1:=by
 have b:=(KT e).1;have c:CF (g.2.1++[a]) (g.1,[],())=(eX g a).1:=by unfold CF;rw[List.foldl_append];show(eX (CF g.2.1 (g.1,[],())) a).1=_;rw[h.2]
 rw[b];exact⟨Yc a g.2.1 _ h.1 (by rw[h.2];exact e),c.trans b⟩
def qwc(s:ak.q)(f:ae.q):aJ (fB s f).1=aJ s:=by
 unfold fB;cases J (aI s f>=0);cases J (((List.length (bW s):Nat):Int)>=2000)<;>rfl
 rfl
def qwb(s:ak.q)(f:ae.q):aJ (fA s f).1=aJ s:=by
 unfold fA;cases J (aI s f<0);cases (aJ s).any (lO f)<;>rfl
 rfl
def qwe(s:ak.q)(f:ae.q):aJ (fD s f).1=aJ s:=by
 unfold fD;cases J (aI s f<0);cases J (ej f>I6.wrap (4000000000000000000-(gc s (aI s f)).2.1))<;>rfl
 rfl
def qwf(s:ak.q)(f:ae.q):aJ (fE s f).1=aJ s:=by
 unfold fE;cases oZ s (dB f);cases J (((List.length (bT s):Nat):Int)>=100);cases jV (bT s) (dB f)<;>rfl
 rfl;rfl
def qwd(s:ak.q)(f:ae.q):aJ (gi s f).1=aJ s:=by unfold gi;cases J (dA f<=kg s)<;>rfl
def FJ{P:aq.q->Prop}{s:ak.q}{f:ae.q}(i:cG f=Z)(h:∀ g∈aJ s,P g)(e:(gU s f).2=0)(m:aM f=4->P (dk f,[],()))(d:aM f=5->∀ g∈aJ s,(eX g (lu f)).2=0->P (eX g (lu f)).1):
  (∀ g∈aJ (gU s f).1,P g)/\(aJ (gU s f).1).length<=(aJ s).length+1:=by
 have l:=BG i;have b:∀ t:ak.q,aJ t=aJ s->(∀ g∈aJ t,P g)/\(aJ t).length<=(aJ s).length+1:=λt n=>by rw[n];exact⟨h,ufk _⟩
 rw[TU]at e |-;rcases qs l with k|k|k|k|k|k|k<;>rw[k]at e |-
 exact b _ (qwc s f);exact b _ (qwb s f);exact b _ (qwe s f);show(∀ g∈aJ (fl s f).1,P g)/\(aJ (fl s f).1).length<=(aJ s).length+1;unfold fl;cases J (eS s (dk f).1>=0);cases J (((List.length (aJ s):Nat):Int)>=2000);cases !(lA s f).2;refine⟨λg a=>?_,?_⟩;rcases o9 a with a|a
 exact h g a;rw[a];exact m k;show(gt kK (aJ s) (dk f,[],())).length<=_;rw[Cy];exact ufd _;exact b _ rfl;exact b _ rfl;exact b _ rfl;have e:(eY s f).2=0:=e;show(∀ g∈aJ (eY s f).1,P g)/\(aJ (eY s f).1).length<=(aJ s).length+1;unfold eY at e |-;cases c:J (gI s f<0);rw[c]at e;refine⟨λg a=>?_,?_⟩;rcases qd a with a|a
 exact h g a;rw[a];exact d k _ (eT (FI (uch c))) e;show((aJ s).set _ _).length<=_;rw[udp];exact ufk _;exact b _ rfl;exact b _ (qwf s f);exact b _ (qwd s f)
structure SI (n:Nat) (s:ak.q):Prop where
 ci:CI s
 qi:QI s
 form:∀ g∈aJ s,nN g.1=true
 made:∀ g∈aJ s,GH g
 na:∀ g∈aJ s,List.length (α:=ba.q) g.2.1<=n
 nf:(aJ s).length<=n
def qbd(t:bh.q):SI 0 (hZ t):=⟨qoc t,zj6 t,λg h=>(by cases h),λg h=>(by cases h),λg h=>(by cases h),ufd _⟩
def Pp{s:ak.q}(h:SI n s):SI (n+1) s:=⟨h.ci,h.qi,h.form,h.made,λg a=>uc4 (h.na g a),uc4 h.nf⟩
def qx2{f:ae.q}(h:cG f=Z)(b:aM f=4):nN (dk f)=true:=by have a:=BF h;unfold pp at a;rw[b]at a;have a:(nN (dk f)&&(dk f).2.2.2.2.1==bF f)=true:=a;rw[udd]at a;exact a.1
def zn2{s:ak.q}{f:ae.q}(h:SI n s)(a:cG f=Z)(e:(gU s f).2=0):SI (n+1) (gU s f).1:=
 ⟨qoa h.ci a e,zj5 h.qi a,(FJ a h.form e (λk=>qx2 a k) (λ_ g b c=>by rw[T3 c];exact h.form g b)).1,
  (FJ a h.made e (λ_=>⟨rfl,rfl⟩) (λ_ g b c=>zf8 (h.made g b) c)).1,
  (FJ (P:=λg=>List.length (α:=ba.q) g.2.1<=n+1) a (λg b=>uc4 (h.na g b)) e (λ_=>ufj _) (λ_ g b c=>by rw[(KT c).1];show(g.2.1++[_]).length<=n+1;rw[ub6];exact udk (h.na g b))).1,
  ueq (FJ (P:=λ_=>True) a (λ_ _=>uT) e (λ_=>uT) (λ_ _ _ _=>uT)).2 (udk h.nf)⟩
def qbe{s:ak.q}{f:ae.q}(h:SI n s)(e:(dq s f).2=0):SI (n+1) (dq s f).1:=by obtain⟨a,b,c⟩:=Dp e;rw[c];exact zn2 h (NQ a).1 b
abbrev tK(x:ar.q):Bool:=lU x.1 x.2.1 x.2.2.1 x.2.2.2.1 x.2.2.2.2.1
def zq(l:List ar.q):Prop:=∀ x∈l,tK x=Z
def RY:(l:List ar.q)->(p:Int)->tj l p=Z->zq l
 |[],_,_=>λ_ h=>(nomatch h)
 |c::l,p,h=>by
  unfold tj at h;simp only[udd]at h;intro x a;rcases uej.1 a with rfl|a
  exact h.1.2;exact RY l _ h.2 x a
def T0{l:List ar.q}(h:ky l=Z):zq l:=by unfold ky at h;rw[udd]at h;exact RY l _ h.2
def qny{c:ay.q}(h:fk c=Z)(b:c.2.2.1=2):zq c.2.2.2.2.1:=by unfold fk G8 at h;simp only[udd]at h;have h:=h.2.2;rw[b]at h;have h:(bif bif ky c.2.2.2.2.1 then c.2.2.2.1.1==0&&(c.2.2.2.1.2.1==0&&(c.2.2.2.1.2.2.1==0&&(c.2.2.2.1.2.2.2.1==0&&Z)))else Y then c.2.2.2.2.2.1==0 else Y)=true:=h;cases a:ky c.2.2.2.2.1;rw[a]at h;cases h;exact T0 a
def Wx(d:Int):(l:List ay.q)->(k:gb)->(∀ c∈l,fk c=Z)->zq k.2.2->zq (iz d l k).2.2
 |[],_,_,h=>h
 |c::l,k,a,h=>by refine Wx d l _ (λc e=>a c (ubj _ e)) ?_;split;exact h;unfold Bb;split;exact h;split;rename_i b;exact qny (a c ucc) b;split;exact h;split;exact h;exact h
def Vc:{l:List ar.q}->(em p l).2=Z->(em p l).1∈l
 |[],h=>by cases h
 |c::l,h=>by unfold em at h |-;split;exact ucc;rename_i a;rw[uf1 a]at h;exact ubj _ (Vc h)
def zbd{h:aD.q}{t:bh.q}{b d:Int}(f:(fG h t b).2=0)(a:(cz (fG h t b).1 d).2=Z):zq (cz (fG h t b).1 d).1.2.2.2.1:=by
 unfold fG at f a |-;by_cases i:(ip h b).2=0;rw[uf0 i]at f a |-;generalize (ip h b).1=x at f a |-;obtain⟨n,_,_,r⟩:=zg3 f;rw[r]at a |-;obtain⟨u,w⟩:=Si (v:=(zR x t).1) d (ez x);rw[u]at a;rw[w a];have l:=(zjw (zR x t).1 (cz (ez x) d).1).1;have g:=Wv n;have s:=((qp2 n).at_day g.b1 g.a1 d).2 a;have e:(fW (zR x t).1 (cz (ez x) d).1).2.2.2.1=(qbq x d).2.2:=by have o:=ufy (λk:gb=>k.2.2) l;have p:=ufy (λk:gb=>k.2.2) s.1;exact o.trans p
 rw[e];refine Wx d (rg x) _ (λc l=>(g.chs c (KC l)).1) (T0 ?_);have m:=g.terms;unfold i9 at m;simp only[udd]at m;exact m.2.2.2;rw[uf1 i]at f;exact absurd f i
def qpj{h:aD.q}{t:bh.q}{c:dx.q}(e:(fz h t c).2=0):tK (fz h t c).1=true:=by unfold fz at e |-;split;rename_i d;rw[uf0 d]at e;split;rename_i f;rw[uf0 f]at e;split;rename_i g;rw[uf0 g]at e;split;rename_i a;rw[uf0 a]at e;unfold Fh at e |-;split;rename_i b;rw[uf0 b]at e;rw[udd]at b;split;rename_i i;exact zbd a b.1 _ (Vc i);rename_i i;rw[uf1 i]at e;exact absurd e (by decide);rename_i b;rw[uf1 b]at e;exact absurd e (by decide);rename_i a;rw[uf1 a]at e;exact absurd e a;rename_i g;rw[uf1 g]at e;exact absurd e (by decide);rename_i f;rw[uf1 f]at e;exact absurd e (by decide);rename_i d;rw[uf1 d]at e;exact absurd e (by decide)
def VH{step:Int->T->σ->Fr (σ ⊕ ρ)}(I:Nat->σ->Prop)(B:ρ->Prop)(a:List T)(h:∀ (i:Nat) e s,a[i]?= U e->I i s->gP (iV (I (i+1)) B) (step (i:Int) e s)):
  (l:List T)->(i:Nat)->a.drop i=l->(s:σ)->I i s->iV (I (i+l.length)) B (bC step (i:Int) l s)
 |[],_,_,_,d=>d
 |e::r,i,f,s,d=>by
  have g:a[i]?= U e:=by have:=ufy (·[0]?) f;simpa using this
  have k:a.drop (i+1)=r:=by have:=ufy (List.drop 1) f;simpa using this
  have b:=dS (h i e s g d);unfold bC;rw[uda,show i+(r.length+1)=i+1+r.length by omega];split;rename_i m c;rw[c]at b;exact VH I B a h r (i+1) k m b;rename_i y c;rw[c]at b;exact b
def BL{step:Int->T->σ->Fr (σ ⊕ ρ)}(I:Nat->σ->Prop)(B:ρ->Prop)(l:List T)(h:∀ (i:Nat) e s,l[i]?= U e->I i s->gP (iV (I (i+1)) B) (step (i:Int) e s))(s:σ)(a:I 0 s):iV (I l.length) B (bC step 0 l s):=by
 have:=VH I B l h l 0 rfl s a
 rwa [uez]at this
def VF{step:Int->T->σ->Fr σ}(I:Nat->σ->Prop)(a:List T)(h:∀ (i:Nat) e s,a[i]?= U e->I i s->gP (I (i+1)) (step (i:Int) e s)):
  (l:List T)->(i:Nat)->a.drop i=l->(s:σ)->I i s->I (i+l.length) (bw step (i:Int) l s)
 |[],_,_,_,b=>b
 |e::r,i,c,s,b=>by
  have f:a[i]?= U e:=by have:=ufy (·[0]?) c;simpa using this
  have g:a.drop (i+1)=r:=by have:=ufy (List.drop 1) c;simpa using this
  have d:=dS (h i e s f b);unfold bw;rw[uda,show i+(r.length+1)=i+1+r.length by omega];exact VF I a h r (i+1) g _ d
def r9{step:Int->T->σ->Fr σ}(I:Nat->σ->Prop)(l:List T)(h:∀ (i:Nat) e s,l[i]?= U e->I i s->gP (I (i+1)) (step (i:Int) e s))(s:σ)(a:I 0 s):I l.length (bw step 0 l s):=by
 have:=VF I l h l 0 rfl s a
 rwa [uez]at this
def qyg{Q:α->Prop}{p:Prop}{x:Fr α}(h:gP Q x):gP Q (Jd p x):=h
def MN{Q:α->Prop}{p q:Prop}{g:σ ⊕ ρ}{d:σ}{a:ρ}{k:σ->Fr α}{r:ρ->Fr α}(b:∀ s,g=.inl s->gP Q (k s))(c:∀ y,g=.inr y->gP Q (r y)):gP Q (iS p q g d a k r):=by
 cases g with
 |inl s=>exact⟨λ_=>b s rfl,λh=>(nomatch h)⟩
 |inr y=>exact⟨λh=>(nomatch h),λ_=>c y rfl⟩
def BO(a:ak.q)(g:bj.q):Prop:=tK g.2.1=Z/\∀ k:Int,k∈(g.2.2.1:List Int)->((aJ a).getD k.toNat aq.j).1.2.1=g.1/\gT a ((aJ a).getD k.toNat aq.j)=(g.2.1,0,())
def qcv{B:ρ->Prop}{a:ak.q}{s:List bj.q}{j:Int}{e:aq.q}(o:(aJ a)[i]?= U e)(p:0<=j/\j<(s.length:Int))(f:∀ g∈s,BO a g)(m:e.1.2.1=(s.getD j.toNat bj.j).1)(n:gT a e=((s.getD j.toNat bj.j).2.1,0,())):
  gP (iV (λr=>∀ g∈r,BO a g) B) (Ir (ρ:=ρ) s j (i:Int)):=by
 show ∀ g∈ZA s j (i:Int),BO a g;have d:=toNat_lt p;have l:s.getD j.toNat bj.j∈s:=by rw[uah,uaq d];exact udj _
 intro g c;rcases uap c with h|h
 exact f g h;rw[h];refine⟨(f _ l).1,λk t=>?_⟩;rcases udt.1 t with b|b
 exact(f _ l).2 k b;rw[ucf.1 b,uc0,uah,o];exact⟨m,n⟩
def qr1 {a b:ar.q} (h:(a.1==b.1&&(a.2.1==b.2.1&&(a.2.2.1==b.2.2.1&&(a.2.2.2.1==b.2.2.2.1&&(a.2.2.2.2.1==b.2.2.2.2.1&&Z)))))=Z):a=b:=by obtain⟨c,d,e,f,g,_⟩:=a;obtain⟨i,k,l,m,n,_⟩:=b;simp only[udd,ufm]at h;obtain⟨rfl,rfl,rfl,rfl,rfl,_⟩:=h;rfl
def qy0(st:ak.q)(h:∀ f∈aJ st,(gT st f).2.1=0/\tK (gT st f).1=Z):(js st).2.1=0/\∀ g:bj.q,g∈((js st).1:List bj.q)->BO st g:=by
 have b:=BL (step:=qt ((List.length (α:=aq.q) (aJ st):Int),aJ st,st) True) (λ_ (s:List bj.q)=>∀ g∈s,BO st g) (λ_=>False) (aJ st) (λi e s u l=>by
  obtain⟨A,t⟩:=h e (ubg u);have m:∀ c,(gT st e).1=c->gT st e=(c,0,()):=λc r=>by rw[<- r,<- A]
  refine⟨λp=>absurd A (jx p),λ_=>⟨λ_=>?_,λp=>?_⟩⟩;refine qcv (j:=(s.length:Int)) u ⟨ub4 _,by rw[ub6,ua7];omega⟩ (λg a=>?_) ?_ ?_;rcases udt.1 a with a|a
  exact l g a;rw[ucf.1 a];exact⟨t,λk B=>(nomatch B)⟩;rw[uc0,uah,uae (ufd _),Nat.sub_self];rfl;rw[uc0,uah,uae (ufd _),Nat.sub_self];exact m _ rfl;have z:0<=xU st e s:=ufp.1 (uch p);obtain⟨w,x,C,d⟩:=pY z;have a:s.getD (xU st e s).toNat bj.j=x:=by rw[uah,show s[(xU st e s).toNat]?= U x from C];rfl
  have d:(bif x.1==e.1.2.1 then x.2.1.1==(gT st e).1.1&&(x.2.1.2.1==(gT st e).1.2.1&&(x.2.1.2.2.1==(gT st e).1.2.2.1&&(x.2.1.2.2.2.1==(gT st e).1.2.2.2.1&&(x.2.1.2.2.2.2.1==(gT st e).1.2.2.2.2.1&&Z))))else Y)=true:=d;cases o:x.1==e.1.2.1;rw[o]at d;cases d;rw[o]at d;refine qcv u ⟨z,w⟩ l ?_ ?_;rw[a];exact(ufv o).symm;rw[a];exact m _ (qr1 d).symm) [] (λ_ a=>(nomatch a))
 have v:js st=match bC (qt ((List.length (α:=aq.q) (aJ st):Int),aJ st,st) True) 0 (aJ st) []with
   |.inl s=>(s,0,())
   |.inr y=>y.1:=by
  show(xD (st,())).get=_;unfold xD;rw[GF];split;rename_i s l;rw[show bC (qt ((List.length (α:=aq.q) (aJ st):Int),aJ st,st) True) 0 (aJ st) []=.inl s from l]
  try rfl
  rename_i y l;rw[show bC (qt ((List.length (α:=aq.q) (aJ st):Int),aJ st,st) True) 0 (aJ st) []=.inr y from l]
  try rfl
 rw[v];cases n:bC (qt ((List.length (α:=aq.q) (aJ st):Int),aJ st,st) True) 0 (aJ st) []with
 |inl s=>rw[n]at b;exact⟨rfl,b⟩
 |inr y=>rw[n]at b;exact b.elim
def qpm{st:ak.q}(h:CI st):∀ f∈aJ st,(gT st f).2.1=0/\tK (gT st f).1=Z/\(gT st f).1.1=f.1.2.2.1:=λf i=>by
 obtain⟨a,g,d,b⟩:=h.cov f i;have e:(wI.f (st,f.1.2.1,())).1=a:=by show(gO st f.1.2.1).1=a;rw[<- d,qki h.ri.accs g]
 have c:gT st f=((fz a.1 st.1 f.1).1,(fz a.1 st.1 f.1).2,()):=by unfold gT;rw[e];rfl
 rw[c];exact⟨b,qpj b,qpi b⟩
def in6(a:bQ.q):Prop:=Go.Ab.inR .i64 a.1/\Go.Ab.inR .i64 a.2.1/\Go.Ab.inR .i64 a.2.2.1/\Go.Ab.inR .i64 a.2.2.2.1/\Go.Ab.inR .i64 a.2.2.2.2.1/\Go.Ab.inR .i64 a.2.2.2.2.2.1
def nd(c:Bool):List (Int×Int)->Fr α->Fr α
 |[],t=>t
 |p::l,t=>Jd (c=Z->0<=p.1/\p.1<p.2) (nd c l t)
def At{p:α->Bool}:{l:List α}->(∀ x∈l,p x=Y)->l.any p=Y
 |[],_=>rfl
 |x::l,h=>by rw[List.any_cons,h x ucc,At λy a=>h y (ubj _ a)];rfl
def qn4(hn:n<=40){c:ar.q}{l:List aq.q}(hl:l.length<=n)(hc:tK c=true)(hp:∀ f∈l,c.1=f.1.2.2.1)(hf:∀ f∈l,nN f.1=true)(hm:∀ f∈l,GH f)(ha:∀ f∈l,List.length (α:=ba.q) f.2.1<=n):xh c l=0:=by
 have hr:(AG.f (c,l,())).1=true:=by
  show(bif tK c then !(l.any λx=>(wZ.f (x,c,())).1)else false)=true;rw[hc,At (p:=λx=>(wZ.f (x,c,())).1)];rfl;intro f hfm;show(bif bif !(nN f.1)then true else f.1.2.2.1 != c.1 then true else !(jw (List.drop (Int.toNat 0) f.2.1) (f.1,[],()) 0==0))=false;rw[hf f hfm,hp f hfm,show jw (List.drop (Int.toNat 0) f.2.1) (f.1,[],()) 0=0 from (hm f hfm).1];simp
 have hfl:dC l:=⟨by omega,λf hfm=>by have:=ha f hfm;omega⟩;have hs:fu l<=1600:=by
  have h1:=PA (n:=n) l ha;have h2:l.length*n<=40*40:=uef (ueq hl hn) hn;omega
 have hg:=(Tj l hfl).2;show(xC (c,l,())).get.1=0;have key:gP (λy=>y.1=0) (xC (c,l,())):=by
  refine⟨λhb=>?_,λ_=>⟨λhb=>?_,λ_=>rfl⟩⟩;have hb:(!(AG.f (c,l,())).1)=true:=hb;rw[hr]at hb;cases hb
  ·have hb:(bif decide ((l.length:Int)>2000)then true else decide (MT ((l.length:Int),l,l) 0>2000))=true:=hb;rw[hg,udw (by omega),udw (by omega)]at hb;cases hb
 exact dS key
def qwh{st:ak.q}{Q:aq.q->Prop}(k:Int×(List Int)×Int×Int×(List bj.q)×ak.q×bj.q×(List aC.q))(d:∀ x∈k.2.1,Q ((aJ k.2.2.2.2.2.1).getD x.toNat aq.j)):
  (ug k []).length=k.2.1.length/\∀ f∈ug k [],Q f:=
 r9 (step:=Dk k True) (λj (r:List aq.q)=>r.length=j/\∀ f∈r,Q f) k.2.1 (λj e r b a=>by
  refine⟨?_,λf c=>?_⟩;show(r++[_]).length=j+1;rw[ub6,a.1];rfl;rcases udt.1 c with h|h
  exact a.2 f h;rw[ucf.1 h];exact d e (ubg b)) [] ⟨rfl,λ_ h=>(nomatch h)⟩
def zck(a m:Int):0<=(nQ.f (a,[m],())).1/\((nQ.f (a,[m],())).1<=m\/(nQ.f (a,[m],())).1=0):=by
 have e:(nQ.f (a,[m],())).1=if (if m<a then m else a)<0 then 0 else (if m<a then m else a):=rfl
 have b:∀ a m:Int,0<=(if (if m<a then m else a)<0 then 0 else (if m<a then m else a))/\((if (if m<a then m else a)<0 then 0 else (if m<a then m else a))<=m\/(if (if m<a then m else a)<0 then 0 else (if m<a then m else a))=0):=by
  intro a m;by_cases h:m<a;rw[uf0 h];split<;>omega
  rw[uf1 h];split<;>omega
 rw[e];exact b a m
def qks{l g d s:Int}(h:lU p l g d s=Z):0<=g/\g<=1000000000000000:=by unfold lU at h;have h:=ucx h;omega
def zoz{g u:Int}(h:0<=g/\g<=1000000000000000)(b:¬ I6.wrap u<0):I6.wrap (g-I6.wrap u)<=g:=by
 have a:I6.wrap u<=9223372036854775807:=by rw[udg];omega
 rw[IntWalk.i64_in _ (by omega)];omega
def zar{P:Prop}[Decidable P]{b:Int}(c:0<=b)(d:0<a):0<=(if P then a else 0)+b:=by split<;>omega
def zje(c:ar.q)(a u:Int):0<=yB c a (I6.wrap u)/\yB c a (I6.wrap u)<=1000000000000000:=by
 have z:(0:Int)<=0/\(0:Int)<=1000000000000000:=by decide
 unfold yB;cases b:(kZ.f (c,())).1;exact z;cases J (a<0);cases d:J (I6.wrap u<0);have d:=uch d;have b:lU c.1 c.2.1 c.2.2.1 c.2.2.2.1 c.2.2.2.2.1=true:=b;have e:=qks b;have i:=zoz e d;have g:=zck (AJ.f (c,(AI.f (c,a,())).1,())).1 (I6.wrap (c.2.2.1-I6.wrap u));refine⟨g.1,?_⟩;rcases g.2 with h|h
 exact ue6 h (ue6 i e.2);exact ue6 (ue7 h) z.2;exact z;exact z
def gH(k:Int):List db.q->Int
 |[]=>0
 |x::l=>(if x.1=k then x.2.2.1 else 0)+gH k l
def CS(k:Int):(l m:List db.q)->gH k (l++m)=gH k l+gH k m
 |[],m=>by show gH k m=0+gH k m;rw[Int.zero_add]
 |x::l,m=>by show(if x.1=k then x.2.2.1 else 0)+gH k (l++m)=((if x.1=k then x.2.2.1 else 0)+gH k l)+gH k m;rw[CS k l m,Int.add_assoc]
def Cz(l:List db.q):Prop:=∀ x:db.q,x∈l->0<x.2.2.1
def H8(k:Int):(l:List db.q)->Cz l->0<=gH k l
 |[],_=>ufe _
 |x::l,h=>by have a:=H8 k l λy c=>h y (ubj _ c);have b:=h x ucc;exact zar a b
structure PyI (n:Nat) (s:Int×(List Int)×(List Int)×(List db.q)):Prop where
 len:s.2.2.1.length=n
 sum:∀ k:Nat,k<n->gH (k:Int) s.2.2.2=s.2.2.1.getD k 0
 paid:∀ k:Nat,0<=s.2.2.1.getD k 0/\s.2.2.1.getD k 0<=1000000000000000
 pos:Cz s.2.2.2
def MP{l:List α}{k:Nat}{v d:α}(a:i<l.length):(l.set i v).getD k d=if k=i then v else l.getD k d:=by rw[uah,uah];split;rename_i e;subst e;rw[ua0 a];rfl;rename_i e;rw[ubi (λh=>e h.symm)]
def zj4{s:Int×(List Int)×(List Int)×(List db.q)}(h:PyI n s){f b:Int}{g:Int}{o:List Int}{P:Int}(u:0<=f/\f<(n:Int))(i:0<=P/\P<=1000000000000000)(d:¬ I6.wrap (P-s.2.2.1.getD f.toNat 0)<=0):
  PyI n (g,o,s.2.2.1.set f.toNat (I6.wrap (s.2.2.1.getD f.toNat 0+I6.wrap (P-s.2.2.1.getD f.toNat 0))),s.2.2.2++[(f,b,I6.wrap (P-s.2.2.1.getD f.toNat 0),())]):=by
 have v:=h.paid f.toNat;have c:f.toNat<s.2.2.1.length:=by rw[h.len];omega
 generalize m:s.2.2.1.getD f.toNat 0=p at *;have r:I6.wrap (P-p)=P-p:=IntWalk.i64_in _ (by omega);rw[r]at d |-;have t:I6.wrap (p+(P-p))=P:=by rw[IntWalk.i64_in _ (by omega)];omega
 rw[t];refine⟨by rw[udp];exact h.len,λk l=>?_,λk=>?_,λx a=>?_⟩;show gH (k:Int) (s.2.2.2++[_])=(s.2.2.1.set f.toNat P).getD k 0;rw[CS,MP c,h.sum k l];show _+((if f=(k:Int)then P-p else 0)+0)=_;by_cases e:k=f.toNat;rw[uf0 e,uf0 (by omega),e,m];omega;rw[uf1 e,uf1 (by omega),ue8,ue8];show 0<=(s.2.2.1.set f.toNat P).getD k 0/\(s.2.2.1.set f.toNat P).getD k 0<=1000000000000000;rw[MP c];split;exact i;exact h.paid k;rcases udt.1 a with a|a
 exact h.pos x a;rw[ucf.1 a];exact ufo.1 d
def zi2(k:Int×ar.q×(List aA.q))(n:Nat)(d:nx n k.2.2)(s:Int×(List Int)×(List Int)×(List db.q))(a:PyI n s):PyI n (MW k s):=
 r9 (step:=Dr k True) (λ_=>PyI n) k.2.2 (λi e s c h=>⟨λ_=>h,λ_=>⟨λ_=>⟨h.len,h.sum,h.paid,h.pos⟩,λb=>zj4 h (d e (ubg c)) (zje _ _ _) (uch b)⟩⟩) s a
def zi6(c:ar.q)(l:List aq.q)(h:dC l):Cz (dO.f (c,l,())).1/\∀ k:Nat,k<l.length->gH (k:Int) (dO.f (c,l,())).1<=1000000000000000:=by
 have e:gP (λy=>Cz y.1/\∀ k:Nat,k<l.length->gH (k:Int) y.1<=1000000000000000) (xB (c,l,())):=by
  refine⟨λ_=>⟨λ_ a=>(nomatch a),λ_ _=>(by decide:(0:Int)<=1000000000000000)⟩,λn=>?_⟩;obtain⟨i,m⟩:=Tk c l h (gW n);have p:=(Zi c l i m).2.2;have b:nx l.length (ki (xN ((l.length:Int),l,l,c) [])):=λx a=>p x (zw.1 a);have g:∀ k,(lH l.length).getD k 0=0:=λk=>by unfold lH;rw[uah,List.getElem?_replicate];split<;>rfl
  have d:=zi2 (((ki (xN ((l.length:Int),l,l,c) [])).length:Int),c,ki (xN ((l.length:Int),l,l,c) [])) l.length b (0,lH l.length,lH l.length,[]) ⟨Qh _,λk _=>(g k).symm,λk=>by rw[show((0,lH l.length,lH l.length,[]):Int×(List Int)×(List Int)×(List db.q)).2.2.1=lH l.length from rfl,g];decide,λ_ a=>(nomatch a)⟩;exact⟨d.pos,λk o=>by rw[d.sum k o];exact(d.paid k).2⟩
 exact dS e
def qkj(p:aC.q)(a:ba.q):(lN p a).2.2.1=p.2.2.1:=by
 unfold lN;cases jA a.2.1 1 5;rfl;cases a.2.1==1;cases a.2.1==2;cases a.2.1==3;cases a.2.1==4<;>rfl
 rfl;rfl;rfl
def zoq(g:aq.q):(EH.f (g,())).1.2.2.1=0:=by
 show(m9 g).2.2.1=0;have b:∀ (l:List ba.q) (p:aC.q),(l.foldl lN p).2.2.1=p.2.2.1:=by
  intro l
  induction l with
  |nil=>intro p;rfl
  |cons a l c=>intro p;rw[List.foldl_cons,c,qkj]
 exact b g.2.1 _
def i7(l:List aC.q)(k:Nat):Int:=(l.getD k aC.j).2.2.1
def Zu{l:List aC.q}{k:Nat}{v:aC.q}(a:i<l.length):i7 (l.set i v) k=if k=i then v.2.2.1 else i7 l k:=by unfold i7;rw[MP a];split<;>rfl
def qk7(c:ar.q)(l:List aq.q)(r:List db.q):(rA ((l.length:Int),l,r,c) []).length=l.length/\∀ k,i7 (rA ((l.length:Int),l,r,c) []) k=0:=by
 have a:=r9 (step:=Di ((l.length:Int),l,r,c) True) (λi (s:List aC.q)=>s.length=i/\∀ p:aC.q,p∈s->p.2.2.1=0) l (λi e s g b=>by
  refine⟨?_,λp f=>?_⟩;show(s++[_]).length=i+1;rw[ub6,b.1];rfl;rcases udt.1 f with h|h
  exact b.2 p h;rw[ucf.1 h];exact zoq e) [] ⟨rfl,λ_ h=>(nomatch h)⟩
 refine⟨a.1,λk=>?_⟩;unfold i7;rw[uah];cases d:(rA ((l.length:Int),l,r,c) [])[k]? with
 |none=>rfl
 |some p=>exact a.2 p (ubg d)
def J0{k:Nat}(h:0<=a):k=a.toNat↔a=(k:Int):=by omega
def qko{o t:Int}(b:0<=o+a)(c:r=o+a+t)(d:0<=t)(e:r<=1000000000000000):I6.wrap (o+a)=o+a:=IntWalk.i64_in _ (by omega)
def qk9(c:ar.q)(r:List db.q)(n:Nat)(B:∀ x:db.q,x∈r->0<=x.1/\x.1<(n:Int))(t:Cz r)(D:∀ k:Nat,k<n->gH (k:Int) r<=1000000000000000)(s:Int×List aC.q)(C:s.2.length=n)(u:∀ k,i7 s.2 k=0):
  (uf ((r.length:Int),r,c) s).2.length=n/\∀ k:Nat,k<n->i7 (uf ((r.length:Int),r,c) s).2 k=gH (k:Int) r:=by
 have f:=r9 (step:=Dj ((r.length:Int),r,c) True) (λi (s:Int×List aC.q)=>s.2.length=n/\∀ k:Nat,k<n->i7 s.2 k=gH (k:Int) (r.take i)) r (λi e s p h=>by
  have b:=B e (ubg p);have A:e.1.toNat<s.2.length:=by rw[h.1];exact toNat_lt b
  have d:r.take (i+1)=r.take i++[e]:=by rw[List.take_succ,p];rfl
  show(s.2.set e.1.toNat ((s.2.getD e.1.toNat aC.j).1,(s.2.getD e.1.toNat aC.j).2.1,I6.wrap (i7 s.2 e.1.toNat+e.2.2.1),(s.2.getD e.1.toNat aC.j).2.2.2)).length=n/\∀ k:Nat,k<n->i7 (s.2.set e.1.toNat ((s.2.getD e.1.toNat aC.j).1,(s.2.getD e.1.toNat aC.j).2.1,I6.wrap (i7 s.2 e.1.toNat+e.2.2.1),(s.2.getD e.1.toNat aC.j).2.2.2)) k=_;refine⟨by rw[udp];exact h.1,λk g=>?_⟩;rw[Zu A,d,CS];show _=_+((if e.1=(k:Int)then e.2.2.1 else 0)+0);by_cases a:k=e.1.toNat;rw[uf0 a,uf0 ((J0 b.1).1 a)];have v:=h.2 k g;have l:=H8 (k:Int) (r.take (i+1)) λx o=>t x (ubq o);have m:gH (k:Int) r=gH (k:Int) (r.take (i+1))+gH (k:Int) (r.drop (i+1)):=by rw[<- CS,uba]
  have w:=H8 (k:Int) (r.drop (i+1)) λx o=>t x (ubr o);have y:=D k g;rw[d,CS]at l m;have z:gH (k:Int) [e]=e.2.2.1:=by show(if e.1=(k:Int)then e.2.2.1 else 0)+0=_;rw[uf0 ((J0 b.1).1 a),ue8]
  rw[z]at l m;show I6.wrap (i7 s.2 e.1.toNat+e.2.2.1)=_;rw[<- a,v,qko l m w y,ue8];rw[uf1 a,uf1 (λh=>a ((J0 b.1).2 h)),ue8,ue8];exact h.2 k g) s ⟨C,λk g=>u k⟩
 rw[List.take_length]at f;exact f
def qlb(c:ar.q)(n:Nat)(s:Int×List aC.q)(f:s.2.length=n):(bw (ny ((n:Int),c) True) 0 (Lrp (Int.toNat (n:Int)) ()) s).2.length=n/\∀ k,i7 (bw (ny ((n:Int),c) True) 0 (Lrp (Int.toNat (n:Int)) ()) s).2 k=i7 s.2 k:=
 r9 (step:=ny ((n:Int),c) True) (λ_ (r:Int×List aC.q)=>r.2.length=n/\∀ k,i7 r.2 k=i7 s.2 k) (Lrp (Int.toNat (n:Int)) ()) (λi e r b h=>by
  have a:=eO b;rw[ubc,uc0]at a;refine⟨λ_=>h,λ_=>?_⟩;have d:((i:Int)).toNat<r.2.length:=by rw[h.1,uc0];exact a
  refine⟨by show(List.set _ _ _).length=n;rw[udp];exact h.1,λk=>?_⟩;show i7 (r.2.set ((i:Int)).toNat _) k=_;rw[Zu d];split;rename_i e;subst e;exact h.2 _;exact h.2 k) s ⟨f,λ_=>rfl⟩
def jy(l:List aC.q):Prop:=∀ p:aC.q,p∈l->0<=p.2.2.1/\p.2.2.1<=1000000000000000
def qkq(c:ar.q)(l:List aq.q)(h:dC l):jy (t9.f (c,l,())).1:=by
 obtain⟨o,r⟩:=zi6 c l h;obtain⟨_,v,_⟩:=Zl c l h;have e:gP (λy=>jy y.1) (xA (c,l,())):=by
  refine⟨λ_ _ d=>(nomatch d),λ_=>?_⟩;have g:=qk7 c l (dO.f (c,l,())).1;have b:=qk9 c (dO.f (c,l,())).1 l.length v o r (0,rA ((l.length:Int),l,(dO.f (c,l,())).1,c) []) g.1 g.2;generalize u:uf ((List.length (α:=db.q) (dO.f (c,l,())).1:Int),(dO.f (c,l,())).1,c) (0,rA ((l.length:Int),l,(dO.f (c,l,())).1,c) [])=s at b
  have i:=qlb c l.length s b.1;show jy (bw (ny ((List.length (α:=aC.q) (uf ((List.length (α:=db.q) (dO.f (c,l,())).1:Int),(dO.f (c,l,())).1,c) (0,rA ((l.length:Int),l,(dO.f (c,l,())).1,c) [])).2:Int),c) True) 0 _ (uf _ _)).2;rw[u,b.1];intro p d;obtain⟨k,n⟩:=ubs d;have a:k<l.length:=by rw[<- i.1];exact(uak.1 n).1
  have m:=i.2 k;rw[b.2 k a]at m;have t:i7 (bw (ny ((l.length:Int),c) True) 0 (Lrp (Int.toNat (l.length:Int)) ()) s).2 k=p.2.2.1:=by unfold i7;rw[uah,n];rfl
  rw[<- t,m];exact⟨H8 _ _ o,r k a⟩
 exact dS e
def Zj:0<=(aC.j:aC.q).2.2.1/\(aC.j:aC.q).2.2.1<=1000000000000000:=by decide
def zi4{l:List aC.q}(h:jy l)(k:Nat):0<=(l.getD k aC.j).2.2.1/\(l.getD k aC.j).2.2.1<=1000000000000000:=by
 rw[uah];cases a:l[k]? with
 |none=>exact Zj
 |some p=>exact h p (ubg a)
def zi7{l:List aC.q}(h:jy l){k:Nat}{v:aC.q}(b:0<=v.2.2.1/\v.2.2.1<=1000000000000000):jy (l.set k v):=λp a=>by
 rcases uap a with a|a
 exact h p a;rw[a];exact b
def qwj(k:Int×(List Int)×(List aC.q)×Int×Int×(List bj.q)×ak.q)(a:jy k.2.2.1)(s:List aC.q)(c:jy s):jy (MU k s):=
 r9 (step:=Dl k True) (λ_=>jy) k.2.1 (λ_ _ _ _ b=>zi7 b (zi4 a _)) s c
def qwl(O:n<=40){st:ak.q}(A:ix st)(h:SI n st):(e8 st).2.1=0/\jy (e8 st).1:=by
 have c:=qpm h.ci;obtain⟨G,H⟩:=qy0 st λf a=>⟨(c f a).1,(c f a).2.1⟩;obtain⟨_,K⟩:=Wl st A.1;have o:=Bg A;have w:gP (λy=>y.2.1=0/\jy y.1) (F5 (st,())):=by
  refine⟨λk=>absurd G (jx k),λ_=>?_⟩;have d:=BL (step:=zE (mZ st) True) (λ_ (s:List aC.q)=>jy s) (λ_=>False) (js st).1 (λi e s M u=>by
   have B:=ubg M;obtain⟨E,F⟩:=K e B;have C:=H e B;obtain⟨D,g⟩:=qwh (st:=st) (Q:=λf=>f∈aJ st/\gT st f=(e.2.1,0,())) (xW (mZ st) i e s) (λx b=>⟨eT (F x b),(C.2 x b).2⟩);generalize N:ug (xW (mZ st) i e s) []=l at D g
   have t:l.length<=n:=by rw[D];exact ueq E h.nf
   have L:∀ f∈l,e.2.1.1=f.1.2.2.1:=λf a=>by have z:=(c f (g f a).1).2.2;rw[(g f a).2]at z;exact z
   have m:dC l:=⟨by omega,λf a=>o.2 f (g f a).1⟩;have T:xh e.2.1 l=0:=qn4 O t C.1 L (λx b=>h.form x (g x b).1) (λx b=>h.made x (g x b).1) (λx b=>h.na x (g x b).1);show gP _ (Jb ((vK e (ug (xW (mZ st) i e s) [])).2.1 != 0) _ _);rw[N];have v:(vK e l).2.1=0:=(qkp e.2.1 l).trans T;exact⟨λk=>absurd v (jx k),λ_=>qwj (G0 (mZ st) i e l) (qkq e.2.1 l m) s u⟩) (Lrp (Int.toNat (List.length (α:=aq.q) st.2.2.1:Int)) aC.j) (λp P=>by rw[List.eq_of_mem_replicate P];exact Zj)
  have b:∀ r,bC (zE (mZ st) True) 0 (js st).1 (Lrp (Int.toNat (List.length (α:=aq.q) st.2.2.1:Int)) aC.j)=r->iV (λ(s:List aC.q)=>jy s) (λ_=>False) r:=λr R=>R ▸ d;refine qyg (MN (Q:=λy:aa [.sl aC,i64]=>y.2.1=0/\jy y.1) (λs u=>?_) (λy S=>(b _ S).elim));exact⟨rfl,b _ u⟩
 exact dS w
def BP{b:Int}(h:a<=x/\x<=b):(fj.f ((a,b,()),[x],())).1=true:=by show iI a b [x]=Z;unfold iI;simp[h.1,h.2]
def qws{i k l b e:Int}(h:(bif bif bif bif jA i 1 1000000000 then jA p 1 1000000000 else Y then jA e 0 1000000000 else Y then bif jA l 1 292194 then jA b 1 292194 else Y else Y then jA k 0 7 else Y)=Z):(1<=i/\i<=1000000000)/\(0<=e/\e<=1000000000)/\(1<=l/\l<=292194)/\(0<=k/\k<=7):=by unfold jA at h;simp only[gQ,udd,ucu]at h;omega
def qwt{c:dx.q}(h:nN c=Z):(1<=c.1/\c.1<=1000000000)/\(0<=c.2.2.2.2.2.1/\c.2.2.2.2.2.1<=1000000000)/\(1<=c.2.2.2.1/\c.2.2.2.1<=292194)/\(0<=c.2.2.1/\c.2.2.1<=7):=qws h
def zfy{c:dx.q}{m:Int}(h:nN c=Z)(f:0<=m/\m<=1000000000000000):l8 (c.1,c.2.2.2.2.2.1,c.2.2.2.1,c.2.2.1,m,())=true:=by obtain⟨a,b,d,e⟩:=qwt h;unfold l8 xE;simp only[S2,qdu];rw[BP a,BP b,BP d,BP e,BP f];rfl
def zf0{a:ak.q}{l:List aC.q}(k:∀ g∈aJ a,nN g.1=Z)(m:jy l)(o:l.length<=List.length (α:=aq.q) (aJ a)):(MV ((l.length:Int),l,a) []).length<=l.length/\∀ x:ax.q,x∈MV ((l.length:Int),l,a) []->l8 x=true:=
 r9 (step:=Dm ((l.length:Int),l,a) True) (λi (s:List ax.q)=>s.length<=i/\∀ x:ax.q,x∈s->l8 x=Z) l (λi e s f d=>by
  refine⟨λ_=>⟨?_,λx b=>?_⟩,λ_=>⟨uc4 d.1,d.2⟩⟩;show(s++[_]).length<=i+1;rw[ub6];exact udk d.1;rcases udt.1 b with b|b
  exact d.2 x b;rw[ucf.1 b];have n:=eO f;exact zfy (c:=((aJ a).getD ((i:Int)).toNat aq.j).1) (k _ (eT ⟨ub4 _,by omega⟩)) (m e (ubg f))) [] ⟨ufd _,λ_ h=>(nomatch h)⟩
def Yj{n:Int}{y:Bool}:{l:List (Int×Bool)} -> {x:Int×Bool}->x∈eZ l n y->x.1=n\/x∈l
 |[],x,h=>by rw[ucf.1 h];exact .inl rfl
 |z::l,x,h=>by
  unfold eZ at h;cases a:z.1==n;rw[a]at h;rcases uej.1 h with h|h
  exact .inr (by rw[h];exact ucc);rcases Yj h with h|h
  exact .inl h;exact .inr (ubj _ h);rw[a]at h;rcases uej.1 h with h|h
  exact .inl (by rw[h]);exact .inr (ubj _ h)
def zgj{n:Int}{l:List (Int×Bool)}(h:∀ x∈l,x.1≠n):jf l n Y=false:=by unfold jf;rw[List.find?_eq_none.2 (λx a=>by simpa using h x a)]
def zq5{a:List ah.q}(h:Up (λt:ah.q=>t.1) a):(AP.f (a,())).1=false:=by
 have d:=BL (step:=qv ((a.length:Int),a) True) (λi (s:List (Int×Bool))=>∀ x∈s,∃ j,j<i/\∃ t:ah.q,a[j]?= U t/\t.1=x.1) (λ_=>False) a (λi e s v c=>by
  refine⟨λu=>?_,λ_ x b=>?_⟩;rw[zgj λx b p=>?_]at u;cases u;obtain⟨j,l,t,z,o⟩:=c x b;obtain⟨m,n⟩:=uak.1 z;obtain⟨k,g⟩:=uak.1 v;have:=uan.1 h j i m k l;rw[n,g]at this;exact uep _ (Int.lt_of_lt_of_le this (ue7 (o.trans p).symm));rcases Yj b with b|b
  exact⟨i,Nat.lt_succ_self _,e,v,b.symm⟩;obtain⟨j,l,r⟩:=c x b;exact⟨j,Nat.lt_succ_of_lt l,r⟩) [] (λ_ b=>(nomatch b))
 have e:(AP.f (a,())).1=match bC (qv ((a.length:Int),a) True) 0 a []with
   |.inl _=>Y
   |.inr y=>y.1.1:=by
  show(Bp (a,())).get.1=_;unfold Bp;rw[GF];split;rename_i s c;rw[show bC (qv ((a.length:Int),a) True) 0 a []=.inl s from c]
  try rfl
  rename_i y c;rw[show bC (qv ((a.length:Int),a) True) 0 a []=.inr y from c]
  try rfl
 rw[e];cases w:bC (qv ((a.length:Int),a) True) 0 a []with
 |inl s=>rfl
 |inr y=>rw[w]at d;exact d.elim
def zir{s:ak.q}(h:QI s){x:ax.q}(b:l8 x=Z):(tD.f (bT s,x,())).1=false:=by
 have a:=OA b;have e:(tD.f (bT s,x,())).1=J ((bT s).foldl (rZ x) 0>10000):=by show J (bw (Ij ((List.length (α:=ah.q) (bT s):Int),bT s,x) True) 0 (bT s) 0>10000)=_;rw[BK (g:=rZ x) (λi t n=>?_)];unfold rZ;show(if (bif t.2.1==1 then vR t x else Y)=Z then I6.wrap (n+t.2.2.2.1)else n)=_;cases (bif t.2.1==1 then vR t x else Y)<;>rfl
 rw[e];have c:=ZE x a (bT s) 0 h.right (ufe _) (by have:=h.len;omega);have d:=h.sum x.2.2.1 x.2.2.2.1 a;exact udw (by omega)
def zqi{s:ak.q}(h:QI s)(k:Up (λt:ah.q=>t.1) (bT s)){l:List ax.q}(m:l.length<=2000)(g:∀ x:ax.q,x∈l->l8 x=Z):(nR.f (bT s,l,())).1=0:=by
 have n:=h.len;have i:gP (λy:aa [i64]=>y.1=0) (NP (bT s) l):=by refine⟨λa=>?_,λ_=>⟨λa=>?_,λ_=>rfl⟩⟩;rw[zq5 k]at a;cases a;have a:l.any (λx=>(tD.f (bT s,x,())).1)=true:=a;rw[At (p:=λx=>(tD.f (bT s,x,())).1) λx c=>zir h (g x c)]at a;cases a
 have a:gP (λy:aa [i64]=>y.1=0) (GI (bT s) l):=by refine⟨λd=>?_,λ_=>⟨λd=>?_,λ_=>i⟩⟩;have:=ucx d;omega;have:=ucx d;omega
 have e:gP (λy:aa [i64]=>y.1=0) (FE (bT s,l,())):=by refine⟨λd=>⟨λb=>?_,λ_=>a⟩,λ_=>⟨λb=>?_,λ_=>a⟩⟩;have b:(bT s).any (λx=>!(gG x))=true:=b;rw[At (p:=λx=>!(gG x)) λx c=>by rw[h.right x c];rfl]at b;cases b;have b:l.any (λx=>!(l8 x))=true:=b;rw[At (p:=λx=>!(l8 x)) λx c=>by rw[g x c];rfl]at b;cases b
 exact dS e
def I0(a:Int)(l:List ay.q):List ay.q:=l.filter λx=>J (x.2.1<=a)
def qrj{h:aD.q}{t:bh.q}(b:(fT h t).2=0):(gm h t).2=0/\(c9 h t).2=0/\(eq (c9 h t).1 292195).2=0/\(fT h t).1=qrn (c9 h t).1 292195+(gm h t).1:=by
 unfold fT at *;split at b;rename_i a;rw[uf0 a];split at b;rename_i c;rw[uf0 c];have d:(c9 h t).2=0:=by unfold gm at a;split at a;rename_i d;exact d;exact a
 refine⟨a,d,c,?_⟩;have f:=(qdr c).2.2.2 292195;unfold Lm at *;split at b;cases b;rename_i e;rw[uf1 e,f];rfl;rename_i c;exact absurd b c;rename_i a;exact absurd b a
def qb7(m:n<=40){b:ak.q}(d:ix b)(h:SI n b):mT b=0\/mT b=5:=by
 by_cases i:mT b=0;exact .inl i;obtain⟨g,k⟩:=qwl m d h;rcases zpj i with e|⟨a,l,e⟩|e|e
 exact .inr e;exact .inl (e.trans (h.ci.ri.due a l));exact .inl (e.trans g);refine .inl (e.trans ?_);have c:=Mk b d.1 (Bg d) g;obtain⟨o,p⟩:=zf0 h.form k (Nat.le_of_eq c);have f:(uH b).length<=2000:=by have r:(uH b).length<=List.length (α:=aC.q) (e8 b).1:=o;have s:List.length (α:=aC.q) (e8 b).1=List.length (α:=aq.q) (aJ b):=c;have t:=h.nf;omega
 exact(zqh (bT b) (uH b)).trans (zqi h.qi h.ci.ri.tres f p)
def qrp{h:aD.q}{t:bh.q}(d:Int)(c:(fT h t).2=0):(EP.f (h,t,d,())).2.1=0:=by
 obtain⟨e,g,i,_⟩:=qrj c;obtain⟨_,_,_,k⟩:=qdr i;have b:gP (λy:aa [i64,i64]=>y.2.1=0) (F8 (h,t,d,())):=by refine⟨λa=>absurd g (jx a),λ_=>⟨λa=>absurd (ufy Prod.snd (k _)) (jx a),λ_=>⟨λa=>absurd e (jx a),λ_=>⟨λ_=>rfl,λ_=>rfl⟩⟩⟩⟩
 exact dS b
def qi1{a:ak.q}(d:Int)(h:RI a):(mO a d).2.1=0\/(mO a d).2.1=5:=by
 have c:=BL (step:=vN (uz a d) True) (λ_ _=>True) (λ_=>False) a.2.1 (λi e s v _=>by
  have A:(Fm (uz a d) e).2.1=0:=qrp d (h.due e (ubg v));have u:∀ {o t:Type} (Q:t->Prop) (k:o->Fr t) (f:Fr o),(∀ x,gP Q (k x))->gP Q (nE k f):=by
   intro o t Q k f w
   induction f with
   |val x=>exact w x
   |br b x y g m=>exact⟨λ_=>g,λ_=>m⟩
   |need p x g=>exact g
  exact⟨λl=>absurd A (jx l),λ_=>u _ _ _ λ_=>uT⟩) cO.j trivial
 have n:gP (λy:aa [i64,i64]=>y.2.1=0\/y.2.1=5) (LR (a,d,())):=by have g:∀ r,bC (vN (uz a d) True) 0 a.2.1 cO.j=r->iV (λ_=>True) (λ_=>False) r:=λr z=>z ▸ c;refine MN (Q:=λy:aa [i64,i64]=>y.2.1=0\/y.2.1=5) (λs _=>?_) (λy m=>(g _ m).elim);exact⟨λ_=>.inr rfl,λ_=>.inl rfl⟩
 exact dS n
structure LnI (l:List bD.q) (last:Int):Prop where
 at_:∀ x:bD.q,x∈l->1<=x.1/\x.1<=last/\x.2.1≠0
 up:l.Pairwise (λa b=>a.1<b.1)
def Uq(f:ae.q)(d:bQ.q)(m:Int):LnI (bN (eQ f d m)) 9:=by
 have o:∀ i:Int,LnI (bw (nz (kW d m,f.1,i,aW.j) True) 0 (Lrp 9 ()) []) 9:=λi=>
  r9 (step:=nz (kW d m,f.1,i,aW.j) True) (λj (s:List bD.q)=>LnI s (j:Int)) (Lrp 9 ()) (λj e s t g=>by
   have u:=eO t;rw[ubc]at u;have v:I6.wrap ((j:Int)+1)=((j+1:Nat):Int):=by rw[IntWalk.i64_in _ (by omega)];omega
   have k:LnI s ((j+1:Nat):Int):=⟨λx b=>⟨(g.at_ x b).1,ue6 (g.at_ x b).2.1 (by omega),(g.at_ x b).2.2⟩,g.up⟩;refine⟨λl=>?_,λ_=>k⟩;show LnI (s++[(I6.wrap ((j:Int)+1),(gn (kW d m)).getD (I6.wrap ((j:Int)+1)).toNat 0,())]) _;have l:=jx l;rw[v]at l |-;refine⟨λx b=>?_,ubp.2 ⟨g.up,uay _ _,λa p c r=>?_⟩⟩;rcases udt.1 b with b|b
   exact k.at_ x b;rw[ucf.1 b];exact⟨by show(1:Int)<=((j+1:Nat):Int);omega,ufe _,l⟩;rw[ucf.1 r];exact Int.lt_of_le_of_lt (g.at_ a p).2.1 (by omega:(j:Int)<((j+1:Nat):Int))) [] ⟨λ_ h=>(nomatch h),List.Pairwise.nil⟩
 have n:gP (λy=>LnI (bN y.1) 9) (tY (f,d,m,())):=⟨λ_=>o _,λ_=>o _⟩;exact dS n
def qrz(f:ae.q)(d:bQ.q)(m:Int):ne (bN (eQ f d m))%(18446744073709551616:Int)=0:=by
 have k:=Uq f d m;rw[<- Oa (bN (eQ f d m)) λx l=>⟨(k.at_ x l).1,(k.at_ x l).2.1⟩];unfold rP;dsimp only;rw[mP f d m 1 (by decide),mP f d m 2 (by decide),mP f d m 3 (by decide),mP f d m 4 (by decide),mP f d m 5 (by decide),mP f d m 6 (by decide),mP f d m 7 (by decide),mP f d m 8 (by decide),mP f d m 9 (by decide)];have i:∀ a b c e g h:Int,(I6.wrap (I6.wrap (b-c)+e)+I6.wrap (a-b)+I6.wrap (m-a)+I6.wrap (0-m)+I6.wrap (c-e)+I6.wrap (0-g)+g+h+I6.wrap (0-h))%(18446744073709551616:Int)=0:=by intro a b c e g h;simp only[udg];omega
 exact i _ _ _ _ _ _
def Vk(k:Int×(List bD.q)×aW.q):(l:List bD.q)->(i:Int)->(s:Int×Int)->(∀ x:bD.q,x∈l->s.2<x.1/\x.1<=9/\x.2.1≠0 /\ -1000000000000000<=x.2.1/\x.2.1<=1000000000000000)->l.Pairwise (λa b=>a.1<b.1)->(-9223372036854775808<=s.1/\s.1<=9223372036854775807) ->
  ∃ c,bC (n9 k True) i l s=.inl c /\ -9223372036854775808<=c.1/\c.1<=9223372036854775807
 |[],_,s,_,_,h=>⟨s,rfl,h⟩
 |x::l,i,s,d,t,_=>by
  obtain⟨f,g,m,n,o⟩:=d x ucc;obtain⟨u,v⟩:=uca.1 t;have p:(bif bif bif bif J (x.1<=s.2)then Z else J (x.1>9)then Z else x.2.1==0 then Z else J (x.2.1 < -1000000000000000)then Z else J (x.2.1>1000000000000000))=false:=by rw[udw (ufo.2 f),udw (ufp.2 g),show(x.2.1==0)=Y by simpa using m,udw (ufp.2 n),udw (ufp.2 o)];rfl
  have r:(n9 k True i x s).get=.inl (I6.wrap (s.1+x.2.1),x.1):=by show(if (bif bif bif bif J (x.1<=s.2)then Z else J (x.1>9)then Z else x.2.1==0 then Z else J (x.2.1 < -1000000000000000)then Z else J (x.2.1>1000000000000000))=Z then _ else _)=_;rw[p];rfl
  unfold bC;rw[r];exact Vk k l (i+1) _ (λy e=>⟨u y e,(d y (ubj _ e)).2⟩) v (by show -9223372036854775808<=I6.wrap (s.1+x.2.1)/\I6.wrap (s.1+x.2.1)<=9223372036854775807;rw[udg];omega)
def zh5(h:a%(18446744073709551616:Int)=0)(b : -1000000000000000<=a/\a<=1000000000000000)(c:a≠0):False:=by omega
def qwu{e:aW.q}(b:LnI (bN e) 9)(a:ne (bN e)%(18446744073709551616:Int)=0)(g:∀ x:bD.q,x∈bN e -> -1000000000000000<=x.2.1/\x.2.1<=1000000000000000)(v:bN e ≠ [])(k:1<=e.1/\e.1<=292194)(l:0<=e.2.1/\e.2.1<=1000000000):pV e:=by
 obtain⟨i,d,w⟩:=Vk (((bN e).length:Int),bN e,e) (bN e) 0 (0,0) (λx c=>⟨Int.lt_of_lt_of_le (by decide:(0:Int)<1) (b.at_ x c).1,(b.at_ x c).2.1,(b.at_ x c).2.2,g x c⟩) b.up (by decide);have o:i.1=0:=by have:=(Mq _ _ _ _ i (ufe 0) d).2;rw[show((0:Int),(0:Int)).1=0 from rfl,Int.zero_add,a]at this;omega
 have m:2<=(bN e).length:=by
  match u:bN e,v with
  |[x],_=>
   exfalso;rw[u]at a g b;have p:=g x ucc;have r:=(b.at_ x ucc).2.2;have t:ne [x]=x.2.1:=by show x.2.1+0=_;rw[ue8]
   rw[t]at a;exact zh5 a p r
  |_::_::_,_=>simp
 have n:pz.f (e,())=(i.1,bif bif bif bif J (e.1>=1)then J (e.1<=292194)else Y then J (e.2.1>=0)else Y then J (e.2.1<=1000000000)else Y then J (((bN e).length:Int)>=2)else Y,()):=by show(ua (e,())).get=_;unfold ua;rw[GF];split;rename_i s a;have h:=Sum.inl.inj ((show bC (n9 (((bN e).length:Int),bN e,e) True) 0 (bN e) (0,0)=.inl s from a).symm.trans d);subst h;rfl;rename_i y a;cases (show bC (n9 (((bN e).length:Int),bN e,e) True) 0 (bN e) (0,0)=.inr y from a).symm.trans d
 unfold pV;rw[n];refine⟨?_,o⟩;show(bif bif bif bif J (e.1>=1)then J (e.1<=292194)else Y then J (e.2.1>=0)else Y then J (e.2.1<=1000000000)else Y then J (((bN e).length:Int)>=2)else Y)=Z;rw[ueb (show e.1>=1 from k.1),ueb k.2,ueb (show e.2.1>=0 from l.1),ueb l.2,ueb (show((bN e).length:Int)>=2 by omega)];rfl
def ql3{f:ae.q}(h:wE f=Z):iw f=0:=by
 unfold wE at h;simp only[LD,Fr.get,gQ,udd]at h
 iterate 12 replace h:=h.1
 exact ufv h.2
def qx3{f:ae.q}(h:cG f=Z)(d:aM f≠6):0<=iw f/\iw f<=1000000000:=by
 have a:=BF h;have c:∀ {P:Prop},(md f=Z/\P)->0<=iw f/\iw f<=1000000000:=λh=>by have h:=h.1;unfold md at h;simp only[udd,ucu]at h;omega
 have b:iw (se f)=0:=by unfold cG at h;simp only[udd]at h;exact ql3 h.2.2.1
 unfold pp at a;rcases qs (BG h)with k|k|k|k|k|k|k
 rw[k]at a;have a:(md f&&i9 (ma f))=true:=a;rw[udd]at a;exact c a;rw[k]at a;have a:((md f&&fk (iv f))&&(iv f).1==bF f)=true:=a;rw[udd,udd]at a;exact c a.1;rw[k]at a;have a:((md f&&J (ej f>=1))&&J (ej f<=1000000000000000))=true:=a;rw[udd,udd]at a;exact c a.1;unfold se at b;rw[k]at b;have b:iw f=0:=b;rw[b];decide;rw[k]at a;have a:((md f&&lc (lu f))&&(lu f).1==bF f)=true:=a;rw[udd,udd]at a;exact c a.1;exact absurd k d;unfold se at b;rw[k]at b;have b:iw f=0:=b;rw[b];decide
def zqw{t:ah.q}(h:gG t=Z):1<=t.1/\t.1<=1000000000:=by
 have b:iI 1 1000000000 [t.1]=true:=by cases c:iI 1 1000000000 [t.1];unfold gG ub at h;have a:(fj.f ((1,1000000000,()),[t.1],())).1=false:=c;simp only[a]at h;cases h;rfl
 unfold iI at b;simpa using b
def qrt{f:ae.q}(h:cG f=Z)(d:bQ.q)(m:Int):0<=(eQ f d m).2.1/\(eQ f d m).2.1<=1000000000:=by
 have b:gP (λy=>0<=y.1.2.1/\y.1.2.1<=1000000000) (tY (f,d,m,())):=by refine⟨λa=>?_,λa=>?_⟩;have a:aM f=6:=ufv a;have:=zqw (V6 h a);exact⟨ue6 (by decide) this.1,this.2⟩;have a:(aM f==6)=false:=a;exact qx3 h (by simpa using a)
 exact dS b
def qru{f:ae.q}(h:cG f=Z){d:bQ.q}{m:Int}(e:¬ ((List.length (α:=bD.q) (eQ f d m).2.2.1:Int)==0)=Z)(a:Sv (eQ f d m)=Y):pV (eQ f d m):=by refine qwu (Uq f d m) (qrz f d m) (λx g=>?_) (λc=>e ?_) (by rw[Bc];exact ML h) (qrt h d m);have a:(bN (eQ f d m)).any (λy=>bif J (y.2.1>1000000000000000)then Z else J (y.2.1 < -1000000000000000))=false:=a;rw[uc3]at a;have b:=a x g;simp only[wF,udu,not_or,ucu]at b;exact⟨ufp.1 b.2,ufp.1 b.1⟩;show((List.length (α:=bD.q) (bN (eQ f d m)):Int)==0)=Z;rw[c];rfl
def zj0{b:bq.q}{x:aW.q}(g:pV x)(m:(bU b).length<2000)(k:∀ e∈bU b,e.1<=x.1):(mu b x).2.1=0:=by
 have a:gP (λy=>y.2.1=0) (tZ (b,x,())):=by refine⟨λh=>?_,λ_=>⟨λh=>absurd g.2 (jx h),λ_=>⟨λh=>?_,λ_=>⟨λh=>?_,λ_=>rfl⟩⟩⟩⟩;have h:(!(pz.f (x,())).2.1)=true:=h;rw[g.1]at h;cases h;have h:((bU b).length:Int)>=2000:=ucx h;omega;have h:(bif J (((bU b).length:Int)>0)then J (x.1<((bU b).getD (I6.wrap (((bU b).length:Int)-1)).toNat aW.j).1)else Y)=true:=h;by_cases c:((bU b).length:Int)>0;rw[ueb c]at h;have h:=ucx h;rw[IntWalk.i64_in _ (by omega)]at h;exact absurd h (ufp.2 (k _ (eT (l:=bU b) (i:=((bU b).length:Int)-1) (d:=aW.j) ⟨by omega,by omega⟩)));rw[udw c]at h;cases h
 exact dS a
structure tI (n:Nat) (s:cr):Prop where
 si:SI n s.2.2.2
 few:ix s.2.2.2
 len:(bU s.1).length<=n
def qcj{s:cr}(h:tI n s):tI (n+1) s:=⟨Pp h.si,h.few,uc4 h.len⟩
def Na(n:Nat)(f:ae.q)(s:cr):cr ⊕ ka.R.X->Prop
 |.inl a=>tI (n+1) a/\(bU a.1=bU s.1 \/ ∃ x:aW.q,x.1=f.1/\bU a.1=bU s.1++[x])
 |.inr y=>y.1.1=5
def ZW(v:n<40){f:ae.q}{s:cr}{d:ak.q}(m b:Int)(h:tI n s)(l:SI (n+1) d)(i:ix d)(t:cG f=Z)(r:∀ e∈bU s.1,e.1<=f.1):gP (Na n f s) (nq (0,[],0,bq.j) 0 f s d m b):=by
 have a:=h.len;refine⟨λ_=>⟨⟨l,i,uc4 h.len⟩,.inl rfl⟩,λc=>⟨λ_=>rfl,λo=>?_⟩⟩;have p:=qru t (λh=>by rw[h]at c;cases c) o;have k:=zj0 (b:=s.1) p (by omega) (λe g=>by rw[Bc];exact r e g);refine⟨λu=>absurd k (jx u),λ_=>?_⟩;have g:bU (mu s.1 (eQ f (BM (u9 (0,[],0,bq.j) 0 f s d m b)) m)).1=bU s.1++[eQ f (BM (u9 (0,[],0,bq.j) 0 f s d m b)) m]:=by rw[O8 k];rfl
 refine⟨⟨l,i,?_⟩,.inr ⟨_,Bc _ _ _,g⟩⟩;show(bU (mu s.1 _).1).length<=n+1;rw[g,ub6];exact udk a
def zkp(i:n<40){f:ae.q}{s:cr}(h:tI n s)(k:∀ e∈bU s.1,e.1<=f.1):gP (Na n f s) (CL f s):=by
 refine⟨λ_=>⟨qcj h,.inl rfl⟩,λb=>?_⟩;have b:(dq s.2.2.2 f).2=0:=gW b;have c:SI (n+1) (ec s.2.2.2 f).1:=qbe h.si b;have d:ix (ec s.2.2.2 f).1:=L7 f h.few b;have l:=(NQ (Dp b).1).1;have a:=qb7 (by omega) d c;refine⟨λg=>?_,λ_=>⟨λ_=>⟨λg=>?_,λ_=>ZW i _ _ h c d l k⟩,λ_=>ZW i _ _ h c d l k⟩⟩;rcases a with a|a
 exact absurd a (jx g);exact a;rcases qi1 f.2.2.2.2.1 c.ci.ri with a|a
 exact absurd a (jx g);exact a
def VL(b:Int):(l:List ae.q)->(n:Nat)->n+l.length<=40->l.Pairwise (λf g=>f.1<=g.1)->(s:cr)->tI n s->(∀ e∈bU s.1,∀ f∈l,e.1<=f.1)->match eD b l s with
  |.inl _=>True
  |.inr y=>y.1.1=5
 |[],_,_,_,_,_,_=>trivial
 |f::l,n,p,r,s,h,m=>by
  rw[uda]at p;obtain⟨p1,p2⟩:=uca.1 r;have k:Na n f s (j7 b f s):=by rw[HP];split;exact⟨qcj h,.inl rfl⟩;exact dS (zkp (by omega) h λe i=>m e i f ucc)
  unfold eD;cases i:j7 b f s with
  |inr y=>rw[i]at k;exact k
  |inl u=>
   rw[i]at k;obtain⟨o,d⟩:=k;refine VL b l (n+1) (by omega) p2 u o (λe a g c=>?_);rcases d with d|⟨x,t,d⟩
   rw[d]at a;exact m e a g (ubj _ c);rw[d]at a;rcases udt.1 a with a|a
   exact m e a g (ubj _ c);rw[ucf.1 a,t];exact p1 g c
def X3{j:aE.q}(a:Int)(m:bf j.1)(k:List.length (α:=ae.q) j.2.1<=40)(l:List.Pairwise (λf g:ae.q=>f.1<=g.1) j.2.1):((i5 j a).2.1=0\/(i5 j a).2.1=5/\(i5 j a).1=bq.j):=by
 have b:=VL a j.2.1 0 (by rw[uez];exact k) l (fK j) ⟨qbd j.1,Fv m,ufd _⟩ (λ_ h=>(nomatch h));have c:=BN a j.2.1 (fK j) ⟨λe d=>(by cases d),List.Pairwise.nil⟩;rw[uB];cases i:eD a j.2.1 (fK j)with
 |inl s=>exact .inl rfl
 |inr y=>rw[i]at b c;exact .inr ⟨b,c.2⟩
def mx(c n:Int):Int:=U6.wrap (U6.wrap (Bvo U6.bits c ^^^ Bvo U6.bits (U6.wrap n)).toNat*1099511628211)
abbrev Hh:Pt:=⟨20,0,⟨[(9,.d i64),(8,.d i64),(7,.d aP),(0,.d u64)],[]⟩,⟨[(0,.d u64)],[]⟩,⟨[],[]⟩⟩
def Id(_k:Int×List Int)(b:Prop)(_i:Int)(e:i64.q)(s:Int):Fr Int:=Jd b (Jv (mx s e))
def qjj:Hh.M.X->Fr Hh.Out:=FG (λx=>(x.1.1,(x.1.2.1,x.1.2.2.1),x.1.2.2.2.1)) (λk=>k.1) (λk=>k.2) Id (λ_ s=>((s,()),()))
def zex:af prog (.loop (au f77 0)) Hh.M Hh qjj:=
 cX aL (λi k s=>((i,k.1,k.2,s,()),())) i64.j
def N4(l:List Int):Int×List Int:=((l.length:Int),l)
def UR(x:ap [.d u64,.d aP]):Fr (aa [u64]):=
 cT (InK (List.length (α:=Int) x.2.1:Int) 0 (List.length (α:=Int) x.2.1)) (bY (Id (N4 x.2.1) True) 0 x.2.1 x.1) (bw (Id (N4 x.2.1) True) 0 x.2.1 x.1) (λs=>Jv (s,()))
def quz:ag prog 77 (bg [.d u64,.d aP] [u64] UR):=
 cZ aL zex (fn:=f77)
def Kx:Ct:=⟨[.d u64,.d aP],[u64],λx=>(UR x).get,λ_=>[]⟩
def qmv:ag prog 77 Kx:=cq quz _ (λx a _=>qz (jd a.2.1.1) (yx (step:=Id (N4 x.2.1) True) (λ_ _ _=>⟨uT,uT⟩) _ _ _) (λ_=>uT))
def QV:Cx:=cx [(77,Kx)] []
def DQ:CxOK prog QV:=aQ aH ⟨qmv,uT⟩ trivial
def NV(c:Int)(l:List Int):Int:=(Kx.f (c,l,())).1
abbrev yT:Pt:=⟨48,2,⟨[(34,.d i64),(33,.d i64),(32,.d (.sl bD)),(5,.d u64),(13,.d i64),(12,.d i64),(11,.d (.sl aW)),(1,.d i64)],[]⟩,⟨[(5,.d u64),(13,.d i64),(12,.d i64),(11,.d (.sl aW)),(1,.d i64)],[]⟩,⟨[],[]⟩⟩
abbrev G3:Type:=(Int×List bD.q)×Int×Int×List aW.q×Int
def Ic(_k:G3)(b:Prop)(_i:Int)(e:bD.q)(s:Int):Fr Int:=Jd b (Jv (NV s [e.1,e.2.1]))
def WK:Code:=((Go.Ab.loopB (au f51 0) 0).getD .skip)
def R2:yT.M.X->Fr yT.Out:=FG (λx=>(x.1.1,(((x.1.2.1,x.1.2.2.1),x.1.2.2.2.2.1,x.1.2.2.2.2.2.1,x.1.2.2.2.2.2.2.1,x.1.2.2.2.2.2.2.2.1):G3),x.1.2.2.2.1)) (λk=>k.1.1) (λk=>k.1.2) Ic (λk s=>((s,k.2.1,k.2.2.1,k.2.2.2.1,k.2.2.2.2,()),()))
def zew:af prog (.loop WK) yT.M yT R2:=
 cX DQ (λi (k:G3) s=>((i,k.1.1,k.1.2,s,k.2.1,k.2.2.1,k.2.2.2.1,k.2.2.2.2,()),())) bD.j
abbrev Hi:Pt:=⟨48,0,⟨[(13,.d i64),(12,.d i64),(11,.d (.sl aW)),(5,.d u64),(1,.d i64)],[]⟩,⟨[(5,.d u64)],[]⟩,⟨[],[]⟩⟩
abbrev BW:Type:=Int×List aW.q×Int
def rL(e:aW.q):List bD.q:=e.2.2.1
def N3(k:BW)(i:Int)(e:aW.q):G3:=(((rL e).length,rL e),i,k.1,k.2.1,k.2.2)
def Ie(k:BW)(b:Prop)(i:Int)(e:aW.q)(s:Int):Fr Int:=
 Jd b (Jb (J (e.1>k.2.2)) (Jv s) (cT (InK ((rL e).length:Int) 0 (rL e).length) (bY (Ic (N3 k i e) True) 0 (rL e) (NV s [e.1,e.2.1,((rL e).length:Int)])) (bw (Ic (N3 k i e) True) 0 (rL e) (NV s [e.1,e.2.1,((rL e).length:Int)])) (λs=>Jv s)))
def qjk:Hi.M.X->Fr Hi.Out:=FG (λx=>(x.1.1,((x.1.2.1,x.1.2.2.1,x.1.2.2.2.2.1):BW),x.1.2.2.2.1)) (λk=>k.1) (λk=>k.2.1) Ie (λ_ s=>((s,()),()))
def zey:af prog (.loop (au f51 0)) Hi.M Hi qjk:=
 cX DQ (λi (k:BW) s=>((i,k.1,k.2.1,s,k.2.2,()),())) aW.j (Λ:=λ_=>yT.han QV.Γ yT.M R2) (hΛ:=λ_=>nc (by kernel_rfl) (b:=WK) (by kernel_rfl) (af.han DQ rfl zew))
def G4(b:bq.q)(a:Int):BW:=((List.length (α:=aW.q) b.1:Int),b.1,a)
def UQ(x:ap [.d bq,.d i64]):Fr (aa [u64]):=
 cT (InK (List.length (α:=aW.q) x.1.1:Int) 0 (List.length (α:=aW.q) x.1.1)) (bY (Ie (G4 x.1 x.2.1) True) 0 x.1.1 14695981039346656037) (bw (Ie (G4 x.1 x.2.1) True) 0 x.1.1 14695981039346656037) (λs=>Jv (s,()))
def qu0:ag prog 51 (bg [.d bq,.d i64] [u64] UQ):=
 cZ DQ zey (fn:=f51)
def xa:Ct:=⟨[.d bq,.d i64],[u64],λx=>(UQ x).get,λ_=>[]⟩
def SP:ag prog 51 xa:=cq qu0 _ (λx a _=>qz (jd a.1.1.1) (dK (step:=Ie (G4 x.1 x.2.1) True) (λ_ _=>True) (x.1.1:List aW.q) (λi e s b _=>⟨uT,λ_=>uT,λ_=>ii (A:=λ_=>True) (jd (a.1.1.2 i e b).2.2.1.1) ⟨yx (step:=Ic (N3 (G4 x.1 x.2.1) i e) True) (λ_ _ _=>⟨uT,uT⟩) _ _ _,uT⟩ (λ_ _=>uT)⟩) _ trivial).1 (λ_=>uT))
def qid:Cx:=cx [(15,xb),(22,AN),(51,xa)] []
def qie:CxOK prog qid:=aQ aH ⟨Kz,SW,SP,uT⟩ trivial
def J9(j:aE.q)(a:Int):aa [bq,i64]:=xb.f (j,a,())
def LG(x:ap [.d aE,.d i64]):Fr (aa [bE,i64]):=
 let a:=J9 x.1 x.2.1;let b:=(a.1,x.2.1,());Jb (bif J ((x.2.1:Int)<1)then Z else J ((x.2.1:Int)>292194)) (Jv (bE.j,3,())) (Jd (bf x.1.1) (Jb (a.2.1 != 0) (Jv (bE.j,a.2.1,()))
  (Jv ((x.2.1,(AN.f b).1,(xa.f b).1,()),0,()))))
def qtw:ag prog 27 (bg [.d aE,.d i64] [bE,i64] LG):=
 aT qie f27
def qcp(j:aE.q)(a:Int)(h:bf j.1):(LG (j,a,())).s7 (λy=>y.2.1=0->y.1.1=a):=
 ⟨λ_ (h:(3:Int)=0)=>absurd h (by decide),λ_=>⟨h,λc b=>absurd (show((J9 j a).2.1 != 0)=Z from c) (by rw[show(J9 j a).2.1=0 from b];decide),λ_ _=>rfl⟩⟩
def qY:Ct:=⟨[.d aE,.d i64],[bE,i64],λx=>(LG x).get,λx=>[bf x.1.1]⟩
def EI:ag prog 27 qY:=cq qtw _ (λx _ a=>(dt (qcp x.1 x.2.1 a)).1)
def bB(j:aE.q)(day:Int):aa [bE,i64]:=qY.f (j,day,())
def qif:Cx:=cx [(27,qY)] []
def qig:CxOK prog qif:=aQ aH ⟨EI,uT⟩ trivial
def Lt(a b:dX.q):Bool:=a.1==b.1&&(a.2.1==b.2.1&&(a.2.2.1==b.2.2.1&&(a.2.2.2.1==b.2.2.2.1&&(a.2.2.2.2.1==b.2.2.2.2.1&&(a.2.2.2.2.2.1==b.2.2.2.2.2.1&&(a.2.2.2.2.2.2.1==b.2.2.2.2.2.2.1&&(a.2.2.2.2.2.2.2.1==b.2.2.2.2.2.2.2.1&&(a.2.2.2.2.2.2.2.2.1==b.2.2.2.2.2.2.2.2.1&&(a.2.2.2.2.2.2.2.2.2.1==b.2.2.2.2.2.2.2.2.2.1&&Z)))))))))
def Be(a b:bE.q):Bool:=a.1==b.1&&(Lt a.2.1 b.2.1&&(a.2.2.1==b.2.2.1&&Z))
def oN(j:aE.q)(c:bE.q):Bool:=bif (bB j c.1).2.1==0 then Be (bB j c.1).1 c else Y
def wY:Ct:=⟨[.d aE,.d bE],[.bool],λx=>(oN x.1 x.2.1,()),λx=>[bf x.1.1]⟩
def OP:ag prog 28 wY:=
 conv (aT qig f28 (fr:=λx=>Jd (bf x.1.1) (Jv (oN x.1 x.2.1,()))) (ps:=[.d aE,.d bE]) (rs:=[.bool])) _ _ (λ_ _ x _ _ a=>⟨⟨a,uT⟩,rfl⟩)
def Kv:Ct:=⟨[],[.bool],λ_=>(Z,()),λ_=>[]⟩
def qih:Cx:=cx [(27,qY),(28,wY),(51,xa)] []
def qii:CxOK prog qih:=aQ aH ⟨EI,OP,SP,uT⟩ trivial
def UE:bf (([]:List aU.q),()):=⟨ufj _,λv a=>by cases a⟩
def qtk(x:ap []):Fr (aa [.bool]):=
 let b:=xa.f (([],()),5,());let a:=qY.f ((([],()),[],()),0,());Jd (bf ([],())) (Jd ((bif b.1==14695981039346656037 then a.2.1==3 else Y)=Z->bf ([],())) (Jv (bif bif b.1==14695981039346656037 then a.2.1==3 else Y then !(wY.f ((([],()),[],()),bE.j,())).1 else Y,())))
def Sl:ag prog 25 Kv:=
 conv (aT qii f25 (fr:=qtk) (ps:=[]) (rs:=[.bool])) _ _ (λ_ _ _ _ _ _=>⟨⟨UE,λ_=>UE,uT⟩,rfl⟩)
def Ip(j:aE.q)(a:Int):bB j a=if (bif J (a<1)then Z else J (a>292194))=Z then (bE.j,3,())else if ((i5 j a).2.1 != 0)=Z then (bE.j,(i5 j a).2.1,())else ((a,zO (i5 j a).1 a,(xa.f ((i5 j a).1,a,())).1,()),0,()):=rfl
def qck{j k:aE.q}(h:i5 j day=i5 k day):bB j day=bB k day:=by rw[Ip,Ip,h]
def MS(a:Int):(l:List ae.q)->(s:cr)->eD a (l.filter (λf=>J (bF f<=a))) s=eD a l s
 |[],_=>rfl
 |f::l,s=>by
  by_cases h:bF f<=a;rw[List.filter_cons_of_pos (by simpa using h)];unfold eD;cases j7 a f s with
  |inl b=>exact MS a l b
  |inr y=>rfl
  rw[List.filter_cons_of_neg (by simpa using h),MS a l s];show _=match j7 a f s with
   |.inl b=>eD a l b
   |.inr y=>.inr y
  rw[qbx s (ufo.1 h)]
def zp0(j:aE.q)(a:Int):bB (D8 j a) a=bB j a:=qck (by rw[uB,uB];show GS (eD a (j.2.1.filter (λf=>J (bF f<=a))) (fK j))=_;rw[MS])
structure jI (n:Nat) (k:aE.q):Prop where
 few:bf k.1
 len:List.length (α:=ae.q) k.2.1<=n
 ord:List.Pairwise (λf g:ae.q=>f.1<=g.1) k.2.1
 right:∀ f:ae.q,f∈(k.2.1:List ae.q)->cG f=true
 ff:∀ f∈k.2.1,fo f
def zbp{l:List ae.q}{f:ae.q}(d:l.Pairwise (λf g=>f.1<=g.1))(h:rJ l f=Y):∀ g∈l,g.1<=f.1:=λg a=>by
 unfold rJ at h;cases b:l.getLast? with
 |none=>rw[List.getLast?_eq_none_iff.1 b]at a;cases a
 |some z=>
  rw[b]at h;have c:z.1<=f.1:=ufp.1 (uch h);obtain⟨e,rfl⟩:=List.getLast?_eq_some_iff.1 b;rcases udt.1 a with a|a
  exact ue6 ((ubp.1 d).2.2 g a z (ucf.2 rfl)) c;rw[ucf.1 a];exact c
def zas{k:aE.q}{f:ae.q}(h:jI n k)(l:fo f)(e:(cN k f).2=0):jI (n+1) (cN k f).1:=by
 obtain⟨m,_,_,o⟩:=CG e;obtain⟨p,_,r,_⟩:=ZB m;rw[o];refine⟨h.few,?_,ubp.2 ⟨h.ord,uay _ _,λa d c i=>?_⟩,λg b=>?_,λg b=>?_⟩;show(k.2.1++[f]).length<=n+1;rw[ub6];exact udk h.len;rw[ucf.1 i];exact zbp h.ord r a d;rcases udt.1 b with b|b
 exact h.right g b;rw[ucf.1 b];exact p;rcases udt.1 b with b|b
 exact h.ff g b;rw[ucf.1 b];exact l
def zat{k:aE.q}{f:ae.q}(b:fo f)(h:jI n k):jI (n+1) (oL k f):=by unfold oL;cases a:(cN k f).2==0;exact⟨h.few,uc4 h.len,h.ord,h.right,h.ff⟩;exact zas h b (ufv a)
def Xe:(l:List ae.q)->(∀ f∈l,fo f) -> {n:Nat} -> {k:aE.q}->jI n k->jI (n+l.length) (l.foldl oL k)
 |[],_,_,_,h=>h
 |f::l,a,n,_,h=>by have:=Xe l (λg b=>a g (ubj _ b)) (zat (a f ucc) h);rw[uda,show n+(l.length+1)=n+1+l.length by omega];exact this
def Nx{j:aE.q}(h:jc j 30=Z):jI 30 (j.2.1.foldl oL (j.1,[],())):=by obtain⟨e,b,c⟩:=Bf h;have a:=Xe (j.2.1:List ae.q) (λf d=>UB (c f d)) (n:=0) (k:=(j.1,[],())) ⟨e,ufd _,List.Pairwise.nil,λ_ h=>(nomatch h),λ_ h=>(nomatch h)⟩;exact⟨a.few,ueq a.len (by have b:((List.length (α:=ae.q) j.2.1:Nat):Int)<=30:=b;omega),a.ord,a.right,a.ff⟩
def HN(e:ae.q)(s:aE.q):Fr aE.q:=
 Jd True (Jd (fo e) (Jd (bf s.1) (Jb ((cN s e).2==0) (Jv (cN s e).1) (Jv s))))
def O9{j:aE.q}(h:jc j 30=Z):bY (λ_=>HN) 0 j.2.1 (j.1,[],())/\bw (λ_=>HN) 0 j.2.1 (j.1,[],())=j.2.1.foldl oL (j.1,[],()):=by obtain⟨f,_,d⟩:=Bf h;refine⟨(dK (step:=λ_=>HN) (λ_ (s:aE.q)=>s.1=j.1) j.2.1 (λi e s c b=>?_) (j.1,[],()) rfl).1,BK (step:=λ_=>HN) (g:=oL) (λi e s=>?_) j.2.1 0 _⟩;refine⟨uT,UB (d e (ubg c)),by show bf s.1;rw[b];exact f,λa=>?_,λ_=>b⟩;have a:((cN s e).2==0)=true:=a;show(cN s e).1.1=j.1;rw[(CG (ufv a)).2.2.2];exact b;unfold oL;show(if ((cN s e).2==0)=Z then (cN s e).1 else s)=_;cases (cN s e).2==0<;>rfl
def qcl(e:n<=40){k:aE.q}(h:jI n k)(a:Int):((a<1\/a>292194)/\bB k a=(bE.j,3,()))\/((1<=a/\a<=292194)/\((bB k a).2.1=5\/(bB k a).2.1=0/\(bB k a).1.1=a/\(bB k a).1.2.1=zO (i5 k a).1 a/\(i5 k a).2.1=0)):=by
 by_cases b:(bif J (a<1)then Z else J (a>292194))=Z;refine .inl ⟨?_,by rw[Ip,uf0 b]⟩;simpa[wF]using b;have f:1<=a/\a<=292194:=by simp only[wF,udu,not_or,ucu]at b;omega
 refine .inr ⟨f,?_⟩;rw[Ip,uf1 b];rcases X3 a h.few (ueq h.len e) h.ord with c|⟨d,_⟩
 rw[c];exact .inr ⟨rfl,rfl,rfl,rfl⟩;rw[d];exact .inl rfl
def qly{j:aE.q}(h:(i5 j day).2.1=0):Iq (zO (i5 j day).1 day)%(18446744073709551616:Int)=0:=by
 rw[uB]at h |-;have b:=BN day j.2.1 (fK j) ⟨λe d=>(by cases d),List.Pairwise.nil⟩;cases g:eD day j.2.1 (fK j)with
 |inr y=>rw[g]at h b;exact absurd h b.1
 |inl s=>rw[g]at b;show Iq (zO s.1 day)%(18446744073709551616:Int)=0;rw[qc9];have f:=Yu day (bU s.1) λe d=>(b.good e d).1;have a:=λc=>qlx (bU s.1) c day;have i:=a 1;have k:=a 2;have l:=a 3;have m:=a 4;have n:=a 5;have o:=a 6;have p:=a 7;have r:=a 8;have t:=a 9;unfold rP at f;dsimp only at f;clear a;show((0:Int)+kY (bU s.1) 1 day+kY (bU s.1) 2 day+kY (bU s.1) 3 day+kY (bU s.1) 4 day+kY (bU s.1) 5 day+kY (bU s.1) 6 day+kY (bU s.1) 7 day+kY (bU s.1) 8 day+kY (bU s.1) 9 day)%(18446744073709551616:Int)=0;omega
def qr0(a:dX.q):Lt a a=true:=by simp[Lt]
def Us(a:bE.q):Be a a=true:=by simp[Be,qr0]
def OS{j k:aE.q}(a:(bB j day).2.1=0)(b:(bB j day).1.1=day)(c:bB k day=bB j day):oN k (bB j day).1=true:=by unfold oN;rw[b,c,a,Us];rfl
def It(e f g:Int)(b:bq.q):Bool:=
 bif bif bif bif Z then f==0 else Y then (bif e==0 then Z else bif e==5 then (List.length (α:=aW.q) b.1:Int)==0 else Y)else Y then (bif g==0 then Z else g==5)else Y then (bif e != 0 then Z else g==0)else Y
def sy(k:aE.q)(a:Int):Fr (aa [.bool]):=
 Jd (bf k.1) (Jd (bf k.1) (Jd (bi (dW k a).1) (Jd (dC (aJ (dW k a).1)) (Jv (It (i5 k a).2.1 (dW k a).2 (cW (dW k a).1).2.1 (i5 k a).1,())))))
def qhf:Cx:=cx [(25,Kv),(26,E5),(14,t6),(29,SE),(27,qY),(28,wY)] []
def sX:CxOK prog qhf:=aQ aH ⟨Sl,L5,Pz,qyb,EI,OP,uT⟩ trivial
abbrev Ho:Pt:=⟨125,0,⟨[(8,.d i64),(1,.d i64),(5,.d .bool)],[.x 2 27 aE,.r 2 2 0,.x 7 27 aE,.r 7 7 0]⟩,⟨[(1,.d i64),(5,.d .bool)],[.x 7 27 aE,.r 7 7 0]⟩,⟨[],[]⟩⟩
def P5(k:Int×Bool×aE.q)(b:Prop)(i:Int)(e:ae.q)(s:aE.q):Fr (aE.q):=
 let a:=t6.f (s,e,());Jd b (Jd (fo e) (Jd (bf (s.1.1,())) (Jb (a.2.1==0) (Jv (a.1)) (Jv s))))
def qjr:Ho.M.X->Fr Ho.Out:=FG (λx=>(x.1.1,(x.1.2.1,x.1.2.2.1,x.2.1),x.2.2.1)) (λk=>(List.length k.2.2.2.1:Int)) (λk=>k.2.2.2.1) P5 (λk s=>((k.1,k.2.1,()),s,()))
def zff:af prog (.loop (au f10 0)) Ho.M Ho qjr:=
 cX sX (λi k s=>((i,k.1,k.2.1,()),k.2.2,s,())) ae.j
def VT:=λk s=>bw (P5 k True) 0 k.2.2.2.1 s
def zhk:=λk s=>bY (P5 k True) 0 k.2.2.2.1 s
abbrev ZF:List MI:=[.x 7 27 aE,.r 7 7 0,.x 11 82 bE,.r 11 11 0,.x 13 82 bE,.r 13 13 0]
abbrev Hp:Pt:=⟨125,2,⟨[(17,.d i64),(1,.d i64),(5,.d .bool),(16,.d i64)],ZF⟩,⟨[(1,.d i64),(5,.d .bool),(16,.d i64)],ZF⟩,⟨[],[]⟩⟩
abbrev BY:Type:=Int×Bool×aE.q×bE.q×bE.q
def zL(k:BY)(_b:Prop)(i:Int)(_e:Unit)(s:Int):Fr Int:=Jd (0<=i/\i<(10:Int)) (Jv (I6.wrap (s+(gn k.2.2.2.1.2.1).getD (Int.toNat i) 0)))
def qjs:Hp.M.X->Fr Hp.Out:=FG (λx=>(x.1.1,((x.1.2.1,x.1.2.2.1,x.2.1,x.2.2.1,x.2.2.2.1):BY),x.1.2.2.2.1)) (λ_=>10) (λ_=>Lrp 10 ()) zL
 (λ(k:BY) s=>((k.1,k.2.1,s,()),(k.2.2.1,k.2.2.2.1,k.2.2.2.2,())))
def zfg:af prog (.loop (au f10 1)) Hp.M Hp qjs:=
 cX sX (λi (k:BY) s=>((i,k.1,k.2.1,s,()),(k.2.2.1,k.2.2.2.1,k.2.2.2.2,()))) ()
def Xh(j:aE.q)(a:Int):Int×Bool×aE.q:=(a,Z,j)
def OF(k:aE.q)(c d:bE.q)(a S:Int):Fr (aa [.bool]):=
 let f:=bif Z then Be c d else Y
 let g:=bif f then c.1==a else Y
 let b:=bif g then S==0 else Y
 let e:=bif b then (gn c.2.1).getD (Int.toNat 0) 0==0 else Y
 Jd (b=Z->(0:Int)<=0/\0<(10:Int)) (Jd (e=Z->bf k.1) (Jv (bif e then oN k d else Y,())))
def BZ(k:aE.q)(c d:bE.q)(a:Int):BY:=(a,Z,k,c,d)
def Cm(a e:Int):Bool:=
 let n:=bif J (a<1)then Z else J (a>292194)
 bif Z then bif bif n then e==3 else Y then Z else bif !n then e==5 else Y else Y
def OE(k:aE.q)(a:Int)(x y:aa [bE,i64]):Fr (aa [.bool]):=
 Jb (x.2.1 != y.2.1) (Jv (Y,())) (Jb (x.2.1 != 0) (Jv (Cm a x.2.1,()))
  (cT (InK 10 0 10) (bY (zL (BZ k x.1 y.1 a) True) 0 (Lrp 10 ()) 0) (bw (zL (BZ k x.1 y.1 a) True) 0 (Lrp 10 ()) 0) (λS=>OF k x.1 y.1 a S)))
def Ma(x:ap [.d aE,.d i64]):Fr (aa [.bool]):=
 let b:=(x.1.1,[],());let a:=Xh x.1 x.2.1;Jb (!(jc x.1 30)) (Jv (Z,())) (cT (InK (List.length (α:=ae.q) x.1.2.1:Int) 0 (List.length (α:=ae.q) x.1.2.1)) (zhk a b) (VT a b) (λk=>Jd (bf k.1) (Jd (∀ f∈k.2.1,fo f) (Jd (List.length (α:=ae.q) k.2.1<=100000) (Jd (bf (D8 k x.2.1).1) (OE k x.2.1 (bB k x.2.1) (bB (D8 k x.2.1) x.2.1)))))))
def qvk:ag prog 10 (bg [.d aE,.d i64] [.bool] Ma):=
 oc sX zff zfg (fn:=f10)
def zkd{k:aE.q}{c:bE.q}{S:Int}(f:bf k.1)(d:c.1=day)(b:S=0)(a:c.2.1.1=0)(e:oN k c=Z):(OF k c c day S).ok/\(OF k c c day S).get=(Z,()):=by refine aw (λ_=>by decide) (aw (λ_=>f) ⟨uT,?_⟩);show((bif bif bif bif bif Z then Be c c else Y then c.1==day else Y then S==0 else Y then c.2.1.1==0 else Y then oN k c else Y,()):Bool×Unit)=_;rw[Us,d,b,a,e];simp
def zkc{k:aE.q}(l:jI 30 k)(a:Int):(OE k a (bB k a) (bB k a)).ok/\(OE k a (bB k a) (bB k a)).get=(Z,()):=by
 refine aN (by simp) ?_;rcases qcl (by decide) l a with ⟨b,o⟩|⟨b,g|⟨f,i,h,n⟩⟩
 have e:(bif J (a<1)then Z else J (a>292194))=true:=by
  rcases b with b|b
  rw[ueb b];rfl;rw[ueb b];cases J (a<1)<;>rfl
 rw[o];refine aV rfl ⟨uT,?_⟩;show((Cm a 3,()):Bool×Unit)=_;unfold Cm;dsimp only;rw[e];rfl;have e:(bif J (a<1)then Z else J (a>292194))=false:=by rw[udw (ufp.2 b.1),udw (ufp.2 b.2)];rfl
 refine aV (by rw[g];rfl) ⟨uT,?_⟩;show((Cm a (bB k a).2.1,()):Bool×Unit)=_;rw[g];unfold Cm;dsimp only;rw[e];rfl;have c:bw (zL (BZ k (bB k a).1 (bB k a).1 a) True) 0 (Lrp 10 ()) 0=0:=by show bw (P4 (((bB k a).1.2.1,0,0,0,[],0),bq.j,aW.j) True) 0 (Lrp 10 ()) 0=0;rw[zo0];show I6.wrap (Iq (bB k a).1.2.1)=0;rw[h];exact zr4 (qly n)
 have d:bY (zL (BZ k (bB k a).1 (bB k a).1 a) True) 0 (Lrp 10 ()) 0:=(dK (step:=zL (BZ k (bB k a).1 (bB k a).1 a) True) (λ_ _=>True) (Lrp 10 ()) (λj u s m _=>by have:=eO m;rw[ubc]at this;exact⟨by show 0<=(j:Int)/\(j:Int)<10;omega,uT⟩) 0 trivial).1
 refine aN (by rw[f];rfl) (aw ⟨rfl,by decide,by decide,by decide⟩ (aw d ?_));refine zkd l.few i c ?_ (OS f i rfl);rw[h,qc9];rfl
def qmg:Ct:=⟨[.d aE,.d i64],[.bool],λ_=>(Z,()),λ_=>[]⟩
def rebuilt30_ok:ag prog 10 qmg:=
 conv qvk _ _ (λ_ _ x _ _ _=>by
  obtain⟨j,a,_⟩:=x;show(Ma (j,a,())).ok/\(Ma (j,a,())).get=(Z,());cases d : !(jc j 30)
  ·have c:jc j 30=true:=by simpa using d
   have g:((List.length (α:=ae.q) j.2.1:Nat):Int)<=30:=(Bf c).2.1;obtain⟨e,f⟩:=O9 c;have b:=Nx c;refine aN d (aw ⟨rfl,ufe _,ub4 _,ue6 g (by decide)⟩ (aw e ?_));dsimp only;rw[show VT (Xh j a) (j.1,[],())=_ from f];generalize j.2.1.foldl oL (j.1,[],())=k at b;refine aw b.few (aw b.ff (aw (ueq b.len (by decide)) (aw b.few ?_)));rw[zp0];exact zkc b a
  exact aV d ⟨uT,rfl⟩)
abbrev psR:List PT:=[.d aE,.d i64]
end Go.Proofs.YtdokapnnagbehaaGreat
