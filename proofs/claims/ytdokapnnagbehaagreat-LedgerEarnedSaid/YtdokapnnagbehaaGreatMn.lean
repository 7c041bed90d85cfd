/-
  Parts of the proof, one behind the other.
-/
import Derived.Test.YtdokapnnagbehaaGreatMm
import Derived.Deep.RegionLaw
import Derived.LoopN
set_option linter.all false
set_option maxRecDepth 100000
set_option maxHeartbeats 4000000
open Option renaming some->U,none->V
open Bool renaming true->Z,false->Y
open Decidable renaming decide->J
open Go Go.RowKit
variable {T α σ ρ β:Type} {P:Program} {ad:Addr} {arr cs cur:Array Value} {f:FuncId} {x a y day:Int} {k:IntKind} {l:List Int} {xs vs news:List Value} {off i n b c d j B m len:Nat} {F F' K:Nat->Prop} {R g R':Nat->Value->Prop} {o:Oper} {p:Prop} {e ety t ty el:TypeId} {v u vx:Value} {w w' W' W:World}
namespace Go.Proofs.YtdokapnnagbehaaGreat
open Go Go.Ab Go.RowKit Go.Proofs Tryz
open Go.Ab.Fr renaming val->Jv,need->Jd,br->Jb
def RY(t:ah.den)(l:List ay.den):Int×(List ay.den)×(List ay.den)×ah.den:=((l.length:Int),l,l,t)
def tT(t:ah.den)(l:List ay.den):List (List Int):=(AL.f (t,l,())).1
def B8(x:ag [.d ah,.d (.sl ay)]):Fr (aa [aK,i64]):=
 Jb (bif x.1.2.1 != 3 then Z else !(iD.f (x.1,())).1) (Jv ([],1,()))
  (iY (InK (List.length x.2.1:Int) 0 (List.length x.2.1)) (qur (RY x.1 x.2.1) ()) (qmj (RY x.1 x.2.1) ()) () (aW _,bN _) (λ_=>
   Jb (J ((List.length x.2.1:Int)>2000)) (Jv ([],2,()))
    (Jd (0<=((List.length x.2.1):Int)/\((List.length x.2.1):Int)<=((List.length x.2.1):Int)/\((List.length x.2.1):Int)<=(maxLen:Int)/\((List.length x.2.1):Int)*(8:Int)<=140737488355328)
     (Jd (List.length x.2.1<=1000000)
      (cI (InK ((tT x.1 x.2.1).length:Int) 0 (tT x.1 x.2.1).length) (Tq (((tT x.1 x.2.1).length:Int),tT x.1 x.2.1,x.2.1,x.1) ((tB.f (x.1,())).1,List.replicate (((List.length x.2.1):Int)).toNat 0)) (QT (((tT x.1 x.2.1).length:Int),tT x.1 x.2.1,x.2.1,x.1) ((tB.f (x.1,())).1,List.replicate (((List.length x.2.1):Int)).toNat 0))
       (λs=>Jv (s.2,0,())))))) (λy=>Jv y.1))
def qiu:af prog 123 (bg [.d ah,.d (.sl ay)] [aK,i64] B8):=
 oP zO qr4 qr3 (fn:=f123)
def qgt(k:Int×(List (List Int))×(List ay.den)×ah.den)(i:Int)(e:List Int)(s:Int×List Int)(d:e.length<=100000/\∀ x∈e,0<=x/\x<(k.2.2.1.length:Int)):
  Ts (Cy k i e s) (0,[])/\(QU (Cy k i e s) (0,[])).2.length=e.length:=
 dk (step:=DQ (Cy k i e s) True) (λj (r:Int×List Int)=>r.2.length=j) e (λj x r c b=>by
  have g:=eD c;have h:=ew;have a:=d.2 x (ubg c);have f:r.2.length<=99999:=by rw[b];omega
  refine⟨uT,a,?_,a,?_⟩;show r.2.length+1<=maxLen/\(r.2.length+1)*8<=140737488355328;omega;show(_++[_]).length=_;rw[ub6];exact uft (· + 1) b) _ rfl
def qgu(k:Int×(List Int)×(List ay.den)×Int×(List Int)×Int×Int×(List (List Int))×ah.den)(o:List Int)(d:k.2.1.length<=k.2.2.2.2.1.length)(e:∀ x∈k.2.2.2.2.1,0<=x/\x<(o.length:Int)):
  Tt k o/\(QV k o).length=o.length:=
 dk (step:=DR k True) (λ_ (r:List Int)=>r.length=o.length) k.2.1 (λj x r f c=>by
  have b:j<k.2.2.2.2.1.length:=ucb (eD f) d;have a:0<=List.getD k.2.2.2.2.1 (Int.toNat (j:Int)) i64.dflt/\List.getD k.2.2.2.2.1 (Int.toNat (j:Int)) i64.dflt<(r.length:Int):=by
   rw[uc0,uah,uaq b,c];exact e _ (udi b)
  refine⟨uT,(lK b rfl).1,a,?_,?_⟩;generalize List.getD k.2.2.2.2.1 (Int.toNat (j:Int)) i64.dflt=v at a;change Int at v;omega;show(List.set _ _ _).length=_;rw[udo];exact c) _ rfl
def qgw(k:Int×(List (List Int))×(List ay.den)×ah.den)(s:Int×List Int)(m:s.2.length=k.2.2.1.length)(f:∀ g∈k.2.1,g.length<=100000/\∀ x∈g,0<=x/\x<(k.2.2.1.length:Int)):
  Tq k s/\(QT k s).2.length=k.2.2.1.length:=
 dk (step:=DO k True) (λ_ (r:Int×List Int)=>r.2.length=k.2.2.1.length) k.2.1 (λj e r d c=>by
  have a:=f e (ubg d);refine⟨uT,fz (A:=λ(q:Int×List Int)=>q.2.length=List.length e) (dI (ueo a.1 (by decide))) (qgt k j e r a) (λq l=>?_)⟩;have b:(tK k.2.2.2 r.1 q).length<=List.length e:=by
   rcases zaj (Aq k.2.2.2 r.1 q.1) q.2 with h|h
   have:tK k.2.2.2 r.1 q=[]:=h;rw[this];exact uff _;exact Nat.le_of_eq (h.trans l)
  exact fz (A:=λ(o:List Int)=>o.length=r.2.length) (dI (ueo b (ueo a.1 (by decide)))) (qgu (Jh k j e r q) r.2 b (by rw[c];exact a.2)) (λo i=>i.trans c)) s m
def PF(t:ah.den)(l:List ay.den)(j:l.length<=maxLen):(B8 (t,l,())).satP (λy=>y.1=[]\/y.1.length=l.length):=by
 unfold B8;refine⟨λ_=>.inl rfl,λ_=>E3 (A:=λ_=>True) (B:=λy=>y.1.1=[]) (gt j) (nm (step:=DP (RY t l) True) (λ_ _=>True) (λ(y:vj.R.X)=>y.1.1=[]) l (λ_ _ _ _ _=>⟨uT,λ_=>rfl,λ_=>uT⟩) () trivial) (λ_ _=>⟨λ_=>.inl rfl,λh=>?_⟩) (λy k=>.inl k)⟩;have a:l.length<=2000:=Sr h;refine⟨uH (ueo a (by decide)),ueo a (by decide),?_⟩;have c:l.length<=1000000:=ueo a (by decide);have b:(tT t l).length<=l.length:=(HD t l c).2.len;refine fz (A:=λ(s:Int×List Int)=>s.2.length=l.length) (dI (ueo b (ueo a (by decide)))) (qgw (((tT t l).length:Int),tT t l,l,t) _ ?_ (λg f=>?_)) (λs i=>.inr i);show(List.replicate _ _).length=_;rw[ubc,uc0];obtain⟨d,e⟩:=qg7 t l c g f;exact⟨ueo d (ueo a (by decide)),e⟩
def xd:Ct:=⟨[.d ah,.d (.sl ay)],[aK,i64],λx=>(B8 x).get,λ_=>[]⟩
def qb9:af prog 123 xd:=bW qiu _ (λx a _=>(cO (PF x.1 x.2.1 a.2.1.1)).1)
def qg6(t:ah.den)(l:List ay.den)(a:l.length<=maxLen):(xd.f (t,l,())).1=[]\/(xd.f (t,l,())).1.length=l.length:=(cO (PF t l a)).2
abbrev J7:Ty:=.pair i64 .bool
noncomputable def YA:Cx:=cx [(166,ko),(124,AT)] []
def EN:CxOK prog YA:=aP aG ⟨z7,O5,uT⟩ trivial
abbrev rU:Pt:=⟨21,0,⟨[(9,.d i64),(8,.d i64),(7,.d (.sl ah))],[.o 3 dL J7]⟩,⟨[],[]⟩,⟨[(2,.d .bool)],[]⟩⟩
def Ei(k:Int×(List ah.den))(b:Prop)(i:Int)(e:ah.den)(s:(List J7.den)):Fr (((List J7.den)) ⊕ rU.R.X):=
 Jd b (Jb (ip s e.1 Y) (Jv (.inr ((Z,()),()))) (Jd (s.length<maxLen) (Jv (.inl (ec s e.1 Z)))))
def Nt:rU.M.X->Fr rU.Out:=FK (λx=>(x.1.1,(x.1.2.1,x.1.2.2.1),x.2.1)) (λk=>k.1) (λk=>k.2) Ei (λk s=>((),())) (λ_ y=>Rd.back y) ([]) (aW _,bN _)
def qtd:ae prog (.loop (au f116 0)) rU.M rU Nt:=
 lm EN (λi k s=>((i,k.1,k.2,()),s,())) ah.dflt
def qmr:=λk s=>da (Ei k True) 0 k.2 s
def T5:=λk s=>eJ (Ei k True) 0 k.2 s
def zei(Γ:Gm):St->Option Tr:=rU.han Γ rU.M Nt
abbrev vE:Pt:=⟨29,0,⟨[(10,.d i64),(9,.d i64),(8,.d (.sl ah)),(5,.d i64)],[.x 3 101 ay,.r 3 3 0]⟩,⟨[(5,.d i64)],[]⟩,⟨[],[]⟩⟩
def Lf(k:Int×(List ah.den)×ay.den)(b:Prop)(i:Int)(e:ah.den)(s:Int):Fr (Int):=
 Jd b (Jb (bif e.2.1==1 then (ko.f (e,k.2.2,())).1 else Y) (Jv (I6.wrap (s+e.2.2.2.1))) (Jv s))
def Ns:vE.M.X->Fr vE.Out:=FG (λx=>(x.1.1,(x.1.2.1,x.1.2.2.1,x.2.1),x.1.2.2.2.1)) (λk=>k.1) (λk=>k.2.1) Lf (λk s=>((s,()),()))
def qtc:ae prog (.loop (au f118 0)) vE.M vE Ns:=
 cN EN (λi k s=>((i,k.1,k.2.1,s,()),k.2.2,())) ah.dflt
def qmq:=λk s=>bO (Lf k True) 0 k.2.1 s
def qux:=λk s=>bM (Lf k True) 0 k.2.1 s
def zeh(Γ:Gm):St->Option Tr:=vE.han Γ vE.M Ns
abbrev vD:Pt:=⟨47,1,⟨[(15,.d i64),(14,.d i64),(13,.d (.sl ay))],[.x 2 44 ah,.r 2 2 0,.o 5 3 i64]⟩,⟨[],[.o 5 3 i64]⟩,⟨[],[]⟩⟩
def Eh(k:Int×(List ay.den)×ah.den)(b:Prop)(i:Int)(e:ay.den)(s:(List Int)):Fr ((List Int)):=
 Jd b (Jd (0<=i/\i<(s.length:Int)) (Jd (Int.toNat i<s.length) (Jv (s.set (Int.toNat i) (AT.f (k.2.2,e,())).1))))
def Nr:vD.M.X->Fr vD.Out:=FG (λx=>(x.1.1,(x.1.2.1,x.1.2.2.1,x.2.1),x.2.2.1)) (λk=>k.1) (λk=>k.2.1) Eh (λk s=>((),s,()))
def qtb:ae prog (.loop (au f76 0)) vD.M vD Nr:=
 cN EN (λi k s=>((i,k.1,k.2.1,()),k.2.2,s,())) ay.dflt
def qmp:=λk s=>bO (Eh k True) 0 k.2.1 s
def quw:=λk s=>bM (Eh k True) 0 k.2.1 s
def zeg(Γ:Gm):St->Option Tr:=vD.han Γ vD.M Nr
noncomputable def zP:Cx:=cx [(166,ko),(124,AT),(122,xf),(123,xd),(70,iD),(113,lx)] []
def nN:CxOK prog zP:=aP aG ⟨z7,O5,qcc,qb9,vF,yK,uT⟩ trivial
def Id(x:ag [.d (.sl ah)]):Fr (aa [.bool]):=
 iY (InK (((List.length x.1):Int)) 0 (List.length x.1)) (T5 (((List.length x.1):Int),x.1) []) (qmr (((List.length x.1):Int),x.1) []) ([]) (aW _,bN _) (λ_=>Jv (Y,())) (λa=>Jv (a.1.1,()))
def qkl:af prog 116 ⟨[.d (.sl ah)],[.bool],λxs=>(Id xs).get,λxs=>[(Id xs).ok]⟩:=
 cf nN (Λ:=(λ_=>zei zP.Γ)) (fn:=f116) (aW [.d (.sl ah)]) (by kernel_rfl) (λc E a=>zlp a (by kernel_rfl) (b:=au f116 0) (by kernel_rfl) (ae.han nN rfl qtd)) (λx=>by kernel_rfl)
def Ic(x:ag [.d (.sl ah),.d ay]):Fr (aa [.bool]):=
 cI (InK (((List.length x.1):Int)) 0 (List.length x.1)) (qux (((List.length x.1):Int),x.1,x.2.1) 0) (qmq (((List.length x.1):Int),x.1,x.2.1) 0) (λs1=>Jv (J (s1>10000),()))
def qkk:af prog 118 ⟨[.d (.sl ah),.d ay],[.bool],λxs=>(Ic xs).get,λxs=>[(Ic xs).ok]⟩:=
 cf nN (Λ:=(λ_=>zeh zP.Γ)) (fn:=f118) (aW [.d (.sl ah),.d ay]) (by kernel_rfl) (λc E a=>zlp a (by kernel_rfl) (b:=au f118 0) (by kernel_rfl) (ae.han nN rfl qtc)) (λx=>by kernel_rfl)
def BM(x:ag [.d ah,.d (.sl ay)]):Fr (aa [aK]):=
 Jd (0<=((List.length x.2.1):Int)/\((List.length x.2.1):Int)<=((List.length x.2.1):Int)/\((List.length x.2.1):Int)<=(maxLen:Int)/\((List.length x.2.1):Int)*(8:Int)<=140737488355328) (Jb (x.1.2.1==2) (Jv ((xf.f x).1,())) (Jb (x.1.2.1==3) (Jv ((xd.f x).1,())) (cI (InK (((List.length x.2.1):Int)) 0 (List.length x.2.1)) (quw (((List.length x.2.1):Int),x.2.1,x.1) (List.replicate (((List.length x.2.1):Int)).toNat 0)) (qmp (((List.length x.2.1):Int),x.2.1,x.1) (List.replicate (((List.length x.2.1):Int)).toNat 0)) (λa=>Jv (a,())))))
def qkg:af prog 76 ⟨[.d ah,.d (.sl ay)],[aK],λxs=>(BM xs).get,λxs=>[(BM xs).ok]⟩:=
 cf nN (Λ:=(λ_=>zeg zP.Γ)) (fn:=f76) (aW [.d ah,.d (.sl ay)]) (by kernel_rfl) (λc E a=>zlp a (by kernel_rfl) (b:=au f76 0) (by kernel_rfl) (ae.han nN rfl qtb)) (λx=>by kernel_rfl)
def BN(x:ag [.d ah]):Fr (aa [.bool]):=
 Jv (!(iD.f (x.1,())).1,())
def qkh:af prog 111 ⟨[.d ah],[.bool],λxs=>(BN xs).get,λxs=>[(BN xs).ok]⟩:=
 cf nN (Λ:=bw) (fn:=f111) (aW [.d ah]) (by kernel_rfl) (λc E _=>aY c 0) (λx=>by kernel_rfl)
def xg:Ct:=⟨[.d ah],[.bool],λx=>(BN x).get,λ_=>[]⟩
def qcx:af prog 111 xg:=bW qkh _ (λx a _=>uT)
def BO(x:ag [.d ay]):Fr (aa [.bool]):=
 Jv (!(lx.f (x.1,())).1,())
def qki:af prog 112 ⟨[.d ay],[.bool],λxs=>(BO xs).get,λxs=>[(BO xs).ok]⟩:=
 cf nN (Λ:=bw) (fn:=f112) (aW [.d ay]) (by kernel_rfl) (λc E _=>aY c 0) (λx=>by kernel_rfl)
def AU:Ct:=⟨[.d ay],[.bool],λx=>(BO x).get,λ_=>[]⟩
def qcy:af prog 112 AU:=bW qki _ (λx a _=>uT)
def zcg(l:List ah.den)(f:l.length<=1000000):T5 ((l.length:Int),l) []:=
 (nm (step:=Ei ((l.length:Int),l) True) (λi (s:List (Int×Bool))=>s.length<=i) (λ_=>True) l (λi e s a b=>by
  have hi:=eD a;have d:=ew;refine⟨uT,λ_=>uT,λ_=>⟨?_,?_⟩⟩;show s.length<maxLen;omega;show(ec s e.1 Z).length<=i+1;have:∀ (l:List (Int×Bool)) (n:Int) (y:Bool),(ec l n y).length<=l.length+1:=λl n y=>by
   induction l with
   |nil=>exact ue9 _
   |cons x r c=>
    unfold ec;cases g:x.1==n with
    |true=>exact Nat.le_succ _
    |false=>exact udj c
  exact ueo (this _ _ _) (udj b)) [] (ue9 _)).1
def GQ:Ct:=⟨[.d (.sl ah)],[.bool],λx=>(Id x).get,λx=>[List.length (α:=ah.den) x.1<=1000000]⟩
def qc2:af prog 116 GQ:=bW qkl _ (λx b a=>ss (gt b.1.1) (zcg x.1 a) (λ_=>uT) (λ_=>uT))
def GP:Ct:=⟨[.d (.sl ah),.d ay],[.bool],λx=>(Ic x).get,λ_=>[]⟩
def qc1:af prog 118 GP:=bW qkk _ (λx a _=>nK (gt a.1.1) (by refine uP (λ_ _ _=>?_) _ _ _;exact⟨uT,λ_=>uT,λ_=>uT⟩) (λ_=>uT))
def VQ(t:ah.den)(l:List ay.den)(b:l.length<=1000000):(BM (t,l,())).satP (λy=>y.1=[]\/y.1.length=l.length):=by
 have c:l.length<=maxLen:=ueo b ew;refine⟨uH b,λ_=>qqb t l,λ_=>⟨λ_=>qg6 t l c,λ_=>?_⟩⟩;refine fz (A:=λ(s:List Int)=>s.length=l.length) (gt c) (dk (step:=Eh ((l.length:Int),l,t) True) (λ_ (s:List Int)=>s.length=l.length) l (λi e s g a=>?_) _ ?_) (λs a=>.inr a);obtain⟨d,f⟩:=lK (eD g) a;exact⟨uT,d,f,(show(List.set _ _ _).length=_ by rw[udo];exact a)⟩;show(List.replicate _ _).length=_;rw[ubc,uc0]
def tE:Ct:=⟨[.d ah,.d (.sl ay)],[aK],λx=>(BM x).get,λx=>[List.length (α:=ay.den) x.2.1<=1000000]⟩
def qcw:af prog 76 tE:=bW qkg _ (λx _ a=>(cO (VQ x.1 x.2.1 a)).1)
def zbs(t:ah.den)(l:List ay.den)(a:l.length<=1000000):(tE.f (t,l,())).1=[]\/(tE.f (t,l,())).1.length=l.length:=(cO (VQ t l a)).2
noncomputable def YB:Cx:=cx [(118,GP)] []
def YC:CxOK prog YB:=aP aG ⟨qc1,uT⟩ trivial
def BP(x:ag [.d ay,.ptr (.sl ah)]):Fr (aa [.bool]):=
 Jv ((GP.f (x.2.1,x.1,())).1,())
def qkj:af prog 117 ⟨[.d ay,.ptr (.sl ah)],[.bool],λxs=>(BP xs).get,λxs=>[(BP xs).ok]⟩:=
 cf YC (Λ:=bw) (fn:=f117) (aW [.d ay,.ptr (.sl ah)]) (by kernel_rfl) (λc E _=>aY c 0) (λx=>by kernel_rfl)
def AW:Ct:=⟨[.d ay,.ptr (.sl ah)],[.bool],λx=>(BP x).get,λ_=>[]⟩
def qcz:af prog 117 AW:=bW qkj _ (λx a _=>uT)
noncomputable def YD:Cx:=cx [(115,fA ay),(114,fA ah),(111,xg),(112,AU),(117,AW),(116,GQ)] []
def YE:CxOK prog YD:=aP aG ⟨NF,Fu,qcx,qcy,qcz,qc2,uT⟩ trivial
def SP(ts:List ah.den)(l:List ay.den):Fr (aa [i64]):=
 Jd (ts.length<=1000000) (Jb (GQ.f (ts,())).1 (Jv (8,())) (Jd (∀ (x:aa [ay]),fi [ay] x->av (AW.ok (x.1,ts,()))) (Jb ((fA ay).f (l,λx=>AW.f (x.1,ts,()),())).1 (Jv (13,())) (Jv (0,())))))
def JB(ts:List ah.den)(l:List ay.den):Fr (aa [i64]):=
 Jb (J ((ts.length:Int)>100)) (Jb (J ((ts.length:Int)>100)) (Jv (2,())) (SP ts l)) (Jb (J ((l.length:Int)>2000)) (Jv (2,())) (SP ts l))
def Ib(x:ag [.d (.sl ah),.d (.sl ay)]):Fr (aa [i64]):=
 Jd (∀ (x:aa [ah]),fi [ah] x->av (xg.ok (x.1,())))
  (Jb ((fA ah).f (x.1,λx=>xg.f (x.1,()),())).1 (Jb ((fA ah).f (x.1,λx=>xg.f (x.1,()),())).1 (Jv (1,())) (JB x.1 x.2.1))
   (Jd (∀ (x:aa [ay]),fi [ay] x->av (AU.ok (x.1,()))) (Jb ((fA ay).f (x.2.1,λx=>AU.f (x.1,()),())).1 (Jv (1,())) (JB x.1 x.2.1))))
def Nw(ts:List ah.den)(l:List ay.den)(y:aa [i64]):Prop:=y.1=0->ts.length<=100/\l.length<=2000
def SO(ts:List ah.den)(l:List ay.den):(JB ts l).satP (Nw ts l):=by
 refine⟨λh=>⟨λ_ h=>(by cases h),λa=>(by rw[h]at a;cases a)⟩,λh=>⟨λ_ h=>(by cases h),λb=>?_⟩⟩;have c:=uch h;have d:=uch b;refine⟨by omega,λ_ h=>(by cases h),λ_=>⟨λ_ _=>uT,λ_ h=>(by cases h),λ_ _=>⟨by omega,by omega⟩⟩⟩
def SQ(ts:List ah.den)(l:List ay.den):(Ib (ts,l,())).satP (Nw ts l):=
 ⟨λ_ _=>uT,λ_=>⟨λ_ h=>(by cases h),λ_=>SO ts l⟩,λ_=>⟨λ_ _=>uT,λ_ h=>(by cases h),λ_=>SO ts l⟩⟩
def tF:Ct:=⟨[.d (.sl ah),.d (.sl ay)],[i64],λx=>(Ib x).get,λ_=>[]⟩
def qc0:af prog 73 tF:=bW (aS YE f73 (fr:=Ib)) _ (λx _ _=>(cO (SQ x.1 x.2.1)).1)
def qtr(ts:List ah.den)(l:List ay.den)(h:(tF.f (ts,l,())).1=0):ts.length<=100/\l.length<=2000:=(cO (SQ ts l)).2 h
noncomputable def Mp:Cx:=cx [(157,mC)] []
def EP:CxOK prog Mp:=aP aG ⟨Be,uT⟩ trivial
abbrev rS:Pt:=⟨36,0,⟨[(11,.d i64),(10,.d i64),(9,.d aK),(0,.d aK),(1,.d aK)],[]⟩,⟨[(1,.d aK),(0,.d aK)],[]⟩,⟨[(4,.d i64)],[]⟩⟩
def Eb(k:Int×(List Int)×(List Int)×(List Int))(b:Prop)(i:Int)(e:i64.den)(s:Unit):Fr (Unit ⊕ rS.R.X):=
 let c:=((List.length k.2.2.2):Int);let a:=mC.f (e,List.getD k.2.2.2 (Int.toNat i) i64.dflt,());Jd b (Jb (J (i>=c)) (Jv (.inr ((1,()),()))) (Jd (0<=i/\i<c) (Jb (a.1 != 0) (Jv (.inr ((a.1,()),()))) (Jv (.inl ())))))
def Np:rS.M.X->Fr rS.Out:=FK (λx=>(x.1.1,(x.1.2.1,x.1.2.2.1,x.1.2.2.2.1,x.1.2.2.2.2.1),())) (λk=>k.1) (λk=>k.2.1) Eb (λk s=>((k.2.2.2,k.2.2.1,()),())) (λ_ y=>Rd.back y) () (aW _,bN _)
def qs2:ae prog (.loop (au f319 0)) rS.M rS Np:=
 lm EP (λi k s=>((i,k.1,k.2.1,k.2.2.1,k.2.2.2,()),())) i64.dflt
def qmo:=λk s=>da (Eb k True) 0 k.2.1 s
def quv:=λk s=>eJ (Eb k True) 0 k.2.1 s
def zef(Γ:Gm):St->Option Tr:=rS.han Γ rS.M Np
def Ia(x:ag [.d aK,.d aK]):Fr (aa [i64]):=
 iY (InK (((List.length x.1):Int)) 0 (List.length x.1)) (quv (((List.length x.1):Int),x.1,x.1,x.2.1) ()) (qmo (((List.length x.1):Int),x.1,x.1,x.2.1) ()) () (aW _,bN _) (λ_=>Jb (J (((List.length x.1):Int)<((List.length x.2.1):Int))) (Jv (-1,())) (Jv (0,()))) (λa=>Jv (a.1.1,()))
def qj5:af prog 319 ⟨[.d aK,.d aK],[i64],λxs=>(Ia xs).get,λxs=>[(Ia xs).ok]⟩:=
 cf EP (Λ:=(λ_=>zef Mp.Γ)) (fn:=f319) (aW [.d aK,.d aK]) (by kernel_rfl) (λc E a=>zlp a (by kernel_rfl) (b:=au f319 0) (by kernel_rfl) (ae.han EP rfl qs2)) (λx=>by kernel_rfl)
def GO:Ct:=⟨[.d aK,.d aK],[i64],λx=>(Ia x).get,λ_=>[]⟩
def qcu:af prog 319 GO:=bW qj5 _ (λx a _=>ss (gt a.1.1) (nm (step:=Eb ((List.length x.1:Int),x.1,x.1,x.2.1) True) (λ_ _=>True) (λ_=>True) x.1 (λi e s b c=>by
 refine⟨uT,λ_=>uT,λh=>⟨⟨ub4 _,?_⟩,λ_=>uT,λ_=>uT⟩⟩;have:=uch h;exact ufj.1 this) () trivial).1 (λ_=>⟨λ_=>uT,λ_=>uT⟩) (λ_=>uT))
noncomputable def YG:Cx:=cx [(319,GO)] []
def ER:CxOK prog YG:=aP aG ⟨qcu,uT⟩ trivial
abbrev bF:Type:=List co.den
def Jw(a b:co.den):Bool:=J ((GO.f ([a.1,a.2.1,a.2.2.1],[b.1,b.2.1,b.2.2.1],())).1<0)
abbrev inR(l:bF)(i:Int):Prop:=0<=i/\i<(l.length:Int)
def gb(l:bF)(i j:Int):bF:=(l.set i.toNat (l.getD j.toNat co.dflt)).set j.toNat (l.getD i.toNat co.dflt)
def qln(l:bF)(x:ag [.d i64,.d i64]):Fr (bF×aa [.bool]):=
 let a:=(l.length:Int);Jd (0<=x.1/\x.1<a) (Jd (x.1.toNat<l.length) (Jd (0<=x.2.1/\x.2.1<a) (Jd (x.2.1.toNat<l.length) (Jv (l,Jw (l.getD x.1.toNat co.dflt) (l.getD x.2.1.toNat co.dflt),())))))
def qlo(l:bF)(x:ag [.d i64,.d i64]):Fr (bF×aa []):=
 let b:=(l.length:Int);let a:=l.set x.1.toNat (l.getD x.2.1.toNat co.dflt);Jd (0<=x.2.1/\x.2.1<b) (Jd (x.2.1.toNat<l.length) (Jd (0<=x.1/\x.1<b) (Jd (x.1.toNat<l.length) (Jd (0<=x.1/\x.1<b) (Jd (x.1.toNat<l.length)
  (Jd (0<=x.2.1/\x.2.1<(a.length:Int)) (Jd (x.2.1.toNat<a.length) (Jv (gb l x.1 x.2.1,())))))))))
def SH:Mt:=⟨252,co,[],[i64],λl _=>(l,(l.length:Int),()),λ_ _=>[]⟩
def zqw:Mt:=⟨252,co,[.d i64,.d i64],[.bool],λl x=>(l,Jw (l.getD x.1.toNat co.dflt) (l.getD x.2.1.toNat co.dflt),()),λl x=>[inR l x.1,inR l x.2.1]⟩
def SJ:Mt:=⟨252,co,[.d i64,.d i64],[],λl x=>(gb l x.1 x.2.1,()),λl x=>[inR l x.1,inR l x.2.1]⟩
def rj{l:bF}{i:Int}(h:inR l i):i.toNat<l.length:=by omega
def qm4:SoundMt prog 120 SH:=
 gW (iq ER (Λ:=bw) (fn:=f120) (fr:=λl _=>Jv (l,(l.length:Int),())) (e:=252) (T:=co) (ps:=[]) (rs:=[i64]) () (by kernel_rfl) rfl rfl (λc _ _=>aY c 0) (λl x=>by kernel_rfl)) _ _ λ_ _ _ _ _ _ _ _ _=>⟨uT,rfl⟩
def qm5:SoundMt prog 315 zqw:=
 gW (iq ER (Λ:=bw) (fn:=f315) (fr:=qln) (e:=252) (T:=co) (ps:=[.d i64,.d i64]) (rs:=[.bool]) (0,0,()) (by kernel_rfl) rfl rfl (λc _ _=>aY c 0) (λl x=>by kernel_rfl)) _ _ λ_ _ _ _ _ _ _ _ a=>⟨⟨a.1,rj a.1,a.2,rj a.2,uT⟩,rfl⟩
def qm8:SoundMt prog 318 SJ:=
 gW (iq ER (Λ:=bw) (fn:=f318) (fr:=qlo) (e:=252) (T:=co) (ps:=[.d i64,.d i64]) (rs:=[]) (0,0,()) (by kernel_rfl) rfl rfl (λc _ _=>aY c 0) (λl x=>by kernel_rfl)) _ _ λ_ _ l x _ _ _ _ a=>by
  have b:inR l x.1:=a.1;have f:inR l x.2.1:=a.2;refine⟨⟨f,rj f,b,rj b,b,rj b,?_,?_,uT⟩,rfl⟩;rw[udo];exact f;rw[udo];exact rj f
def lg(l:bF)(i j:Int):(gb l i j).length=l.length:=by
 unfold gb;rw[udo,udo]
def Ll{Q:co.den->Prop}{l:bF}{i j:Int}(hi:inR l i)(b:inR l j)(h:∀ x∈l,Q x):∀ x∈gb l i j,Q x:=λx a=>by
 have g:∀ k:Int,inR l k->l.getD k.toNat co.dflt∈l:=λk c=>by
  rw[uah,uaq (rj c)];exact udi _
 rcases uap a with a|rfl
 rcases uap a with a|rfl
 exact h x a;exact h _ (g j b);exact h _ (g i hi)
noncomputable def KH:Nat->FuncId->List AV->St->Option Tr:=iS (fG (cx [] []).Γ 120 SH) (iS (fG (cx [] []).Γ 315 zqw) (fG (cx [] []).Γ 318 SJ))
def kq:CxOK prog (cx [] []):=aP (cs:=[]) (ps:=[]) aG trivial trivial
def Ff:gQ prog KH:=jN (gu kq.ct qm4) (jN (gu kq.ct qm5) (gu kq.ct qm8))
noncomputable def EW:Cx:=cW [] [] KH
def sC:CxOK prog EW:=cZ aG trivial trivial Ff
abbrev Cg:List MI:=[.y 9999 250 [(U 252,co)],.r 0 9999 (1000000+248),.r 10000 9999 0]
abbrev lV:Pt:=⟨23,0,⟨[(1,.d i64)],Cg⟩,⟨[],Cg⟩,⟨[],[]⟩⟩
abbrev kW:Pt:=⟨48,0,⟨[(7,.d i64),(2,.d i64),(1,.d i64)],Cg⟩,⟨[(7,.d i64),(1,.d i64)],Cg⟩,⟨[],[]⟩⟩
def zek(j:Int):Int:=I6.wrap ((I6.wrap (j-1)).tdiv 2)
def jK(l:bF)(i j:Int):Bool:=Jw (l.getD i.toNat co.dflt) (l.getD j.toNat co.dflt)
def qlq(x:lV.M.X):Fr lV.Out:=
 match x with
 |((j,_),((l,_),_))=>
  Jd ((2:Int)≠0) (Jb (zek j==j)
   (Jb Z (Jv (Rd.out ((),(l,()),()))) (Jd (inR l (zek j)) (Jd (inR l j) (Jv (Rd.next ((zek j,()),(gb l (zek j) j,()),()))))))
   (Jd (inR l j) (Jd (inR l (zek j)) (Jb (!jK l j (zek j)) (Jv (Rd.out ((),(l,()),())))
    (Jd (inR l (zek j)) (Jd (inR l j) (Jv (Rd.next ((zek j,()),(gb l (zek j) j,()),())))))))))
def g7(i:Int):Int:=I6.wrap (I6.wrap (2*i)+1)
def jc(i:Int):Int:=I6.wrap (g7 i+1)
def yo(i n:Int):Bool:=bif J (g7 i>=n)then Z else J (g7 i<0)
def xH(l:bF)(i n i0 j:Int):Fr kW.Out:=
 Jd (inR l j) (Jd (inR l i) (Jb (!jK l j i) (Jv (Rd.out ((i,i0,()),(l,()),()))) (Jd (inR l i) (Jd (inR l j) (Jv (Rd.next ((j,n,i0,()),(gb l i j,()),())))))))
def qlp(x:kW.M.X):Fr kW.Out:=
 match x with
 |((i,n,i0,_),((l,_),_))=>
  Jb (yo i n) (Jv (Rd.out ((i,i0,()),(l,()),())))
   (Jb (J (jc i<n)) (Jd (inR l (jc i)) (Jd (inR l (g7 i)) (Jb (jK l (jc i) (g7 i)) (xH l i n i0 (jc i)) (xH l i n i0 (g7 i)))))
    (Jb Y (xH l i n i0 (jc i)) (xH l i n i0 (g7 i))))
def qzb:ae prog (au f167 0) lV.M lV qlq:=dn sC
def qza:ae prog (au f168 0) kW.M kW qlp:=dn sC
def kO(l:bF)(j:Int):bF:=
 if zek j=j then l else if jK l j (zek j)=Z then (if _h:(zek j).toNat<j.toNat then kO (gb l (zek j) j) (zek j)else l)else l
termination_by j.toNat
def j9(l:bF)(i n:Int):Int:=if jc i<n/\jK l (jc i) (g7 i)=Z then jc i else g7 i
def iO(l:bF)(i n:Int):bF×Int:=
 if yo i n=Z then (l,i)else if jK l (j9 l i n) i=Z then (if _h:(n-j9 l i n).toNat<(n-i).toNat then iO (gb l i (j9 l i n)) (j9 l i n) n else (l,i))else (l,i)
termination_by (n-i).toNat
structure UpI (l:bF) (j:Int):Prop where
 at_:inR l j
 len:l.length<=1000000000
structure DnI (l:bF) (i n:Int):Prop where
 at_:inR l i
 n:n<=(l.length:Int)
 len:l.length<=1000000000
def Nc(x:lV.M.X):Fr lV.Out:=
 match x with
 |((j,_),((l,_),_))=>Jd (UpI l j) (Jv (Rd.out ((),(kO l j,()),())))
def Fe(x:kW.M.X):Fr kW.Out:=
 match x with
 |((i,n,i0,_),((l,_),_))=>Jd (DnI l i n) (Jv (Rd.out (((iO l i n).2,i0,()),((iO l i n).1,()),())))
def VX{i n c:Int}(h:i<c)(a:c<n):(n-c).toNat<(n-i).toNat:=by omega
def qv8{j:Int}(h:0<=j/\j<=4611686018427387903)(c:zek j≠j):zek j=(j-1)/2/\1<=j:=by
 have b:1<=j:=by
  by_cases a:j=0;subst a;exact absurd (by decide) c;omega
 refine⟨?_,b⟩;unfold zek;rw[show I6.wrap (j-1)=j-1 from cz (by omega),Int.tdiv_eq_ediv_of_nonneg (by omega)];exact cz (by omega)
def UpI.par{l:bF}{j:Int}(h:UpI l j)(b:zek j≠j):UpI l (zek j)/\(zek j).toNat<j.toNat:=by
 have d:=h.at_;have a:=h.len;obtain⟨e,c⟩:=qv8 (j:=j) ⟨by omega,by omega⟩ b;exact⟨⟨by rw[e];omega,a⟩,by rw[e];omega⟩
def UpI.swap{l:bF}{i j k:Int}(h:UpI l k):UpI (gb l i j) k:=⟨by rw[inR,lg];exact h.at_,by rw[lg];exact h.len⟩
def DnI.swap{l:bF}{i j k n:Int}(h:DnI l k n):DnI (gb l i j) k n:=⟨by rw[inR,lg];exact h.at_,by rw[lg];exact h.n,by rw[lg];exact h.len⟩
def DnI.ch{l:bF}{i n:Int}(h:DnI l i n)(a:yo i n=Y):DnI l (g7 i) n/\(jc i<n->DnI l (jc i) n)/\i<g7 i/\i<jc i/\g7 i<n:=by
 have j:=h.at_;have c:=h.len;have d:=h.n;have f:g7 i=2*i+1:=by
  unfold g7;rw[show I6.wrap (2*i)=2*i from cz (by omega)];exact cz (by omega)
 have g:jc i=2*i+2:=by
  unfold jc;rw[f,show 2*i+1+1=2*i+2 by omega];exact cz (by omega)
 have b:g7 i<n:=by
  unfold yo at a;by_cases e:g7 i>=n;rw[uea e]at a;cases a;omega
 refine⟨⟨by omega,d,c⟩,λe=>⟨by omega,d,c⟩,by omega,by omega,b⟩
def qse:ae prog (.loop (au f167 0)) lV.M lV Nc:=
 ae.loop qzb (inv:=λx=>UpI x.2.1.1 x.1.1) (μ:=λx=>x.1.1.toNat)
  (by
   rintro⟨⟨j,_⟩,⟨⟨l,_⟩,_⟩⟩ a Q b;have b:=b.2;have a:UpI l j:=a;refine⟨by decide,λg=>⟨λ_=>?_,λh=>(by cases h)⟩,λg=>?_⟩;have e:zek j=j:=by simpa using g
   rw[kO,ufv e]at b;exact b;have e:zek j≠j:=by simpa using g
   obtain⟨f,d⟩:=a.par e;rw[kO,ufw e]at b;refine⟨a.at_,f.at_,λi=>?_,λi=>⟨f.at_,a.at_,f.swap,d,f.swap,?_⟩⟩;have c:¬ jK l j (zek j)=true:=by simpa using i
   rw[ufw c]at b;exact b;have c:jK l j (zek j)=true:=by simpa using i
   rw[ufv c,dif_pos d]at b;exact b)
  (λx Q h=>h.1)
def qsd:ae prog (.loop (au f168 0)) kW.M kW Fe:=
 ae.loop qza (inv:=λx=>DnI x.2.1.1 x.1.1 x.1.2.1) (μ:=λx=>(x.1.2.1-x.1.1).toNat)
  (by
   rintro⟨⟨i,n,i0,_⟩,⟨⟨l,_⟩,_⟩⟩ a Q b;have b:=b.2;have a:DnI l i n:=a;refine⟨λg=>?_,λg=>?_⟩;rw[iO,ufv g]at b;exact b;obtain⟨k,t,u,A,v⟩:=a.ch g;rw[iO,ufw (by rw[g];decide)]at b;have key:∀ c:Int,j9 l i n=c->DnI l c n->i<c->c<n->(xH l i n i0 c).satP λ
     |.next f=>(DnI f.2.1.1 f.1.1 f.1.2.1)/\(f.1.2.1-f.1.1).toNat<(n-i).toNat/\(Fe f).satP Q
     |.out y=>Q (.out y)
     |.back z=>Q (.back z)
     |.pan p=>Q (.pan p):=λc B j s q=>by
    rw[B]at b;have w:(n-c).toNat<(n-i).toNat:=VX s q;refine⟨j.at_,a.at_,λr=>?_,λr=>⟨a.at_,j.at_,j.swap,w,j.swap,?_⟩⟩;have e:¬ jK l c i=true:=by simpa using r
    rw[ufw e]at b;exact b;have e:jK l c i=true:=by simpa using r
    rw[ufv e,dif_pos w]at b;exact b
   refine⟨λm=>?_,λm=>⟨λh=>(by cases h),λ_=>key _ ?_ k u v⟩⟩;have d:=ucx m;refine⟨(t d).at_,k.at_,λo=>key _ ?_ (t d) A d,λo=>key _ ?_ k u v⟩;exact ufv ⟨d,o⟩;exact ufw (λh=>by rw[o]at h;exact absurd h.2 (by decide));exact ufw (λh=>absurd h.1 (uch m)))
  (λx Q h=>h.1)
def Rt:Ht:=⟨248,250,252,co,[.d i64],[],λl x=>(kO l x.1,()),λl x=>[UpI l x.1]⟩
def Rq:Ht:=⟨248,250,252,co,[.d i64,.d i64],[.bool],λl x=>((iO l x.1 x.2.1).1,J ((iO l x.1 x.2.1).2>x.1),()),λl x=>[DnI l x.1 x.2.1]⟩
def qm9:SoundHt prog 167 Rt:=
 Bf (Ci sC (Λ:=λ_=>lV.han EW.Γ lV.M Nc) (fn:=f167) (pt:=248) (bt:=250) (e:=252) (T:=co) (ps:=[.d i64]) (rs:=[]) (fr:=λl x=>Jd (UpI l x.1) (Jv (kO l x.1,()))) (0,()) (by kernel_rfl)
  (λc E f=>zlp f (by kernel_rfl) (b:=au f167 0) (by kernel_rfl) (ae.han sC rfl qse)) (λl x=>by kernel_rfl)) _ _ λ_ _ _ _ _ _ _ _ a=>⟨⟨a,uT⟩,rfl⟩
def qm3:SoundHt prog 168 Rq:=
 Bf (Ci sC (Λ:=λ_=>kW.han EW.Γ kW.M Fe) (fn:=f168) (pt:=248) (bt:=250) (e:=252) (T:=co) (ps:=[.d i64,.d i64]) (rs:=[.bool]) (fr:=λl x=>Jd (DnI l x.1 x.2.1) (Jv ((iO l x.1 x.2.1).1,J ((iO l x.1 x.2.1).2>x.1),()))) (0,0,()) (by kernel_rfl)
  (λc E f=>zlp f (by kernel_rfl) (b:=au f168 0) (by kernel_rfl) (ae.han sC rfl qsd)) (λl x=>by kernel_rfl)) _ _ λ_ _ _ _ _ _ _ _ a=>⟨⟨a,uT⟩,rfl⟩
def qok(Q:co.den->Prop):(n:Nat)->(l:bF)->(j:Int)->j.toNat<=n->UpI l j->(∀ x∈l,Q x)->(kO l j).length=l.length/\∀ x∈kO l j,Q x:=λn=>by
 induction n with
 |zero=>
  intro l j i h a;rw[kO];split;exact⟨rfl,a⟩;rename_i b;have:=(h.par b).2;omega
 |succ n k=>
  intro l j i h a;rw[kO];split;exact⟨rfl,a⟩;rename_i b;obtain⟨c,e⟩:=h.par b;by_cases d:jK l j (zek j)=Z;rw[ufv d,dif_pos e];obtain⟨f,g⟩:=k (gb l (zek j) j) (zek j) (by omega) c.swap (Ll c.at_ h.at_ a);exact⟨f.trans (lg _ _ _),g⟩;rw[ufw d];exact⟨rfl,a⟩
def OD{l:bF}{i n:Int}(h:DnI l i n)(g:yo i n=Y):DnI l (j9 l i n) n/\i<j9 l i n/\j9 l i n<n:=by
 obtain⟨b,c,d,e,f⟩:=h.ch g;unfold j9;split;rename_i a;exact⟨c a.1,e,a.1⟩;exact⟨b,d,f⟩
def qoj(Q:co.den->Prop):(m:Nat)->(l:bF)->(i n:Int)->(n-i).toNat<=m->DnI l i n->(∀ x∈l,Q x)->(iO l i n).1.length=l.length/\∀ x∈(iO l i n).1,Q x:=λm=>by
 induction m with
 |zero=>
  intro l i n k h a;rw[iO];split;exact⟨rfl,a⟩;rename_i b;have:=OD h (by simpa using b);omega
 |succ m o=>
  intro l i n k h a;rw[iO];split;exact⟨rfl,a⟩;rename_i b;obtain⟨c,e,f⟩:=OD h (by simpa using b);by_cases d:jK l (j9 l i n) i=Z;rw[ufv d,dif_pos (VX e f)];obtain⟨g,j⟩:=o (gb l i (j9 l i n)) (j9 l i n) n (by omega) c.swap (Ll h.at_ c.at_ a);exact⟨g.trans (lg _ _ _),j⟩;rw[ufw d];exact⟨rfl,a⟩
noncomputable def ZX:FuncId->Option (Func×(Nat->St->Option Tr)):=cu [(317,(f317,bw)),(316,(f316,bw))]
noncomputable def KP:Nat->FuncId->List AV->St->Option Tr:=iS KH (iS (fU prog (cx [] []) ZX) (iS (ue (cx [] []).Γ 167 Rt) (ue (cx [] []).Γ 168 Rq)))
def ZL:gQ prog KP:=jN Ff (jN (gG kq (lk (by kernel_rfl) (lk (by kernel_rfl) qe))) (jN (Ch kq.ct qm9) (Ch kq.ct qm3)))
noncomputable def Zn:Cx:=cW [] [] KP
def M7:CxOK prog Zn:=cZ aG trivial trivial ZL
abbrev ug:Ty:=.ic [(1,252)] co
def fq(l:bF):Int:=I6.wrap ((l.length:Int)-1)
def yI(l:bF)(y:co.den):bF:=kO (l++[y]) (fq (l++[y]))
def iU(l:bF):bF:=(iO (gb l 0 (fq l)) 0 (fq l)).1
def iu(l:bF):bF:=(iU l).take (fq (iU l)).toNat
def po(l:bF):co.den:=(iU l).getD (fq (iU l)).toNat co.dflt
def qly(l:bF)(x:ag [.d ug]):Fr (bF×aa []):=
 Jd (cD [(1,252)] x.1.1=U 252) (Jd (l.length + [x.1.2].length<=maxLen/\(l.length + [x.1.2].length)*24<=140737488355328) (Jd (UpI (l++[x.1.2]) (fq (l++[x.1.2]))) (Jv (yI l x.1.2,()))))
def qlx(l:bF)(_:ag []):Fr (bF×aa [ug]):=
 let b:=fq l;let a:=((iU l).length:Int);Jd (inR l 0) (Jd (inR l b) (Jd (DnI (gb l 0 b) 0 b) (Jd (0<=fq (iU l)/\fq (iU l)<a) (Jd ((fq (iU l)).toNat<(iU l).length) (Jd (0<=fq (iU l)/\fq (iU l)<=a) (Jv (iu l,((1,po l),()))))))))
def yh{l:bF}(h:1<=l.length)(a:l.length<=1000001):fq l=(l.length:Int)-1:=cz (by omega)
def zq9{l:bF}{y:co.den}(h:l.length<=1000000):UpI (l++[y]) (fq (l++[y])):=by
 have e:(l++[y]).length=l.length+1:=ub6;have a:=yh (l:=l++[y]) (by omega) (by omega);exact⟨by rw[a];omega,by omega⟩
def qwr{l:bF}{y:co.den}(h:l.length<=1000000)(Q:co.den->Prop)(d:∀ x∈l,Q x)(e:Q y):(yI l y).length=l.length+1/\∀ x∈yI l y,Q x:=by
 obtain⟨b,c⟩:=qok Q _ (l++[y]) (fq (l++[y])) (ue9 _) (zq9 h) (λx a=>by
  rcases uds.1 a with a|a
  exact d x a;rw[ucf.1 a];exact e)
 exact⟨b.trans ub6,c⟩
def Uf{l:bF}(h:1<=l.length)(b:l.length<=1000000):DnI (gb l 0 (fq l)) 0 (fq l):=by
 have a:=yh h (by omega);refine⟨?_,?_,?_⟩;rw[inR,lg];omega;rw[lg];omega;rw[lg];omega
def Kh{l:bF}(h:1<=l.length)(a:l.length<=1000000)(Q:co.den->Prop)(d:∀ x∈l,Q x):(iU l).length=l.length/\∀ x∈iU l,Q x:=by
 have e:=yh h (by omega);obtain⟨b,c⟩:=qoj Q _ (gb l 0 (fq l)) 0 (fq l) (ue9 _) (Uf h a) (Ll (by omega) (by omega) d);exact⟨b.trans (lg _ _ _),c⟩
def Ug{l:bF}(h:1<=l.length)(a:l.length<=1000000):fq (iU l)=(l.length:Int)-1:=by
 have b:=(Kh h a (λ_=>True) (λ_ _=>uT)).1;rw[yh (by omega) (by omega),b]
def Uh{l:bF}(h:1<=l.length)(a:l.length<=1000000)(Q:co.den->Prop)(d:∀ x∈l,Q x):(iu l).length+1=l.length/\(∀ x∈iu l,Q x)/\Q (po l):=by
 obtain⟨f,b⟩:=Kh h a Q d;have c:=Ug h a;refine⟨?_,λx e=>b x (ubq e),?_⟩;unfold iu;rw[uc5,c];omega;unfold po;rw[c,uah,uaq (by omega)];exact b _ (udi _)
def Rs:Ht:=⟨248,250,252,co,[.d ug],[],λl x=>(yI l x.1.2,()),λl x=>[x.1.1=1,l.length<=1000000]⟩
def Rr:Ht:=⟨248,250,252,co,[],[ug],λl _=>(iu l,((1,po l),())),λl _=>[1<=l.length,l.length<=1000000]⟩
def qm7:SoundHt prog 119 Rs:=
 Bf (Ci M7 (Λ:=bw) (fn:=f119) (pt:=248) (bt:=250) (e:=252) (T:=co) (ps:=[.d ug]) (rs:=[]) (fr:=qly) ((1,co.dflt),()) (by kernel_rfl)
  (λc _ _=>aY c 0) (λl x=>by kernel_rfl)) _ _ λ_ _ l x _ _ _ _ a=>by
   obtain⟨b,f⟩:x.1.1=1/\l.length<=1000000:=a;have g:=ew;refine⟨⟨?_,?_,zq9 f,uT⟩,rfl⟩;rw[b];rfl;show l.length+1<=maxLen/\(l.length+1)*24<=140737488355328;have:(1000001:Nat)<=maxLen:=by decide
   omega
def qm6:SoundHt prog 121 Rr:=
 Bf (Ci M7 (Λ:=bw) (fn:=f121) (pt:=248) (bt:=250) (e:=252) (T:=co) (ps:=[]) (rs:=[ug]) (fr:=qlx) () (by kernel_rfl)
  (λc _ _=>aY c 0) (λl x=>by kernel_rfl)) _ _ λ_ _ l x _ _ _ _ d=>by
   obtain⟨a,b⟩:1<=l.length/\l.length<=1000000:=d;have f:=(Kh a b (λ_=>True) (λ_ _=>uT)).1;have g:=Ug a b;have h:=yh a (by omega);refine⟨⟨by omega,by omega,Uf a b,by omega,by omega,by omega,uT⟩,rfl⟩
noncomputable def KO:Nat->FuncId->List AV->St->Option Tr:=iS KH (iS (ue (cx [] []).Γ 119 Rs) (ue (cx [] []).Γ 121 Rr))
noncomputable def Zm:Cx:=cW [] [] KO
def EX:CxOK prog Zm:=cZ aG trivial trivial (jN Ff (jN (Ch kq.ct qm7) (Ch kq.ct qm6)))
abbrev FI:List MI:=[.y 11 250 [(U 252,co)],.r 3 11 0]
abbrev Dn:Pt:=⟨58,0,⟨[(14,.d i64),(13,.d i64),(12,.d (.sl ah))],FI⟩,⟨[],FI⟩,⟨[],[]⟩⟩
abbrev pw:Pt:=⟨58,3,⟨[],FI++[.o 7 3 i64]⟩,⟨[],[.o 7 3 i64]⟩,⟨[],[]⟩⟩
def Ki(s:bF)(a b c:Int):Fr bF:=Jd ((1:Int)=1) (Jd (s.length<=1000000) (Jv (yI s (a,b,c,()))))
def zn(_k:Int×(List ah.den))(b:Prop)(i:Int)(e:ah.den)(s:bF):Fr bF:=
 let a:=Ki s e.2.1 e.2.2.2.2.1 i;Jd b (Jb (e.2.1==1) (Ki s e.2.1 0 i) (Jb (e.2.1==2) (Jb (e.2.1==2) a (Jv s)) (Jb (e.2.1==3) a (Jv s))))
def ZD:Dn.M.X->Fr Dn.Out:=FG (λx=>(x.1.1,(x.1.2.1,x.1.2.2.1),x.2.1.1)) (λk=>k.1) (λk=>k.2) zn (λ_ s=>((),((s,()),())))
def qsq:ae prog (.loop (au f75 0)) Dn.M Dn ZD:=
 cN EX (λi k s=>((i,k.1,k.2,()),((s,()),()))) ah.dflt
def qlv(x:pw.M.X):Fr pw.Out:=
 match x with
 |(_,((l,_),o,_))=>Jb (J ((l.length:Int)>0))
   (Jd (1<=l.length) (Jd (l.length<=1000000) (Jd (cD [(1,252)] 1=U 252) (Jb Z
    (Jd (o.length + [(po l).2.2.1].length<=maxLen/\(o.length + [(po l).2.2.1].length)*8<=140737488355328) (Jv (Rd.next ((),(iu l,()),o++[(po l).2.2.1],()))))
    (Jv (Rd.next ((),(iu l,()),o,())))))))
   (Jv (Rd.out ((),o,())))
def qzh:ae prog (au f75 1) pw.M pw qlv:=dn EX
def rI:Nat->bF->List Int->List Int
 |0,_,o=>o
 |n+1,l,o=>rI n (iu l) (o++[(po l).2.2.1])
def ZE(x:pw.M.X):Fr pw.Out:=
 match x with
 |(_,((l,_),o,_))=>Jd (o.length+l.length<=1000000) (Jv (Rd.out ((),rI l.length l o,())))
def qsr:ae prog (.loop (au f75 1)) pw.M pw ZE:=
 ae.loop qzh (inv:=λx=>x.2.2.1.length+x.2.1.1.length<=1000000) (μ:=λx=>x.2.1.1.length)
  (by
   rintro⟨_,⟨⟨l,_⟩,o,_⟩⟩ a Q b;have b:=b.2;have a:o.length+List.length l<=1000000:=a;refine⟨λc=>?_,λc=>?_⟩;have d:(List.length l:Int)>0:=ucx c;have f:1<=List.length l:=by omega
   have g:List.length l<=1000000:=by omega
   obtain⟨i,_,_⟩:=Uh f g (λ_=>True) (λ_ _=>uT);have j:=ew;refine⟨f,g,rfl,λ_=>⟨?_,?_,?_,?_,?_⟩,λh=>(by cases h)⟩;show o.length+1<=maxLen/\(o.length+1)*8<=140737488355328;omega;show(o++[_]).length+(iu l).length<=1000000;rw[ub6];show o.length+1+(iu l).length<=1000000;omega;show(iu l).length<List.length l;omega;show(o++[_]).length+(iu l).length<=1000000;rw[ub6];show o.length+1+(iu l).length<=1000000;omega;have e:List.length l=(iu l).length+1:=i.symm;rw[e]at b;exact b;have d:¬ (List.length l:Int)>0:=uch c;have e:List.length l=0:=by omega
   rw[e]at b;exact b)
  (λx Q h=>h.1)
def C6(ts:List ah.den):Int×(List ah.den):=((ts.length:Int),ts)
def ud(ts:List ah.den):bF:=bO (zn (C6 ts) True) 0 ts []
def Qk(x:ag [.d (.sl ah)]):Fr (aa [aK]):=
 cI (InK (List.length x.1:Int) 0 (List.length x.1)) (bM (zn (C6 x.1) True) 0 x.1 []) (ud x.1) (λl=>Jd (([]:List Int).length+l.length<=1000000) (Jv (rI l.length l [],())))
def qjn:af prog 75 (bg [.d (.sl ah)] [aK] Qk):=
 oP EX qsq qsr (fn:=f75)
def JW(ts:List ah.den)(n:ts.length<=1000000):bM (zn (C6 ts) True) 0 ts []/\(ud ts).length<=ts.length/\∀ x∈ud ts,0<=x.2.2.1/\x.2.2.1<(ts.length:Int):=
 dk (step:=zn (C6 ts) True) (λi (s:bF)=>s.length<=i/\∀ x∈s,0<=x.2.2.1/\x.2.2.1<(ts.length:Int)) ts (λi e s m c=>by
  have hi:=eD m;have f:s.length<=1000000:=ueo c.1 (by omega);have d:∀ a b:Int,(Ki s a b i).satP (λj=>j.length<=i+1/\∀ x∈j,0<=x.2.2.1/\x.2.2.1<(ts.length:Int)):=λa b=>by
   obtain⟨k,l⟩:=qwr (y:=(a,b,(i:Int),())) f (λx=>0<=x.2.2.1/\x.2.2.1<(ts.length:Int)) c.2 ⟨ub4 _,Int.ofNat_lt.2 hi⟩;exact⟨rfl,f,by rw[k];exact udj c.1,l⟩
  have g:s.length<=i+1/\∀ x∈s,0<=x.2.2.1/\x.2.2.1<(ts.length:Int):=⟨uc3 c.1,c.2⟩;exact⟨uT,λ_=>d _ _,λ_=>⟨λ_=>⟨λ_=>d _ _,λ_=>g⟩,λ_=>⟨λ_=>d _ _,λ_=>g⟩⟩⟩) [] ⟨ue9 _,λ_ h=>(nomatch h)⟩
def Ue(Q:Int->Prop):(n:Nat)->(l:bF)->(o:List Int)->l.length=n->n<=1000000->(∀ x∈l,Q x.2.2.1)->(∀ x∈o,Q x)->∀ x∈rI n l o,Q x
 |0,_,_,_,_,_,b=>b
 |n+1,l,o,f,g,h,b=>by
  obtain⟨e,c,d⟩:=Uh (l:=l) (by omega) (by omega) (λx=>Q x.2.2.1) h;refine Ue Q n (iu l) _ (by omega) (by omega) c (λx a=>?_);rcases uds.1 a with a|a
  exact b x a;rw[ucf.1 a];exact d
def Ud:(n:Nat)->(l:bF)->(o:List Int)->(rI n l o).length=o.length+n
 |0,_,_=>rfl
 |n+1,l,o=>by
  rw[rI,Ud n,ub6];show o.length+1+n=_;omega
def iE:Ct:=⟨[.d (.sl ah)],[aK],λx=>(Qk x).get,λx=>[List.length (α:=ah.den) x.1<=1000000]⟩
def qcv:af prog 75 iE:=bW qjn _ (λx b a=>⟨gt b.1.1,(JW x.1 a).1,by
 have h:=(JW x.1 a).2.1;have a:List.length x.1<=1000000:=a;show 0+(ud x.1).length<=1000000;omega,uT⟩)
def TB(ts:List ah.den)(a:ts.length<=1000000):(iE.f (ts,())).1.length<=ts.length/\∀ x∈(iE.f (ts,())).1,0<=x/\x<(ts.length:Int):=by
 obtain⟨_,b,c⟩:=JW ts a;refine⟨?_,Ue (λx=>0<=x/\x<(ts.length:Int)) _ (ud ts) [] rfl (ueo b a) c (λ_ h=>(nomatch h))⟩;show(rI _ _ _).length<=_;rw[Ud];show 0+(ud ts).length<=_;omega
section
open Go.Shelf Go.Lib
def qn8:∃ i0 z,InsTy prog 95 101 3 i0 z 5 40:=
 have ⟨i0,a,b,c,d⟩:=ufm (show(prog.info? 101).map (λi=>(i.zero,i.size,i.bytes))=U (U (.agg #[.int .i64 0,.int .i64 0,.int .i64 0,.int .i64 0,.int .i64 0]),5,40) by kernel_rfl)
 ⟨i0,_,underlying95,underlying3,a,b,c,d,rfl,by decide⟩
def qds:CloneOK prog 74 101 ay 40:=by
 refine⟨enters_of func74 (by kernel_rfl) rfl,λw n c A xs m l b g k d e=>?_⟩;obtain⟨i0,z,T⟩:=qn8;have a:=T.nil w
 go_enter func74,ntmps74
 cases A with
 |none=>
  have j:=l rfl;subst j;have o:xs=[]:=uab (by simpa using b);subst o
  go_wp2_with (simp only[a])
  go_ret
  exact⟨_,rfl,⟨rfl,rfl,rfl,ue9 _,λ_ _ _=>rfl⟩,ucs _ _ _ _⟩
 |some ad=>
  obtain⟨p,w',f,i,h⟩:=T.clone b (g ad rfl) k d e (n:=n) (c:=c)
  go_wp2_with (first|(simp only[a];done)|simp only[a]|(at_builtin;refine Lib.wpList_append_run _ rfl _ _ _ _ rfl _ _ rfl rfl _ _ (f _) ?_))
  go_ret
  exact⟨p,rfl,i,h⟩
def qn9:∃ i0 z,InsTy prog 69 107 3 i0 z 2 16:=
 have ⟨i0,a,b,c,d⟩:=ufm (show(prog.info? 107).map (λi=>(i.zero,i.size,i.bytes))=U (U (.agg #[.int .i64 0,.int .i64 0]),2,16) by kernel_rfl)
 ⟨i0,_,underlying69,underlying3,a,b,c,d,rfl,by decide⟩
def qdt:CloneOK prog 59 107 bR 16:=by
 refine⟨enters_of func59 (by kernel_rfl) rfl,λw n c A xs m l b g k d e=>?_⟩;obtain⟨i0,z,T⟩:=qn9;have a:=T.nil w
 go_enter func59,ntmps59
 cases A with
 |none=>
  have j:=l rfl;subst j;have o:xs=[]:=uab (by simpa using b);subst o
  go_wp2_with (simp only[a])
  go_ret
  exact⟨_,rfl,⟨rfl,rfl,rfl,ue9 _,λ_ _ _=>rfl⟩,ucs _ _ _ _⟩
 |some ad=>
  obtain⟨p,w',f,i,h⟩:=T.clone b (g ad rfl) k d e (n:=n) (c:=c)
  go_wp2_with (first|(simp only[a];done)|simp only[a]|(at_builtin;refine Lib.wpList_append_run _ rfl _ _ _ _ rfl _ _ rfl rfl _ _ (f _) ?_))
  go_ret
  exact⟨p,rfl,i,h⟩
end
abbrev j8:Ty:=.sl dq
noncomputable def UE:List (FuncId×Row):=[(1000000000000+130,.rw 0 132),(74,.clone 101 ay 40)]
noncomputable def Mq:Cx:=l8 [(76,tE),(73,tF),(75,iE)] [] UE (λ_ _ _ _=>V)
def wz:CxOK prog Mq:=mI (cs:=[(76,tE),(73,tF),(75,iE)]) (ps:=[]) (rs:=UE) aG ⟨qcw,qc0,qcv,uT⟩ trivial ⟨uT,qds,uT⟩ (λ_ _ _ _ _ h=>(nomatch h))
abbrev CM:List MI:=[.o 8 101 ay,.o 9 (ed 130 0 132) j8]
abbrev rO:Pt:=⟨112,2,⟨[(56,.d i64),(55,.d i64),(54,.d aK),(36,.d i64),(35,.d i64),(34,.d aK),(0,.d (.sl ah)),(1,.d (.sl ay)),(11,.d i64),(10,.d (.sl ay))],.x 14 44 ah :: .r 14 14 0::CM⟩,⟨[(36,.d i64),(35,.d i64),(34,.d aK),(0,.d (.sl ah)),(1,.d (.sl ay)),(11,.d i64),(10,.d (.sl ay))],CM⟩,⟨[],[]⟩⟩
abbrev qos:Type:=Int×Int×List Int×List ah.den×List ay.den×Int×List ay.den
abbrev yd:Type:=Int×List Int×qos×ah.den
abbrev la:Type:=List ay.den×List (List dq.den)
def Ft(a:List ay.den)(i:Int):Int:=(a.getD i.toNat ay.dflt).2.2.2.2.1
def Lo(a:List ay.den)(i e:Int):Int:=if Ft a i<e then Ft a i else e
def Ju(a:List ay.den)(i v:Int):List ay.den:=
 a.set i.toNat ((a.getD i.toNat ay.dflt).1,(a.getD i.toNat ay.dflt).2.1,(a.getD i.toNat ay.dflt).2.2.1,(a.getD i.toNat ay.dflt).2.2.2.1,I6.wrap (Ft a i-v),())
def qty(out:List (List dq.den))(i:Int)(c:dq.den):List (List dq.den):=out.set i.toNat (out.getD i.toNat []++[c])
def Cm(n:Nat)(i:Int)(x:Fr la):Fr la:=Jd (0<=i/\i<(n:Int)) (Jd (i.toNat<n) x)
def pN(k:yd)(b:Prop)(i:Int)(e:i64.den)(s:la):Fr la:=
 let c:=Lo s.1 i e;let a:=s.2.getD i.toNat [];Jd b (Cm s.1.length i (Cm s.1.length i (Cm s.1.length i
  (Jb (J (Lo s.1 i e>0))
   (Cm s.2.length i (Jd (a.length+1<=maxLen/\(a.length+1)*16<=140737488355328) (Jd (0<=i/\i<(s.2.length:Int)) (Jd (i.toNat<s.2.length/\i.toNat=i.toNat)
    (Jv (Ju s.1 i c,qty s.2 i (k.2.2.2.1,Lo s.1 i e,())))))))
   (Jv (Ju s.1 i c,s.2))))))
def qvj(k:yd)(s:la):rO.E.X:=((k.2.2.1.1,k.2.2.1.2.1,k.2.2.1.2.2.1,k.2.2.1.2.2.2.1,k.2.2.1.2.2.2.2.1,k.2.2.1.2.2.2.2.2.1,k.2.2.1.2.2.2.2.2.2,()),s.1,s.2,())
def Nk:rO.M.X->Fr rO.Out:=FG (λx=>(x.1.1,((x.1.2.1,x.1.2.2.1,(x.1.2.2.2.1,x.1.2.2.2.2.1,x.1.2.2.2.2.2.1,x.1.2.2.2.2.2.2.1,x.1.2.2.2.2.2.2.2.1,x.1.2.2.2.2.2.2.2.2.1,x.1.2.2.2.2.2.2.2.2.2.1),x.2.1):yd),((x.2.2.1,x.2.2.2.1):la))) (λk=>k.1) (λk=>k.2.1) pN qvj
noncomputable def RE:Code:=(Go.Ab.loopB (au f48 0) 0).getD .skip
def qsn:ae prog (.loop RE) rO.M rO Nk:=
 cN wz (λi k s=>((i,k.1,k.2.1,k.2.2.1.1,k.2.2.1.2.1,k.2.2.1.2.2.1,k.2.2.1.2.2.2.1,k.2.2.1.2.2.2.2.1,k.2.2.1.2.2.2.2.2.1,k.2.2.1.2.2.2.2.2.2,()),k.2.2.2,s.1,s.2,())) i64.dflt
abbrev Dm:Pt:=⟨112,0,⟨[(36,.d i64),(35,.d i64),(34,.d aK),(0,.d (.sl ah)),(1,.d (.sl ay)),(11,.d i64),(10,.d (.sl ay))],CM⟩,⟨[(1,.d (.sl ay))],CM⟩,⟨[],[]⟩⟩
abbrev ye:Type:=Int×List Int×List ah.den×List ay.den
abbrev pF:Type:=Int×List ay.den×la
def om(t:ah.den)(a:List ay.den):List Int:=(tE.f (t,a,())).1
def C4(k:ye)(i:Int)(t:ah.den)(b:Int)(a:List ay.den):yd:=((om t a).length,om t a,(i,k.1,k.2.1,k.2.2.1,k.2.2.2,b,a),t)
def Lt(k:ye)(i:Int)(t:ah.den)(b:Int)(a:List ay.den)(s:la):Fr pF:=
 Jd (a.length<=1000000) (cI (InK ((om t a).length:Int) 0 (om t a).length) (bM (pN (C4 k i t b a) True) 0 (om t a) s) (bO (pN (C4 k i t b a) True) 0 (om t a) s) (λr=>Jv (b,a,r)))
def sm(k:ye)(b:Prop)(i:Int)(e:i64.den)(s:pF):Fr pF:=
 let a:=k.2.2.1.getD (Int.toNat e) ah.dflt;Jd b (Jd (0<=e/\e<(k.2.2.1.length:Int))
  (Jb (a.2.1 != s.1)
   (Jd (s.2.2.1.length<=maxLen) (Jd (s.2.2.1.length*40<=140737488355328) (Lt k i a a.2.1 s.2.2.1 s.2.2)))
   (Lt k i a s.1 s.2.1 s.2.2)))
def ZC:Dm.M.X->Fr Dm.Out:=FG (λx=>(x.1.1,((x.1.2.1,x.1.2.2.1,x.1.2.2.2.1,x.1.2.2.2.2.1):ye),((x.1.2.2.2.2.2.1,x.1.2.2.2.2.2.2.1,x.2.1,x.2.2.1):pF))) (λk=>k.1) (λk=>k.2.1) sm (λk s=>((k.2.2.2,()),s.2.2.1,s.2.2.2,()))
def qsp:ae prog (.loop (au f48 0)) Dm.M Dm ZC:=
 cN wz (λi k s=>((i,k.1,k.2.1,k.2.2.1,k.2.2.2,s.1,s.2.1,()),s.2.2.1,s.2.2.2,())) i64.dflt (Λ:=λ_=>rO.han Mq.Γ rO.M Nk) (hΛ:=λ_=>kP (by kernel_rfl) (b:=RE) (by kernel_rfl) (ae.han wz rfl qsn))
abbrev ofN:List MI:=[.o 9 (ed 130 0 132) j8,.o 97 101 ay,.o 17 3 i64]
abbrev Dl:Pt:=⟨112,4,⟨[(99,.d i64),(98,.d i64)],ofN⟩,⟨[],[.o 9 (ed 130 0 132) j8,.o 17 3 i64]⟩,⟨[],[]⟩⟩
def zm(k:Int×List (List dq.den)×List ay.den)(b:Prop)(i:Int)(e:ay.den)(s:List Int):Fr (List Int):=
 Jd b (Jd (i.toNat<k.2.2.length) (Jd (0<=i/\i<(s.length:Int)) (Jd (i.toNat<s.length) (Jv (s.set i.toNat e.2.2.2.2.1)))))
def ZB:Dl.M.X->Fr Dl.Out:=FG (λx=>(x.1.1,(x.1.2.1,x.2.1,x.2.2.1),x.2.2.2.1)) (λk=>k.1) (λk=>k.2.2) zm (λk s=>((),k.2.1,s,()))
def qso:ae prog (.loop (au f48 1)) Dl.M Dl ZB:=
 cN wz (λi k s=>((i,k.1,()),k.2.1,k.2.2,s,())) ay.dflt
def nj(ts:List ah.den)(a:List ay.den):ye:=(((iE.f (ts,())).1.length:Int),(iE.f (ts,())).1,ts,a)
def uI(n:Nat)(z:Int):Prop:=0<=(n:Int)/\(n:Int)<=(n:Int)/\(n:Int)<=(maxLen:Int)/\(n:Int)*z<=140737488355328
def BL(x:ag [.d (.sl ah),.d (.sl ay)]):Fr (aa [.sl j8,aK,i64]):=
 Jb ((tF.f (x.1,x.2.1,())).1 != 0) (Jv ([],[],(tF.f (x.1,x.2.1,())).1,()))
  (Jd (List.length x.2.1<=maxLen) (Jd (List.length x.2.1*40<=140737488355328) (Jd (uI (List.length x.2.1) 24) (Jd (List.length x.2.1<=maxLen) (Jd (List.length x.2.1*40<=140737488355328) (Jd (List.length x.1<=1000000)
   (cI (InK ((iE.f (x.1,())).1.length:Int) 0 (iE.f (x.1,())).1.length) (bM (sm (nj x.1 x.2.1) True) 0 (iE.f (x.1,())).1 (1,x.2.1,x.2.1,List.replicate (Int.toNat (List.length x.2.1:Int)) [])) (bO (sm (nj x.1 x.2.1) True) 0 (iE.f (x.1,())).1 (1,x.2.1,x.2.1,List.replicate (Int.toNat (List.length x.2.1:Int)) []))
    (λs=>Jd (uI (List.length x.2.1) 8)
     (cI (InK (s.2.2.1.length:Int) 0 s.2.2.1.length) (bM (zm ((s.2.2.1.length:Int),s.2.2.2,s.2.2.1) True) 0 s.2.2.1 (List.replicate (Int.toNat (List.length x.2.1:Int)) 0)) (bO (zm ((s.2.2.1.length:Int),s.2.2.2,s.2.2.1) True) 0 s.2.2.1 (List.replicate (Int.toNat (List.length x.2.1:Int)) 0))
      (λo=>Jv (s.2.2.2,o,0,())))))))))))
def qkf:af prog 48 (bg [.d (.sl ah),.d (.sl ay)] [.sl j8,aK,i64] BL):=
 oP wz qsp qso (fn:=f48)
def yl{z:Int}(h:n<=1000000)(a:0<=z/\z<=1000):uI n z:=by
 have:=ew;refine⟨by omega,by omega,by omega,?_⟩;have b:(n:Int)*z<=1000000*z:=Int.mul_le_mul_of_nonneg_right (by omega) a.1;omega
def quh(k:yd)(s:la)(n m:Nat)(hb:k.2.1.length<=n)(hm:m+n<=999999)(h1:s.1.length=n)(h2:s.2.length=n)(hr:∀ g∈s.2,g.length<=m):
  bM (pN k True) 0 k.2.1 s/\(bO (pN k True) 0 k.2.1 s).1.length=n/\(bO (pN k True) 0 k.2.1 s).2.length=n/\∀ g∈(bO (pN k True) 0 k.2.1 s).2,g.length<=m+k.2.1.length:=
 dk (step:=pN k True) (λj (s:la)=>s.1.length=n/\s.2.length=n/\∀ g∈s.2,g.length<=m+j) k.2.1 (λj e s he hs=>by
  have hj:j<n:=ucb (eD he) hb;obtain⟨a1,a2⟩:=lK hj hs.1;obtain⟨b1,b2⟩:=lK hj hs.2.1;have hg:(s.2.getD (Int.toNat (j:Int)) []).length<=m+j:=by
   rw[uah,uaq b2];exact hs.2.2 _ (udi b2)
  have hl:∀ v,(Ju s.1 j v).length=n:=λv=>by
   show(List.set _ _ _).length=n;rw[udo];exact hs.1
  have hx:=ew;refine⟨uT,a1,a2,a1,a2,a1,a2,λ_=>⟨b1,b2,by omega,b1,⟨b2,rfl⟩,hl _,?_,λg hgm=>?_⟩,λ_=>⟨hl _,hs.2.1,λg hgm=>uc3 (hs.2.2 g hgm)⟩⟩
  ·show(List.set _ _ _).length=n;rw[udo];exact hs.2.1
  ·rcases uap hgm with h|h
   ·exact uc3 (hs.2.2 g h)
   ·rw[h,ub6];exact udj hg) s ⟨h1,h2,hr⟩
def quk(ts:List ah.den)(ls:List ay.den)(ht:ts.length<=100)(hl:ls.length<=2000)(s:pF)(hs:s.2.1.length=ls.length/\s.2.2.1.length=ls.length/\s.2.2.2.length=ls.length/\∀ g∈s.2.2.2,g.length<=0):
  bM (sm (nj ts ls) True) 0 (iE.f (ts,())).1 s/\(bO (sm (nj ts ls) True) 0 (iE.f (ts,())).1 s).2.2.1.length=ls.length/\(bO (sm (nj ts ls) True) 0 (iE.f (ts,())).1 s).2.2.2.length=ls.length/\∀ g∈(bO (sm (nj ts ls) True) 0 (iE.f (ts,())).1 s).2.2.2,g.length<=1000000:=by
 obtain⟨o1,o2⟩:=TB ts (by omega);have hx:=ew;have key:=dk (step:=sm (nj ts ls) True) (λi (s:pF)=>s.2.1.length=ls.length/\s.2.2.1.length=ls.length/\s.2.2.2.length=ls.length/\∀ g∈s.2.2.2,g.length<=i*2000) (iE.f (ts,())).1 (λi e s he hs=>by
  have hi:i<100:=by
   have:=eD he;omega
  have hin:=o2 e (ubg he);have htl:∀ t kd rd,List.length rd=ls.length->(Lt (nj ts ls) i t kd rd s.2.2).satP (λ(s:pF)=>s.2.1.length=ls.length/\s.2.2.1.length=ls.length/\s.2.2.2.length=ls.length/\∀ g∈s.2.2.2,g.length<=(i+1)*2000):=λt kd rd hrd=>by
   have hbl:(om t rd).length<=ls.length:=by
    rcases zbs t rd (by omega)with h|h
    ·have:om t rd=[]:=h;rw[this];exact uff _
    ·exact Nat.le_of_eq (h.trans hrd)
   obtain⟨k1,k2,k3,k4⟩:=quh (C4 (nj ts ls) i t kd rd) s.2.2 ls.length (i*2000) hbl (by omega) hs.2.1 hs.2.2.1 hs.2.2.2;refine⟨by omega,fz (A:=λ(r:la)=>r.1.length=ls.length/\r.2.length=ls.length/\∀ g∈r.2,g.length<=(i+1)*2000) (dI (by omega)) ⟨k1,k2,k3,λg hg=>?_⟩ (λr hr=>⟨hrd,hr⟩)⟩;have h5:=k4 g hg;have h6:List.length (C4 (nj ts ls) i t kd rd).2.1<=ls.length:=hbl;omega
  exact⟨uT,hin,λ_=>⟨by omega,by omega,htl _ _ _ hs.2.1⟩,λ_=>htl _ _ _ hs.1⟩) s ⟨hs.1,hs.2.1,hs.2.2.1,λg hg=>ueo (hs.2.2.2 g hg) (uff _)⟩
 obtain⟨k1,_,k3,k4,k5⟩:=key;exact⟨k1,k3,k4,λg hg=>ueo (k5 g hg) (by omega)⟩
def quj(out:List (List dq.den))(a:List ay.den)(s:List Int)(b:s.length=a.length):bM (zm ((a.length:Int),out,a) True) 0 a s/\True:=
 ⟨(dk (step:=zm ((a.length:Int),out,a) True) (λ_ (s:List Int)=>s.length=a.length) a (λi e s c b=>by
  obtain⟨d,f⟩:=lK (eD c) b;obtain⟨h,g⟩:=lK (l:=a) (eD c) rfl;exact⟨uT,g,d,f,(show(List.set _ _ _).length=_ by rw[udo];exact b)⟩) s b).1,uT⟩
def Wc(ts:List ah.den)(ls:List ay.den):(BL (ts,ls,())).satP (λy=>y.1.length<=2000/\∀ g∈y.1,List.length (α:=dq.den) g<=1000000):=by
 unfold BL;refine⟨λ_=>⟨uff _,λ_ h=>(nomatch h)⟩,λhe=>?_⟩;have he':(tF.f (ts,ls,())).1=0:=by simpa using he
 obtain⟨h1,h2⟩:=qtr ts ls he';have hx:=ew;have hl:ls.length<=1000000:=by omega
 have e0:Int.toNat (ls.length:Int)=ls.length:=uc0 _;refine⟨by show ls.length<=maxLen;omega,by show ls.length*40<=_;omega,yl hl (by decide),by show ls.length<=maxLen;omega,by show ls.length*40<=_;omega,by show ts.length<=_;omega,fz (A:=λ(s:pF)=>s.2.2.1.length=ls.length/\s.2.2.2.length=ls.length/\∀ g∈s.2.2.2,g.length<=1000000) (dI ?_) (quk ts ls h1 h2 _ ⟨rfl,rfl,?_,λg hg=>?_⟩) (λs hs=>⟨yl hl (by decide),fz (A:=λ_=>True) (dI (by rw[hs.1];omega)) (quj s.2.2.2 s.2.2.1 _ ?_) (λo _=>⟨by show s.2.2.2.length<=_;omega,hs.2.2⟩)⟩)⟩
 ·have:=(TB ts (by omega)).1;show(iE.f (ts,())).1.length<=_;omega
 ·show(List.replicate (Int.toNat (ls.length:Int)) _).length=ls.length;rw[ubc,e0]
 ·have hg':g∈List.replicate (Int.toNat (ls.length:Int)) ([]:List dq.den):=hg;rw[List.eq_of_mem_replicate hg'];exact ue9 _
 ·show(List.replicate (Int.toNat (ls.length:Int)) _).length=_;rw[ubc,e0];exact hs.1.symm
def tD:Ct:=⟨[.d (.sl ah),.d (.sl ay)],[.sl j8,aK,i64],λx=>(BL x).get,λ_=>[]⟩
def O6:af prog 48 tD:=bW qkf _ (λx _ _=>(cO (Wc x.1 x.2.1)).1)
def Wb(ts:List ah.den)(a:List ay.den):(tD.f (ts,a,())).1.length<=2000/\∀ g∈(tD.f (ts,a,())).1,List.length (α:=dq.den) g<=1000000:=(cO (Wc ts a)).2
noncomputable def YH:Cx:=cx [(228,A9),(229,qu)] []
def Mr:CxOK prog YH:=aP aG ⟨T8,OT,uT⟩ trivial
abbrev pq:Pt:=⟨32,0,⟨[(5,.d i64),(4,.d i64)],[.x 1 150 ar,.r 1 1 0,.x 3 150 ar,.r 3 3 0]⟩,⟨[(4,.d i64)],[]⟩,⟨[],[]⟩⟩
def qlt(x:pq.M.X):Fr pq.Out:=
 match x with
 |((k,e,_),f,y,_)=>
  Jb (bif J (k<(List.length f.2.1:Int))then e==0 else Y)
   (Jd (0<=k/\k<(List.length f.2.1:Int)) (Jv (Rd.next ((I6.wrap (k+1),(qu.f (y,List.getD f.2.1 k.toNat bn.dflt,())).2.1,()),f,(qu.f (y,List.getD f.2.1 k.toNat bn.dflt,())).1,()))))
   (Jv (Rd.out ((e,()),())))
def qzg:ae prog (au f209 0) pq.M pq qlt:=dn Mr
def r7:List bn.den->ar.den->Int->Int
 |[],_,e=>e
 |a::r,y,e=>if e=0 then r7 r (qu.f (y,a,())).1 (qu.f (y,a,())).2.1 else e
def Z8(x:pq.M.X):Fr pq.Out:=
 match x with
 |((k,e,_),f,y,_)=>Jd (0<=k/\k<=(List.length f.2.1:Int)/\List.length f.2.1<=maxLen) (Jv (Rd.out ((r7 (List.drop k.toNat f.2.1) y e,()),())))
def qtn{k:Int}{l:List bn.den}(h:0<=k/\k<=(l.length:Int)/\l.length<=maxLen)(c:k<(l.length:Int)):I6.wrap (k+1)=k+1/\List.drop k.toNat l=l.getD k.toNat bn.dflt::List.drop (k+1).toNat l:=by
 have b:maxLen<=9223372036854775807:=by decide
 have a:k.toNat<l.length:=by omega
 refine⟨cz (by omega),?_⟩;rw[show(k+1).toNat=k.toNat+1 by omega,ual a,uah,uaq a];rfl
def qtm{k:Int}(h:0<=k/\k<=(n:Int)/\n<=maxLen)(a:k<(n:Int)):(0<=k+1/\k+1<=(n:Int)/\n<=maxLen)/\((n:Int)-(k+1)).toNat<((n:Int)-k).toNat:=by omega
def qtl{k:Int}(h:0<=k/\k<=(n:Int)/\n<=maxLen)(a:¬ k<(n:Int)):n<=k.toNat:=by omega
def qsh:ae prog (.loop (au f209 0)) pq.M pq Z8:=
 ae.loop qzg (inv:=λx=>0<=x.1.1/\x.1.1<=(List.length x.2.1.2.1:Int)/\List.length x.2.1.2.1<=maxLen) (μ:=λx=>((List.length x.2.1.2.1:Int)-x.1.1).toNat)
  (by
   rintro⟨⟨k,e,_⟩,f,y,_⟩ a Q c;have c:Q (Rd.out ((r7 (List.drop k.toNat f.2.1) y e,()),())):=c.2;have a:0<=k/\k<=(List.length f.2.1:Int)/\List.length f.2.1<=maxLen:=a;by_cases d:k<(List.length f.2.1:Int);obtain⟨j,l⟩:=qtn a d;obtain⟨i,m⟩:=qtm a d;rw[l]at c;by_cases g:e=0;rw[r7,ufv g]at c;refine⟨λ_=>⟨⟨a.1,d⟩,?_⟩,λb=>?_⟩;rw[j];exact⟨i,m,i,c⟩;rw[uea d,g]at b;cases b;rw[r7,ufw g]at c;refine⟨λb=>?_,λ_=>c⟩;have b:(bif J (k<(List.length f.2.1:Int))then e==0 else Y)=true:=b;rw[uea d]at b;exact absurd (by simpa using b) g;have:=qtl a d;rw[ua2 this,r7]at c;refine⟨λb=>?_,λ_=>c⟩;have b:(bif J (k<(List.length f.2.1:Int))then e==0 else Y)=true:=b;rw[udv d]at b;cases b)
  (λx Q h=>h.1)
def Qh(x:ag [.d ar]):Fr (aa [.bool]):=
 Jd (0<=(0:Int)/\(0:Int)<=(List.length x.1.2.1:Int)/\List.length x.1.2.1<=maxLen) (Jv (r7 (List.drop (Int.toNat 0) x.1.2.1) (A9.f (x.1.1,())).1 0==0,()))
def GJ:Ct:=⟨[.d ar],[.bool],λx=>(Qh x).get,λ_=>[]⟩
def qjj:af prog 209 (bg [.d ar] [.bool] Qh):=cS Mr qsh (fn:=f209)
def qcn:af prog 209 GJ:=bW qjj _ (λx a _=>⟨⟨by decide,ub4 _,a.1.2.1.1⟩,uT⟩)
noncomputable def YI:Cx:=cx [(135,ly),(68,wO),(209,GJ)] []
def Ms:CxOK prog YI:=aP aG ⟨Vw,Ot,qcn,uT⟩ trivial
def B5(x:ag [.d ar]):Fr (aa [aJ]):=
 Jv ((if (ly.f (x.1,())).1.1<(ly.f (x.1,())).1.2.1 then (ly.f (x.1,())).1.2.1 else (ly.f (x.1,())).1.1,(ly.f (x.1,())).1.2),())
def qin:af prog 83 ⟨[.d ar],[aJ],λxs=>(B5 xs).get,λxs=>[(B5 xs).ok]⟩:=
 cf Ms (Λ:=bw) (fn:=f83) (aW [.d ar]) (by kernel_rfl) (λc E _=>aY c 0) (λx=>by kernel_rfl)
def GA:Ct:=⟨[.d ar],[aJ],λx=>(B5 x).get,λ_=>[]⟩
def qb4:af prog 83 GA:=bW qin _ (λx a _=>uT)
def Bz(x:ag [.d ar,.ptr ak]):Fr (aa [.bool]):=
 Jv (bif bif !(wO.f (x.1.1,())).1 then Z else x.1.1.2.2.1 != x.2.1.1 then Z else !(GJ.f (x.1,())).1,())
def qh7:af prog 208 ⟨[.d ar,.ptr ak],[.bool],λxs=>(Bz xs).get,λxs=>[(Bz xs).ok]⟩:=
 cf Ms (Λ:=bw) (fn:=f208) (aW [.d ar,.ptr ak]) (by kernel_rfl) (λc E _=>aY c 0) (λx=>by kernel_rfl)
def AI:Ct:=⟨[.d ar,.ptr ak],[.bool],λx=>(Bz x).get,λ_=>[]⟩
def qb0:af prog 208 AI:=bW qh7 _ (λx a _=>uT)
noncomputable def YJ:Cx:=cx [(136,j6),(210,fA ar),(208,AI)] []
def YK:CxOK prog YJ:=aP aG ⟨xn,NE,qb0,uT⟩ trivial
def By(x:ag [.d ak,.d (.sl ar)]):Fr (aa [.bool]):=
 let a:=j6.f (x.1,());Jd (a.1=Z->∀ (b:aa [ar]),fi [ar] b->av (AI.ok (b.1,x.1,()))) (Jv (bif a.1 then !((fA ar).f (x.2.1,λb=>AI.f (b.1,x.1,()),())).1 else Y,()))
def qh8:af prog 180 ⟨[.d ak,.d (.sl ar)],[.bool],λxs=>(By xs).get,λxs=>[(By xs).ok]⟩:=
 cf YK (Λ:=bw) (fn:=f180) (aW [.d ak,.d (.sl ar)]) (by kernel_rfl) (λc E _=>aY c 0) (λx=>by kernel_rfl)
def G9:Ct:=⟨[.d ak,.d (.sl ar)],[.bool],λx=>(By x).get,λ_=>[]⟩
def qb1:af prog 180 G9:=bW qh8 _ (λx a _=>by unfold By;repeat' first|exact trivial|intro _|refine⟨?_,?_⟩|decide)
noncomputable def Mu:Cx:=cx [(180,G9)] []
def ES:CxOK prog Mu:=aP aG ⟨qb1,uT⟩ trivial
abbrev vg:Pt:=⟨31,0,⟨[(14,.d i64),(13,.d i64),(12,.d (.sl ar)),(5,.d i64),(1,.d (.sl ar))],[]⟩,⟨[(5,.d i64),(1,.d (.sl ar))],[]⟩,⟨[],[]⟩⟩
def DI(k:Int×(List ar.den)×(List ar.den))(b:Prop)(i:Int)(e:ar.den)(s:Int):Fr (Int):=
 Jd b (Jv (I6.wrap (s+((List.length e.2.1):Int))))
def MR:vg.M.X->Fr vg.Out:=FG (λx=>(x.1.1,(x.1.2.1,x.1.2.2.1,x.1.2.2.2.2.1),x.1.2.2.2.1)) (λk=>k.1) (λk=>k.2.1) DI (λk s=>((s,k.2.2,()),()))
def qrr:ae prog (.loop (au f132 0)) vg.M vg MR:=
 cN ES (λi k s=>((i,k.1,k.2.1,s,k.2.2,()),())) ar.dflt
def QP:=λk s=>bO (DI k True) 0 k.2.1 s
def Tn:=λk s=>bM (DI k True) 0 k.2.1 s
def zdy(Γ:Gm):St->Option Tr:=vg.han Γ vg.M MR
def B3(x:ag [.d ak,.d (.sl ar)]):Fr (aa [i64]):=
 Jb (!(G9.f x).1) (Jv (1,())) (cI (InK (((List.length x.2.1):Int)) 0 (List.length x.2.1)) (Tn (((List.length x.2.1):Int),x.2.1,x.2.1) 0) (QP (((List.length x.2.1):Int),x.2.1,x.2.1) 0) (λa=>Jb (bif J (((List.length x.2.1):Int)>2000)then Z else J (a>2000)) (Jv (2,())) (Jv (0,()))))
def qia:af prog 132 ⟨[.d ak,.d (.sl ar)],[i64],λxs=>(B3 xs).get,λxs=>[(B3 xs).ok]⟩:=
 cf ES (Λ:=(λ_=>zdy Mu.Γ)) (fn:=f132) (aW [.d ak,.d (.sl ar)]) (by kernel_rfl) (λc E a=>zlp a (by kernel_rfl) (b:=au f132 0) (by kernel_rfl) (ae.han ES rfl qrr)) (λx=>by kernel_rfl)
def ev(l:List ar.den):Prop:=l.length<=1000000/\∀ f∈l,List.length (α:=bn.den) f.2.1<=1000000
def ej(l:List ar.den):Nat:=(l.map (λf=>List.length (α:=bn.den) f.2.1)).sum
def V1:(l:List ar.den)->(∀ f∈l,List.length (α:=bn.den) f.2.1<=n)->ej l<=l.length*n
 |[],_=>uff _
 |f::r,h=>by
  have b:=h f ucc;have c:=V1 r (λf a=>h f (ubj _ a));show List.length (α:=bn.den) f.2.1+ej r<=(r.length+1)*n;rw[ufb];omega
def V2{l:List ar.den}{e:ar.den}(a:l[i]?= U e):ej (l.take (i+1))=ej (l.take i)+List.length (α:=bn.den) e.2.1:=by
 unfold ej;rw[List.take_succ,a,udw,List.sum_append];rfl
def qda(l:List ar.den)(h:ev l):Tn ((l.length:Int),l,l) 0/\QP ((l.length:Int),l,l) 0=(ej l:Int):=by
 have key:=dk (step:=DI ((l.length:Int),l,l) True) (λi (s:Int)=>s=(ej (l.take i):Int)) l (λi e s g k=>by
  refine⟨uT,?_⟩;have b:=V1 (n:=1000000) (l.take (i+1)) (λf j=>h.2 f (ubq j));have c:(l.take (i+1)).length<=1000000:=by
   rw[uc5];have:=h.1;omega
  have a:=V2 g;show I6.wrap (s+(List.length (α:=bn.den) e.2.1:Int))=_;have d:ej (l.take (i+1))<=1000000*1000000:=ueo b (ube _ c);rw[a,k];rw[a]at d;rw[show((ej (List.take i l)+List.length (α:=bn.den) e.2.1:Nat):Int)=(ej (List.take i l):Int)+(List.length (α:=bn.den) e.2.1:Int) from rfl];exact cz (by omega)) 0 rfl
 rw[List.take_length]at key;exact key
def OG(c:ak.den)(l:List ar.den)(h:ev l):(B3 (c,l,())).satP (λy=>y.1=0->l.length<=2000/\ej l<=2000):=by
 refine⟨λ_ h=>(by cases h),λ_=>fz (A:=λs=>s=(ej l:Int)) (dI (ueo h.1 (by decide))) (qda l h) (λs e=>⟨λ_ h=>(by cases h),λa _=>?_⟩)⟩;have a:(bif J ((l.length:Int)>2000)then Z else J (s>2000))=false:=a;by_cases b:(l.length:Int)>2000;rw[uea b]at a;cases a;rw[udv b]at a;have d:¬ s>2000:=uch a;rw[e]at d;omega
def qC:Ct:=⟨[.d ak,.d (.sl ar)],[i64],λx=>(B3 x).get,λx=>[ev x.2.1]⟩
def qb3:af prog 132 qC:=bW qia _ (λx _ a=>(cO (OG x.1 x.2.1 a)).1)
def qdb(c:ak.den)(l:List ar.den)(h:ev l)(a:(qC.f (c,l,())).1=0):l.length<=2000/\ej l<=2000:=(cO (OG c l h)).2 a
noncomputable def IW:Code:=((Go.Ab.loopB (au f211 0) 0).getD .skip)
def qzd:ae prog IW (eO 272 aw).M (eO 272 aw) (xI 272 aw):=
 dn aH
def qqz:ae prog (.loop IW) (eO 272 aw).M (eO 272 aw) (sG 272 aw):=S5 qzd
noncomputable def WO:Nat->St->Option Tr:=λ_=>(eO 272 aw).han dB.Γ (eO 272 aw).M (sG 272 aw)
def qpb{E:Env}:bP prog E WO (au f211 0) 0:=
 kP (b:=IW) (by kernel_rfl) (by kernel_rfl) (ae.han aH rfl qqz)
def qzf:ae prog (au f211 0) (eP 272 aw).M (eP 272 aw) (xJ 272 aw):=
 ae.of_run aH (bs:=0) (Λ:=WO) rfl rfl rfl (λE=>qpb) (λx=>by kernel_rfl)
def qq1:ae prog (.loop (au f211 0)) (eP 272 aw).M (eP 272 aw) (sH 272 aw):=S6 qzf
noncomputable def zdq:Nat->St->Option Tr:=λ_=>(eP 272 aw).han dB.Γ (eP 272 aw).M (sH 272 aw)
def qoc:SoundMt prog 211 (kQ 272 aw):=
 gW (iq aH (Λ:=zdq) (fn:=f211) (fr:=(xK 272 aw)) (e:=272) (T:=aw) (ps:=[.d i64,.d i64,(aV aw)]) (rs:=[]) (0,0,(λ_=>(0,()),λ_=>True),()) (by kernel_rfl) rfl rfl
  (λc E g=>zlp g (by kernel_rfl) (b:=au f211 0) (by kernel_rfl) (ae.han aH rfl qq1)) (λl x=>by kernel_rfl)) _ _ λ_ _ l xs _ _ a _ f=>RO l xs a f
def qzz:ae prog (au f240 0) (eX 272 aw).M (eX 272 aw) (xU 272 aw):=
 dn aH
def qrn:ae prog (.loop (au f240 0)) (eX 272 aw).M (eX 272 aw) (sP 272 aw):=SE qzz
noncomputable def zdx:Nat->St->Option Tr:=λ_=>(eX 272 aw).han dB.Γ (eX 272 aw).M (sP 272 aw)
def zbd:SoundMt prog 240 (jL 272 aw):=
 gW (iq aH (Λ:=zdx) (fn:=f240) (fr:=(Ca 272 aw)) (e:=272) (T:=aw) (ps:=[.d i64,.d i64,.d i64,(aV aw)]) (rs:=[]) (0,0,0,(λ_=>(0,()),λ_=>True),()) (by kernel_rfl) rfl rfl
  (λc E g=>zlp g (by kernel_rfl) (b:=au f240 0) (by kernel_rfl) (ae.han aH rfl qrn)) (λl x=>by kernel_rfl)) _ _ λ_ _ l xs _ _ a _ f=>VE l xs a f
noncomputable def LZ:Cx:=cW [] [] (fG (cx [] []).Γ 240 (jL 272 aw))
def EG:CxOK prog LZ:=cZ aG trivial trivial (gu aH.ct zbd)
def qzm:ae prog (au f231 0) (eR 272 aw).M (eR 272 aw) (xM 272 aw):=
 dn EG
def qra:ae prog (.loop (au f231 0)) (eR 272 aw).M (eR 272 aw) (sJ 272 aw):=S8 qzm
noncomputable def zdt:Nat->St->Option Tr:=λ_=>(eR 272 aw).han LZ.Γ (eR 272 aw).M (sJ 272 aw)
def qxy:SoundMt prog 231 (pb 272 aw):=
 gW (iq EG (Λ:=zdt) (fn:=f231) (fr:=(xN 272 aw)) (e:=272) (T:=aw) (ps:=[.d i64,.d i64,.d i64,(aV aw)]) (rs:=[]) (0,0,0,(λ_=>(0,()),λ_=>True),()) (by kernel_rfl) rfl rfl
  (λc E g=>zlp g (by kernel_rfl) (b:=au f231 0) (by kernel_rfl) (ae.han EG rfl qra)) (λl x=>by kernel_rfl)) _ _ λ_ _ l xs _ _ a _ f=>UB l xs a f
def qzo:ae prog (au f212 0) (eS 272 aw).M (eS 272 aw) (xO 272 aw):=
 dn aH
def qrc:ae prog (.loop (au f212 0)) (eS 272 aw).M (eS 272 aw) (sK 272 aw):=S9 qzo
def qzs:ae prog (au f212 2) (eU 272 aw).M (eU 272 aw) (xQ 272 aw):=
 dn aH
def qrg:ae prog (.loop (au f212 2)) (eU 272 aw).M (eU 272 aw) (sM 272 aw):=SB qzs
def qzw:ae prog (au f212 4) (eW 272 aw).M (eW 272 aw) (xS 272 aw):=
 dn aH
def qrk:ae prog (.loop (au f212 4)) (eW 272 aw).M (eW 272 aw) (sO 272 aw):=SD qzw
def qzq:ae prog (au f212 1) (eT 272 aw).M (eT 272 aw) (xP 272 aw):=
 dn aH
def qre:ae prog (.loop (au f212 1)) (eT 272 aw).M (eT 272 aw) (sL 272 aw):=SA qzq
def qzu:ae prog (au f212 3) (eV 272 aw).M (eV 272 aw) (xR 272 aw):=
 dn aH
def qri:ae prog (.loop (au f212 3)) (eV 272 aw).M (eV 272 aw) (sN 272 aw):=SC qzu
noncomputable def Mb(n:Nat):Cx:=cW [] [] (iS (fG (cx [] []).Γ 231 (pb 272 aw)) (fG (cx [] []).Γ 212 ((iP 272 aw) n)))
def Xr(h:SoundMt prog 212 ((iP 272 aw) n)):CxOK prog (Mb n):=cZ aG trivial trivial (jN (gu aH.ct qxy) (gu aH.ct h))
noncomputable def LM:Nat->St->Option Tr
 |0=>(eS 272 aw).han dB.Γ (eS 272 aw).M (sK 272 aw)
 |1=>(eT 272 aw).han dB.Γ (eT 272 aw).M (sL 272 aw)
 |2=>(eU 272 aw).han dB.Γ (eU 272 aw).M (sM 272 aw)
 |3=>(eV 272 aw).han dB.Γ (eV 272 aw).M (sN 272 aw)
 |_=>(eW 272 aw).han dB.Γ (eW 272 aw).M (sO 272 aw)
def qpf{E:Env}{c:Code}(k:f212.body=U c):bP prog E LM c 0:=by
 have f:(f212.body.map ce)=U 5:=by kernel_rfl
 have b0:f212.body.bind (Go.Ab.loopB · 0)=U (au f212 0):=by kernel_rfl
 have b1:f212.body.bind (Go.Ab.loopB · 1)=U (au f212 1):=by kernel_rfl
 have g:f212.body.bind (Go.Ab.loopB · 2)=U (au f212 2):=by kernel_rfl
 have h:f212.body.bind (Go.Ab.loopB · 3)=U (au f212 3):=by kernel_rfl
 have j:f212.body.bind (Go.Ab.loopB · 4)=U (au f212 4):=by kernel_rfl
 have d:∀ i,i<5->f212.body.bind (Go.Ab.loopB · i)=U (au f212 i):=λi hi=>match i,hi with
  |0,_=>b0
  |1,_=>b1
  |2,_=>g
  |3,_=>h
  |4,_=>j
 rw[k]at f d;simp only[Option.map_some,ucl]at f;simp only[uda]at d;refine jJ c 0 λi l a=>?_;have b:=loopB_lt a;rw[f]at b;have e:=d i b;rw[e]at a;cases a
 match i,b with
 |0,_=>exact ae.han aH rfl qrc
 |1,_=>exact ae.han aH rfl qre
 |2,_=>exact ae.han aH rfl qrg
 |3,_=>exact ae.han aH rfl qri
 |4,_=>exact ae.han aH rfl qrk
def qyc(n:Nat)(l:List (aw).den)(x:ag [.d i64,.d i64,.d i64,(aV aw)]):yS prog (Mb n) LM f212 272 aw [.d i64,.d i64,.d i64,(aV aw)] [] l x=U ((qY 272 aw) n l x):=by kernel_rfl
def VG:(n:Nat)->SoundMt prog 212 ((iP 272 aw) n)
 |0=>by
  have hf:prog.funcs[212]?= some f212:=by kernel_rfl
  obtain⟨c,hb⟩:∃ c,f212.body=some c:=⟨_,rfl⟩;refine⟨by decide,rfl,rfl,enters hf hb (by kernel_rfl),λw F l xs v vs rows _ _ _ _ _ _ _ hok=>?_⟩;have h:SymOk 0 xs.1 xs.2.1 xs.2.2.1 xs.2.2.2.1 l:=hok;have h1:=h.am;have h2:=h.mb;have h3:=h.size;omega
 |n+1=>by
  refine gW (iq (Xr (VG n)) (Λ:=LM) (fn:=f212) (fr:=(qY 272 aw) n) (e:=272) (T:=aw) (ps:=[.d i64,.d i64,.d i64,(aV aw)]) (rs:=[]) (0,0,0,(λ_=>(0,()),λ_=>True),()) (by kernel_rfl) rfl rfl
   (λc E hc=>qpf hc) (qyc n)) _ _ λw F l xs vs _ _ _ hok=>?_
  obtain⟨a,m,b,g,rfl⟩:∃ (a m b:Int) (g:(aV aw).den),xs=(a,m,b,g,()):=⟨xs.1,xs.2.1,xs.2.2.1,xs.2.2.2.1,rfl⟩;have h:SymOk (n+1) a m b g l:=hok;have h0:=h.a0;have h1:=h.am;have h2:=h.mb;obtain⟨a',rfl⟩:∃ n:Nat,a=n:=⟨a.toNat,by omega⟩;obtain⟨m',rfl⟩:∃ n:Nat,m=n:=⟨m.toNat,by omega⟩;obtain⟨b',rfl⟩:∃ n:Nat,b=n:=⟨b.toNat,by omega⟩;exact VL n a' m' b' g l h
noncomputable def zM:Cx:=cW [] [] (iS (fG (cx [] []).Γ 211 (kQ 272 aw)) (fG (cx [] []).Γ 212 ((iP 272 aw) big)))
def qj:CxOK prog zM:=cZ aG trivial trivial (jN (gu aH.ct qoc) (gu aH.ct (VG big)))
def qy8:ae prog (au f181 0) (eN 272 aw).M (eN 272 aw) (xG 272 aw):=
 dn qj
def qqs:ae prog (.loop (au f181 0)) (eN 272 aw).M (eN 272 aw) (sF 272 aw):=S4 qy8
noncomputable def Kc:Code:=((Go.Ab.loopB (au f181 1) 0).getD .skip)
def qzk:ae prog Kc (eQ 272 aw).M (eQ 272 aw) (xL 272 aw):=
 dn qj
def qq6:ae prog (.loop Kc) (eQ 272 aw).M (eQ 272 aw) (sI 272 aw):=S7 qzk
noncomputable def WQ:Nat->St->Option Tr:=λ_=>(eQ 272 aw).han zM.Γ (eQ 272 aw).M (sI 272 aw)
def qpd{E:Env}:bP prog E WQ (au f181 1) 0:=
 kP (b:=Kc) (by kernel_rfl) (by kernel_rfl) (ae.han qj rfl qq6)
def qy6:ae prog (au f181 1) (eM 272 aw).M (eM 272 aw) (xF 272 aw):=
 ae.of_run qj (bs:=0) (Λ:=WQ) rfl rfl rfl (λE=>qpd) (λx=>by kernel_rfl)
def qqq:ae prog (.loop (au f181 1)) (eM 272 aw).M (eM 272 aw) (sE 272 aw):=S3 qy6
noncomputable def zdv:Nat->St->Option Tr
 |0=>(eN 272 aw).han zM.Γ (eN 272 aw).M (sF 272 aw)
 |_=>(eM 272 aw).han zM.Γ (eM 272 aw).M (sE 272 aw)
def zan:SoundMt prog 181 (nk 272 aw):=
 gW (iq qj (Λ:=zdv) (fn:=f181) (fr:=(xT 272 aw)) (e:=272) (T:=aw) (ps:=[.d i64,(aV aw)]) (rs:=[]) (0,(λ_=>(0,()),λ_=>True),()) (by kernel_rfl) rfl rfl
  (λc E f=>C8 f (by kernel_rfl) (b0:=au f181 0) (b1:=au f181 1) (by kernel_rfl) (by kernel_rfl) (ae.han qj rfl qqs) (ae.han qj rfl qqq)) (λl x=>by kernel_rfl)) _ _ λ_ _ l xs _ _ a _ b=>Vu l xs a b
noncomputable def Xu:Cx:=cW [] [] (fG (cx [] []).Γ 181 (nk 272 aw))
def Xv:CxOK prog Xu:=cZ aG trivial trivial (gu aH.ct zan)
def zac:SoundMt prog 133 (pd 272 aw):=
 gW (iq Xv (Λ:=bw) (fn:=f133) (fr:=(BZ 272 aw)) (e:=272) (T:=aw) (ps:=[(aV aw)]) (rs:=[]) ((λ_=>(0,()),λ_=>True),()) (by kernel_rfl) rfl rfl
  (λc E _=>aY c 0) (λl x=>by kernel_rfl)) _ _ λ_ _ l xs _ _ a _ b=>Vo l xs a b
noncomputable def Mv:Cx:=cx [(157,mC)] []
def ET:CxOK prog Mv:=aP aG ⟨Be,uT⟩ trivial
abbrev rM:Pt:=⟨18,0,⟨[(8,.d i64),(7,.d i64),(6,.d aK),(3,.d i64)],[]⟩,⟨[(3,.d i64)],[]⟩,⟨[(2,.d i64)],[]⟩⟩
def mn(k:Int×(List Int)×Int)(b:Prop)(i:Int)(e:i64.den)(s:Unit):Fr (Unit ⊕ rM.R.X):=
 Jd b (Jb (e != k.2.2) (Jv (.inr ((e,()),()))) (Jv (.inl ())))
def MS:rM.M.X->Fr rM.Out:=FK (λx=>(x.1.1,(x.1.2.1,x.1.2.2.1,x.1.2.2.2.1),())) (λk=>k.1) (λk=>k.2.1) mn (λk s=>((k.2.2,()),())) (λ_ y=>Rd.back y) () (aW _,bN _)
def qrx:ae prog (.loop (au f182 0)) rM.M rM MS:=
 lm ET (λi k s=>((i,k.1,k.2.1,k.2.2,()),())) i64.dflt
def qmg:=λk s=>da (mn k True) 0 k.2.1 s
def qun:=λk s=>eJ (mn k True) 0 k.2.1 s
def zdz(Γ:Gm):St->Option Tr:=rM.han Γ rM.M MS
def HJ(x:ag [.d aK]):Fr (aa [i64]):=
 iY (InK (((List.length x.1):Int)) 0 (List.length x.1)) (qun (((List.length x.1):Int),x.1,0) ()) (qmg (((List.length x.1):Int),x.1,0) ()) () (aW _,bN _) (λ_=>Jv (0,())) (λa=>Jv (a.1.1,()))
def qip:af prog 182 ⟨[.d aK],[i64],λxs=>(HJ xs).get,λxs=>[(HJ xs).ok]⟩:=
 cf ET (Λ:=(λ_=>zdz Mv.Γ)) (fn:=f182) (aW [.d aK]) (by kernel_rfl) (λc E a=>zlp a (by kernel_rfl) (b:=au f182 0) (by kernel_rfl) (ae.han ET rfl qrx)) (λx=>by kernel_rfl)
def xc:Ct:=⟨[.d aK],[i64],λx=>(HJ x).get,λ_=>[]⟩
def qb6:af prog 182 xc:=bW qip _ (λx a _=>ss (gt a.1.1) (by refine JL (λ_ _ _=>?_) _ _ _;exact⟨uT,λ_=>uT,λ_=>uT⟩) (λ_=>uT) (λ_=>uT))
noncomputable def YL:Cx:=cx [(157,mC),(182,xc)] []
def YM:CxOK prog YL:=aP aG ⟨Be,qb6,uT⟩ trivial
def B0(x:ag [.d aw,.d aw]):Fr (aa [i64]):=
 Jv ((xc.f ([(mC.f (x.1.2.1.1,x.2.1.2.1.1,())).1,(mC.f (x.1.1,x.2.1.1,())).1],())).1,())
def qh9:af prog 134 ⟨[.d aw,.d aw],[i64],λxs=>(B0 xs).get,λxs=>[(B0 xs).ok]⟩:=
 cf YM (Λ:=bw) (fn:=f134) (aW [.d aw,.d aw]) (by kernel_rfl) (λc E _=>aY c 0) (λx=>by kernel_rfl)
def qB:Ct:=⟨[.d aw,.d aw],[i64],λx=>(B0 x).get,λ_=>[]⟩
def qb2:af prog 134 qB:=bW qh9 _ (λx a _=>uT)
def qvh(a b:Int):(xc.f ([a,b],())).1=if a≠0 then a else b:=by
 have g:∀ (k:Int×List Int×Int) (i e:Int),k.2.2=0->(mn k True i e ()).get=if e≠0 then .inr ((e,()),())else .inl ():=λk i e m=>by
  show(if (e != k.2.2)=Z then _ else _)=_;rw[m];by_cases d:e=0;rw[ufw (by simp[d]),ufw (by simp[d])];rfl;rw[ufv (by simpa using d),ufv d];rfl
 show((iY _ _ (da (mn (2,[a,b],0) True) 0 [a,b] ()) () (aW _,bN _) _ _).get:aa [i64]).1=_;by_cases c:a=0;have h:da (mn (2,[a,b],0) True) 0 [a,b] ()=da (mn (2,[a,b],0) True) 1 [b] ():=by
  rw[da,g _ _ _ rfl,ufw (by simp[c])];rfl
 rw[h,ufw (by simp[c])];by_cases l:b=0;have j:da (mn (2,[a,b],0) True) 1 [b] ()=.inl ():=by
  rw[da,g _ _ _ rfl,ufw (by simp[l])];rfl
 rw[j,l];rfl;have j:da (mn (2,[a,b],0) True) 1 [b] ()=.inr ((b,()),()):=by
  rw[da,g _ _ _ rfl,ufv l]
 rw[j];rfl;have h:da (mn (2,[a,b],0) True) 0 [a,b] ()=.inr ((a,()),()):=by
  rw[da,g _ _ _ rfl,ufv c]
 rw[h,ufv c];rfl
def yg(x:aw.den):Int:=x.2.1.1*18446744073709551616+x.1
def qai{b f g:Int}(c:0<=f/\f<18446744073709551616)(d:0<=g/\g<18446744073709551616):(if l5 a b≠0 then l5 a b else l5 f g)<0↔a*18446744073709551616+f<b*18446744073709551616+g:=by
 unfold l5;split<;>split<;>(try split)<;>(try split)<;>(try split)<;>omega
def qah{x y:aw.den}(a:0<=x.1/\x.1<18446744073709551616)(b:0<=y.1/\y.1<18446744073709551616):(qB.f (x,y,())).1<0↔yg x<yg y:=by
 have e:(qB.f (x,y,())).1=(xc.f ([l5 x.2.1.1 y.2.1.1,l5 x.1 y.1],())).1:=rfl;rw[e,qvh];exact qai a b
def Ke(c:ak.den)(a b:Int):Int:=
 bif bif bif !(j6.f (c,())).1 then Z else J (a<0)then Z else J (b<0)then 0
 else (tA.f ((AK.f (c,(AJ.f (c,a,())).1,())).1,[I6.wrap (c.2.2.1-b)],())).1
def wT:Ct:=⟨[.d ak,.d i64,.d i64],[i64],λx=>(Ke x.1 x.2.1 x.2.2.1,()),λ_=>[]⟩
def IZ{ps:List PT}{g:ag ps->aa [i64]}{ok:ag ps->List Prop}(h:af prog f ⟨ps,[i64],g,ok⟩){xs:ag ps}(i:∀ b,F b->b<w.heap.size)(j:cJ prog w F ps xs vs)(d:av (ok xs)):
  Calls prog f vs.toArray w λe w'=>e=.returned (.int .i64 (g xs).1)/\Go.Ab.inR .i64 (g xs).1/\Below w.heap.size w w':=by
 refine(h.2 w F xs vs i j d).mono ?_;rintro e w' ⟨v,F',rfl,a,_,_,k⟩;have c:aE prog w' F' (λ_ _=>True) (dE i64 (g xs).1) v:=fT k;exact⟨by rw[c.2.1],c.2.2,a⟩
def W9(n:Int):wrap64 n=I6.wrap n:=by unfold wrap64;rw[udf]
def qJ(c:ak.den):Value:=.agg #[.int .i64 c.1,.int .i64 c.2.1,.int .i64 c.2.2.1,.int .i64 c.2.2.2.1,.int .i64 c.2.2.2.2.1]
def qem{c:ak.den}(h:bu w F ak c v):v=qJ c:=by
 obtain⟨cs,rfl⟩:=h.2.1.1 rfl;have k:cs.size=5:=h.1;obtain⟨d,e,f,g,j,_⟩:=h.2.2;unfold qJ;congr 1;apply ufn;exact k;intro i a b
 match i,a,b with
 |0,h,_=>exact ud3 ((uam h).symm.trans d.1)
 |1,h,_=>exact ud3 ((uam h).symm.trans e.1)
 |2,h,_=>exact ud3 ((uam h).symm.trans f.1)
 |3,h,_=>exact ud3 ((uam h).symm.trans g.1)
 |4,h,_=>exact ud3 ((uam h).symm.trans j.1)
def qwb (n p g q r a c:Int) (x:Bool) (f i:Int->Int) (j:Int->Int->Int)
  (v:∀ W,Calls prog 136 #[.agg #[.int .i64 n,.int .i64 p,.int .i64 g,.int .i64 q,.int .i64 r]] W λe w'=>e=.returned (.bool x)/\Below W.heap.size W w')
  (K:∀ W,Calls prog 137 #[.agg #[.int .i64 n,.int .i64 p,.int .i64 g,.int .i64 q,.int .i64 r],.int .i64 a] W λe w'=>e=.returned (.int .i64 (f a))/\Go.Ab.inR IntKind.i64 (f a)/\Below W.heap.size W w')
  (M:∀ W,Go.Ab.inR IntKind.i64 (f a)->Calls prog 138 #[.agg #[.int .i64 n,.int .i64 p,.int .i64 g,.int .i64 q,.int .i64 r],.int .i64 (f a)] W λe w'=>e=.returned (.int .i64 (i (f a)))/\Go.Ab.inR IntKind.i64 (i (f a))/\Below W.heap.size W w')
  (L:∀ W b,Go.Ab.inR IntKind.i64 (i (f a))->W.heap[b]?= U (.cells #[.int .i64 (wrap64 (g-c))] 3 (0,0))->Calls prog 139 #[.int .i64 (i (f a)),.slice (U ⟨b,0,V⟩) 1 1] W λe w'=>e=.returned (.int .i64 (j (i (f a)) (wrap64 (g-c))))/\Go.Ab.inR IntKind.i64 (j (i (f a)) (wrap64 (g-c)))/\Below W.heap.size W w')
  (w:World) :
  Calls prog 84 #[.agg #[.int .i64 n,.int .i64 p,.int .i64 g,.int .i64 q,.int .i64 r],.int .i64 a,.int .i64 c] w λe w'=>
   e=.returned (.int .i64 (bif bif bif !x then Z else J (a<0)then Z else J (c<0)then 0 else j (i (f a)) (wrap64 (g-c))))/\Go.Ab.inR IntKind.i64 (bif bif bif !x then Z else J (a<0)then Z else J (c<0)then 0 else j (i (f a)) (wrap64 (g-c)))/\Below w.heap.size w w':=by
 have t:=(ufi _ w).alloc (ue9 _) (.cells #[.int .i64 n,.int .i64 p,.int .i64 g,.int .i64 q,.int .i64 r] 142);have A:=World.alloc_heap_new w (.cells #[.int .i64 n,.int .i64 p,.int .i64 g,.int .i64 q,.int .i64 r] 142)
 go_enter func84,ntmps84
 have fin:=λk (h:Below _ _ k)=>t.trans (h.mono t.size);cases x
 ·go_wp2_with (first
   |(go_at_call 136;refine(v _).mono ?_;rintro e k ⟨rfl,d⟩))
  go_ret
  exact⟨rfl,zF .i64,fin _ d⟩
 by_cases E:a<0
 ·go_wp2_with (first
   |(go_at_call 136;refine(v _).mono ?_;rintro e k ⟨rfl,d⟩))
  go_ret
  have z:(bif bif bif !Z then Z else J (a<0)then Z else J (c<0)then 0 else j (i (f a)) (wrap64 (g-c)))=0:=by simp[E]
  rw[z];exact⟨rfl,zF .i64,fin _ d⟩
 by_cases F:c<0
 ·go_wp2_with (first
   |(go_at_call 136;refine(v _).mono ?_;rintro e k ⟨rfl,d⟩))
  go_ret
  have z:(bif bif bif !Z then Z else J (a<0)then Z else J (c<0)then 0 else j (i (f a)) (wrap64 (g-c)))=0:=by simp[F]
  rw[z];exact⟨rfl,zF .i64,fin _ d⟩
 have s:(bif bif bif !Z then Z else J (a<0)then Z else J (c<0)then 0 else j (i (f a)) (wrap64 (g-c)))=j (i (f a)) (wrap64 (g-c)):=by simp[E,F]
 rw[s]
 go_wp2_with (first
   |(go_at_call 136;refine(v _).mono ?_;rintro e k ⟨rfl,d⟩
     have m:=(d.block _ (by simp)).trans A;have Q:=aO m 0;have R:=aO m 1;have S:=aO m 2;have T:=aO m 3;have k4:=aO m 4;simp at Q R S T k4))
 have b1:=λo=>(fin _ d).alloc (fin _ d).size o;have lt:=(uaf.1 m).1;refine wp_loop_rounds 3 ?_;rw[rounds_succ]
 go_wp2_with (first
  |(go_at_call 137;refine(K _).mono ?_;rintro e w2 ⟨rfl,n2,l⟩
    have H:=(l.block k.heap.size (by simp)).trans (World.alloc_heap_new k _);have G:=(l.block w.heap.size (by simp;omega)).trans ((udb k _ _ lt).trans m);have O:=aO H 0;have P:=aO H 1;simp at O P))
 rw[rounds_succ]
 go_wp2_with (first
  |(go_at_call 138;refine(M _ n2).mono ?_;rintro e w3 ⟨rfl,n3,u⟩
    have x3:=(u.block _ (uaf.1 G).1).trans G;have N:=aO x3 2;simp at N))
 rw[rounds_succ]
 go_wp2_with (first
  |(go_at_call 139;refine(L _ _ n3 (World.alloc_heap_new _ _)).mono ?_;rintro e w4 ⟨rfl,n4,y⟩))
 go_ret
 have B:=(b1 _).trans (l.mono (b1 _).size);have C:=B.trans (u.mono B.size);have D:=λo=>C.alloc C.size o;exact⟨rfl,n4,(D _).trans (y.mono (D _).size)⟩
def TY:af prog 84 wT:=by
 refine⟨enters_of func84 (by kernel_rfl) rfl,λw F xs vs hbd hr _=>?_⟩;obtain⟨c,loss,used,_⟩:=xs;obtain⟨v,vs',rfl,hv,hn⟩:=hr;obtain⟨rfl,hl,hu⟩:vs'=[.int .i64 loss,.int .i64 used]/\Go.Ab.inR IntKind.i64 loss/\Go.Ab.inR IntKind.i64 used:=by
  obtain⟨v1,vs1,rfl,h1,v2,vs2,rfl,h2,h3⟩:=hn;cases h3;obtain⟨e1,r1⟩:=oS (w:=w) (F:=F) (y:=(loss,())) ⟨v1,[],rfl,h1,rfl⟩;obtain⟨e2,r2⟩:=oS (w:=w) (F:=F) (y:=(used,())) ⟨v2,[],rfl,h2,rfl⟩;cases e1;cases e2;exact⟨rfl,r1,r2⟩
 obtain rfl:=qem hv;have hv:bu w F ak c (qJ c):=hv;have hz:∀ b,(λ_:Nat=>False) b->b<0:=λ_ h=>h.elim;have cv:∀ W:World,bu W (λ_=>False) ak c (qJ c):=λW=>hv;have nn:∀ (W:World) (n:Int),Go.Ab.inR IntKind.i64 n->bu W (λ_=>False) i64 n (.int .i64 n):=λW n hn=>⟨rfl,⟨λh=>(by cases h),λh=>(by obtain⟨_,h⟩:=h;cases h)⟩,rfl,hn⟩;have hR:=λW:World=>FM (w:=W) (F:=λ_=>False) (xs:=(c,())) (vs:=[qJ c]) xn (λ_ h=>h.elim) ⟨_,_,rfl,cv W,rfl⟩ trivial;have hC:=λW:World=>IZ (w:=W) (F:=λ_=>False) (xs:=(c,loss,())) (vs:=[qJ c,.int .i64 loss]) qb7 (λ_ h=>h.elim) ⟨_,_,rfl,cv W,_,_,rfl,nn W loss hl,rfl⟩ trivial;have hS:=λ(W:World) (n:Int) (hn:Go.Ab.inR IntKind.i64 n)=>IZ (w:=W) (F:=λ_=>False) (xs:=(c,n,())) (vs:=[qJ c,.int .i64 n]) qb8 (λ_ h=>h.elim) ⟨_,_,rfl,cv W,_,_,rfl,nn W n hn,rfl⟩ trivial;have hL:=λ(W:World) (b:Nat) (n:Int) (hn:Go.Ab.inR IntKind.i64 n) (m:Int) (hm:Go.Ab.inR IntKind.i64 m) (hb:W.heap[b]?= some (.cells #[.int .i64 m] 3 (0,0)))=>
  IZ (w:=W) (F:=λq=>q=b) (xs:=(n,[m],())) (vs:=[.int .i64 n,.slice (some ⟨b,0,none⟩) 1 1]) O1 (λq h=>by rw[h];exact(uaf.1 hb).1)
   ⟨_,_,rfl,⟨rfl,⟨λh=>(by cases h),λh=>(by obtain⟨_,h⟩:=h;cases h)⟩,rfl,hn⟩,_,_,rfl,⟨rfl,⟨λh=>(by cases h),λh=>(by obtain⟨_,h⟩:=h;cases h)⟩,some ⟨b,0,none⟩,1,rfl,ue9 _,(by decide),λi x hx=>⟨⟨b,0,none⟩,rfl,rfl,(by
    cases i with
    |zero=>
     cases hx;exact⟨aO hb 0,hm⟩
    |succ i=>cases hx)⟩⟩,rfl⟩ trivial
 refine(qwb c.1 c.2.1 c.2.2.1 c.2.2.2.1 c.2.2.2.2.1 loss used (j6.f (c,())).1 (λn=>(AJ.f (c,n,())).1) (λn=>(AK.f (c,n,())).1) (λn m=>(tA.f (n,[m],())).1)
  hR hC (λW h=>hS W _ h) (λW b h hb=>hL W b _ h _ (by rw[W9];exact gd _ _) hb) w).mono ?_
 rintro e w' ⟨rfl,hin,hbel⟩;have he:(wT.f (c,loss,used,())).1=(bif bif bif !(j6.f (c,())).1 then true else decide (loss<0)then true else decide (used<0)then 0 else (tA.f ((AK.f (c,(AJ.f (c,loss,())).1,())).1,[wrap64 (c.2.2.1-used)],())).1):=by
  rw[W9];rfl
 exact⟨_,F,rfl,hbel,λ_ h=>h,λb hb=>⟨.inl hb,ucb (hbd b hb) hbel.size⟩,rfl,⟨λh=>(by cases h),λh=>(by obtain⟨_,h⟩:=h;cases h)⟩,uft (λn=>some (Value.int IntKind.i64 n)) he.symm,he ▸ hin⟩
noncomputable def Hl:List (FuncId×Ct):=[(134,qB),(132,qC),(84,wT)]
def OW:iz prog Hl:=⟨qb2,qb3,TY,uT⟩
noncomputable def Mw:Cx:=cW Hl [] (fG (cx Hl []).Γ 133 (pd 272 aw))
def w6:CxOK prog Mw:=cZ aG OW trivial (gu (aP (ps:=[]) aG OW trivial).ct zac)
abbrev vA:Pt:=⟨123,2,⟨[(35,.d i64),(34,.d i64),(33,.d (.sl bn)),(8,.d i64),(27,.d i64),(26,.d i64),(25,.d (.sl ar)),(1,.d (.sl ar))],[.x 2 142 ak,.r 2 2 0,.o 7 272 aw]⟩,⟨[(27,.d i64),(26,.d i64),(25,.d (.sl ar)),(1,.d (.sl ar))],[.x 2 142 ak,.r 2 2 0,.o 7 272 aw]⟩,⟨[],[]⟩⟩
def wc(k:Int×(List bn.den)×Int×Int×Int×(List ar.den)×(List ar.den)×ak.den)(b:Prop)(i:Int)(e:bn.den)(s:(List aw.den)):Fr ((List aw.den)):=
 let a:=(k.2.2.1,e,());Jd b (Jd (s.length + [a].length<=maxLen/\(s.length + [a].length)*32<=140737488355328) (Jv (s++[a])))
noncomputable def RF:Code:=((Go.Ab.loopB (au f82 0) 0).getD .skip)
def Nl:vA.M.X->Fr vA.Out:=FG (λx=>(x.1.1,(x.1.2.1,x.1.2.2.1,x.1.2.2.2.1,x.1.2.2.2.2.1,x.1.2.2.2.2.2.1,x.1.2.2.2.2.2.2.1,x.1.2.2.2.2.2.2.2.1,x.2.1),x.2.2.1)) (λk=>k.1) (λk=>k.2.1) wc (λk s=>((k.2.2.2.1,k.2.2.2.2.1,k.2.2.2.2.2.1,k.2.2.2.2.2.2.1,()),(k.2.2.2.2.2.2.2,s,())))
def qst:ae prog (.loop RF) vA.M vA Nl:=
 cN w6 (λi k s=>((i,k.1,k.2.1,k.2.2.1,k.2.2.2.1,k.2.2.2.2.1,k.2.2.2.2.2.1,k.2.2.2.2.2.2.1,()),k.2.2.2.2.2.2.2,s,())) bn.dflt
def zec(Γ:Gm):St->Option Tr:=vA.han Γ vA.M Nl
abbrev Dp:Pt:=⟨123,4,⟨[(57,.d i64),(56,.d i64),(14,.d i64)],[.x 2 142 ak,.r 2 2 0,.o 55 272 aw,.o 12 3 i64,.o 13 3 i64,.o 15 198 ep]⟩,⟨[],[.o 15 198 ep]⟩,⟨[],[]⟩⟩
def DZ(k:Int×ak.den×(List aw.den))(b:Prop)(i:Int)(e:aw.den)(s:Int×(List Int)×(List Int)×(List ep.den)):Fr (Int×(List Int)×(List Int)×(List ep.den)):=
 let n:=(s.2.1.length:Int);let m:=s.2.2.2;let h:=s.2.2.1;let l:=(h.length:Int);let d:=Int.toNat e.1;let c:=I6.wrap (s.2.1.getD d i64.dflt+e.2.1.2.2.1);let o:=s.2.1.set d c;let a:=(wT.f (k.2.1,o.getD d i64.dflt,I6.wrap (s.1-h.getD d i64.dflt),())).1-h.getD d i64.dflt;let g:=(e.1,e.2.1.1,I6.wrap a,());Jd b (Jd (Int.toNat i<k.2.2.length) (Jb (e.2.1.2.1 != 2) (Jv (s.1,s.2.1,h,m)) (Jd (0<=e.1/\e.1<n) (Jd (Int.toNat e.1<s.2.1.length) (Jd (0<=e.1/\e.1<n) (Jd (Int.toNat e.1<s.2.1.length) (Jd (0<=e.1/\e.1<(o.length:Int)) (Jd (Int.toNat e.1<o.length) (Jd (0<=e.1/\e.1<l) (Jd (Int.toNat e.1<h.length) (Jd (0<=e.1/\e.1<l) (Jd (Int.toNat e.1<h.length) (Jb (J (I6.wrap a<=0)) (Jv (s.1,s.2.1.set d c,h,m)) (Jd (0<=e.1/\e.1<l) (Jd (Int.toNat e.1<h.length) (Jd (0<=e.1/\e.1<l) (Jd (Int.toNat e.1<h.length) (Jd (m.length + [g].length<=maxLen/\(m.length + [g].length)*24<=140737488355328) (Jv (I6.wrap (s.1+I6.wrap a),s.2.1.set d c,h.set d (I6.wrap (h.getD d i64.dflt+I6.wrap a)),m++[g]))))))))))))))))))))
def ZG:Dp.M.X->Fr Dp.Out:=FG (λx=>(x.1.1,(x.1.2.1,x.2.1,x.2.2.1),(x.1.2.2.1,x.2.2.2.1,x.2.2.2.2.1,x.2.2.2.2.2.1))) (λk=>k.1) (λk=>k.2.2) DZ (λk s=>((),s.2.2.2,()))
def qsv:ae prog (.loop (au f82 1)) Dp.M Dp ZG:=
 cN w6 (λi k s=>((i,k.1,s.1,()),k.2.1,k.2.2,s.2.1,s.2.2.1,s.2.2.2,())) aw.dflt
def Ra:=λk s=>bO (DZ k True) 0 k.2.2 s
def T4:=λk s=>bM (DZ k True) 0 k.2.2 s
abbrev Do:Pt:=⟨123,0,⟨[(27,.d i64),(26,.d i64),(25,.d (.sl ar)),(1,.d (.sl ar))],[.x 2 142 ak,.r 2 2 0,.o 7 272 aw]⟩,⟨[(1,.d (.sl ar))],[.x 2 142 ak,.r 2 2 0,.o 7 272 aw]⟩,⟨[],[]⟩⟩
def DY(k:Int×(List ar.den)×(List ar.den)×ak.den)(b:Prop)(i:Int)(e:ar.den)(s:(List aw.den)):Fr ((List aw.den)):=
 let d:=List.length e.2.1;let c:=List.drop (Int.toNat 0) e.2.1;let a:=wc ((d:Int),e.2.1,i,i,k.1,k.2.1,k.2.2.1,k.2.2.2) True;Jd b (Jd (InK ((d:Int)) 0 d) (Jd (bM a 0 c s) (Jv (bO a 0 c s))))
def ZF:Do.M.X->Fr Do.Out:=FG (λx=>(x.1.1,(x.1.2.1,x.1.2.2.1,x.1.2.2.2.1,x.2.1),x.2.2.1)) (λk=>k.1) (λk=>k.2.1) DY (λk s=>((k.2.2.1,()),(k.2.2.2,s,())))
def qsu:ae prog (.loop (au f82 0)) Do.M Do ZF:=
 cN w6 (λi k s=>((i,k.1,k.2.1,k.2.2.1,()),k.2.2.2,s,())) ar.dflt (Λ:=(λ_=>zec Mw.Γ)) (hΛ:=λ_=>kP (by kernel_rfl) (b:=RF) (by kernel_rfl) (ae.han w6 rfl qst))
def IF:=λk s=>bO (DY k True) 0 k.2.1 s
def T3:=λk s=>bM (DY k True) 0 k.2.1 s
end Go.Proofs.YtdokapnnagbehaaGreat
