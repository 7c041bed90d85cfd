/-
  Parts of the proof, one behind the other.
-/
import Derived.Test.YtdokapnnagbehaaGreatMn
set_option linter.all false
set_option maxRecDepth 100000
set_option maxHeartbeats 4000000
open Option renaming some->U,none->V
open Bool renaming true->Z,false->Y
open Decidable renaming decide->J
open Go Go.RowKit
variable {T α σ ρ β:Type} {P:Program} {ad:Addr} {arr cs cur:Array Value} {f:FuncId} {x a y day:Int} {k:IntKind} {l:List Int} {xs vs news:List Value} {off i n b c d j B m len:Nat} {F F' K:Nat->Prop} {R g R':Nat->Value->Prop} {o:Oper} {p:Prop} {e ety t ty el:TypeId} {v u vx:Value} {w w' W' W:World}
namespace Go.Proofs.YtdokapnnagbehaaGreat
open Go Go.Ab Go.RowKit Go.Proofs Tryz
open Go.Ab.Fr renaming val->Jv,need->Jd,br->Jb
abbrev rN:Pt:=⟨78,0,⟨[(30,.d i64),(29,.d i64),(28,.d (.sl bi))],[.x 1 59 aq,.r 1 1 0,.o 6 99 aJ]⟩,⟨[],[.o 6 99 aJ]⟩,⟨[(2,.d (.sl aJ)),(3,.d i64)],[]⟩⟩
abbrev yb:Type:=Int×List bi.den×aq.den
def nZ(g:bi.den):List Int:=g.2.2.1
def RZ(k:yb)(i:Int)(g:bi.den)(s:List aJ.den):Int×(List Int)×Int×Int×(List bi.den)×aq.den×bi.den×(List aJ.den):=(((nZ g).length:Int),nZ g,i,k.1,k.2.1,k.2.2,g,s)
def zj(g:bi.den)(l:List ar.den):aa [.sl aJ,i64]:=xa.f (g.2.1,l,())
def Ji(k:yb)(i:Int)(g:bi.den)(l:List ar.den):Int×(List Int)×(List aJ.den)×Int×Int×(List bi.den)×aq.den:=(((nZ g).length:Int),nZ g,(zj g l).1,i,k.1,k.2.1,k.2.2)
def KZ(k:yb)(b:Prop)(i:Int)(e:bi.den)(s:List aJ.den):Fr (List aJ.den ⊕ rN.R.X):=
 Jd b (cI (InK ((nZ e).length:Int) 0 (nZ e).length) (Tv (RZ k i e s) []) (IE (RZ k i e s) []) (λl=>
  Jd (ev l) (Jb ((zj e l).2.1 != 0) (Jv (.inr (([],(zj e l).2.1,()),())))
   (cI (InK ((nZ e).length:Int) 0 (nZ e).length) (Tw (Ji k i e l) s) (QX (Ji k i e l) s) (λo=>Jv (.inl o))))))
def Z7:rN.M.X->Fr rN.Out:=FK (λx=>(x.1.1,((x.1.2.1,x.1.2.2.1,x.2.1):yb),x.2.2.1)) (λk=>k.1) (λk=>k.2.1) KZ (λ_ s=>((),s,())) (λ_ y=>Rd.back y) [] (aW _,bN _)
def qsb:ae prog (.loop (au f32 0)) rN.M rN Z7:=
 lm s9 (λi k s=>((i,k.1,k.2.1,()),k.2.2,s,())) bi.dflt (Λ:=(λk=>if k=0 then zd5 EV.Γ else zd6 EV.Γ)) (hΛ:=λ_=>Sm (by kernel_rfl) (b0:=RB) (b1:=RC) (by kernel_rfl) (by kernel_rfl) (ae.han s9 rfl qr9) (ae.han s9 rfl qsa))
def kK(i:aq.den):aa [.sl bi,i64]:=AP.f (i,())
def Cz(i:aq.den):yb:=((List.length (α:=bi.den) (kK i).1:Int),(kK i).1,i)
def zki(x:ag [.d aq]):Fr (aa [.sl aJ,i64]):=
 Jd (bD x.1) (Jb ((kK x.1).2.1 != 0) (Jv ([],(kK x.1).2.1,()))
  (Jd (uI (List.length x.1.2.2.1) 48)
   (iY (InK (List.length (kK x.1).1:Int) 0 (List.length (kK x.1).1)) (eJ (KZ (Cz x.1) True) 0 (kK x.1).1 (List.replicate (Int.toNat (List.length x.1.2.2.1:Int)) aJ.dflt)) (da (KZ (Cz x.1) True) 0 (kK x.1).1 (List.replicate (Int.toNat (List.length x.1.2.2.1:Int)) aJ.dflt)) [] (aW _,bN _)
    (λs=>Jv (s,0,())) (λy=>Jv y.1))))
def qja:af prog 32 (bg [.d aq] [.sl aJ,i64] zki):=
 cS s9 qsb (fn:=f32)
def qkr(k:Int×(List Int)×Int×Int×(List bi.den)×aq.den×bi.den×(List aJ.den))(F:k.2.1.length<=100000)(w:∀ x∈k.2.1,0<=x/\x<(List.length (α:=ar.den) (bq k.2.2.2.2.2.1):Int)):
  Tv k []/\(IE k []).length=k.2.1.length/\∀ f∈IE k [],f∈bq k.2.2.2.2.2.1:=
 dk (step:=DT k True) (λj (r:List ar.den)=>r.length=j/\∀ f∈r,f∈bq k.2.2.2.2.2.1) k.2.1 (λj e r m q=>by
  have C:=eD m;have i:=w e (ubf m);have H:=toNat_lt i;have N:=ew;have t:=q.1;refine⟨uT,i,?_,?_,λf u=>?_⟩;show r.length+1<=maxLen/\(r.length+1)*72<=140737488355328;omega;rw[ub5];exact ufo (· + 1) t;rcases udp.1 u with h|h
  exact q.2 f h;rw[uce.1 h];exact fo i) [] ⟨rfl,λ_ h=>(nomatch h)⟩
def qks(k:Int×(List Int)×(List aJ.den)×Int×Int×(List bi.den)×aq.den)(n:Nat)(w:k.2.1.length=k.2.2.1.length)(u:∀ x∈k.2.1,0<=x/\x<(n:Int))(s:List aJ.den)(F:s.length=n):
  Tw k s/\(QX k s).length=n:=
 dk (step:=DU k True) (λ_ (r:List aJ.den)=>r.length=n) k.2.1 (λj e r q m=>by
  have t:=eD q;rw[w]at t;have i:=u e (ubf q);have C:=toNat_lt i;refine⟨uT,(lK t rfl).1,by rw[m];exact i,by rw[m];exact C,?_⟩;show(List.set _ _ _).length=n;rw[udl];exact m) s F
def Qr(j:aq.den)(F:bD j)(hl:ev (bq j)):(zki (j,())).satP (λy=>y.2.1=0->List.length (α:=aJ.den) y.1=List.length (α:=ar.den) (bq j)):=by
 obtain⟨S,W⟩:=qmv j F;have N:List.length (α:=ar.den) (bq j)<=100000:=F.2.2.1;refine⟨F,λw h0=>?_,λw=>⟨yl (uel N (by decide)) (by decide),E3 (A:=λ(s:List aJ.den)=>s.length=List.length (α:=ar.den) (bq j)) (B:=λ(y:rN.R.X)=>y.1.2.1≠0) (dI (uel S (uel N (by decide)))) ?_ (λs O _=>O) (λy hy h0=>absurd h0 hy)⟩⟩;have q:((kK j).2.1 != 0)=true:=w;have C:(kK j).2.1=0:=h0;rw[C]at q;cases q;refine nm (step:=KZ (Cz j) True) (λ_ (s:List aJ.den)=>s.length=List.length (α:=ar.den) (bq j)) (λ(y:rN.R.X)=>y.1.2.1≠0) (kK j).1 (λi e s w O=>?_) _ ?_;obtain⟨Q,P⟩:=W e (ubf w);have u:(nZ e).length<=100000:=uel Q N;refine⟨uT,fz (A:=λ(l:List ar.den)=>l.length=(nZ e).length/\∀ f∈l,f∈bq j) (dI (uel u (by decide))) (qkr (RZ (Cz j) i e s) u P) (λl m=>?_)⟩;have t:ev l:=⟨by rw[m.1];exact uel u (by decide),λf H=>hl.2 f (m.2 f H)⟩;refine⟨t,λh=>?_,λh=>?_⟩;show(zj e l).2.1≠0;simpa using h;have h0:(zj e l).2.1=0:=by simpa using h
 have h5:=qag e.2.1 l t h0;exact fz (A:=λ(o:List aJ.den)=>o.length=List.length (α:=ar.den) (bq j)) (dI (uel u (by decide))) (qks (Ji (Cz j) i e l) _ (m.1.symm.trans h5.symm) P s O) (λo ho=>ho);show(List.replicate (Int.toNat (List.length (α:=ar.den) (bq j):Int)) _).length=_;rw[List.length_replicate,ucz]
def tC:Ct:=⟨[.d aq],[.sl aJ,i64],λx=>(zki x).get,λx=>[bD x.1,ev (bq x.1)]⟩
def O4:af prog 32 tC:=bW qja _ (λx _ i=>(cO (Qr x.1 i.1 i.2)).1)
def qkt(i:aq.den)(j:bD i)(m:ev (bq i))(h0:(tC.f (i,())).2.1=0):List.length (α:=aJ.den) (tC.f (i,())).1=List.length (α:=ar.den) (bq i):=(cO (Qr i j m)).2 h0
noncomputable def Fl:FuncId->Option (Func×(Nat->St->Option Tr)):=cu [(41,(f41,bw))]
noncomputable def OX:List (FuncId×Ct):=[(47,A5),(32,tC),(48,tD)]
def qeu:iz prog OX:=⟨Pz,O4,O6,uT⟩
noncomputable def My:Cx:=cW OX [] (fU prog (cx [] []) Fl)
def w7:CxOK prog My:=cZ aG qeu trivial (gG kq (lk (by kernel_rfl) qe))
abbrev yG:Pt:=⟨105,0,⟨[(22,.d i64),(21,.d i64),(20,.d (.sl zjv))],[.x 1 59 aq,.r 1 1 0,.x 4 111 cK,.r 4 4 0,.x 2 76 bS,.r 2 2 0]⟩,⟨[],[.x 1 59 aq,.r 1 1 0,.x 4 111 cK,.r 4 4 0,.x 2 76 bS,.r 2 2 0]⟩,⟨[(3,.d i64)],[.x 2 76 bS,.r 2 2 0]⟩⟩
def nJ(k:α->Fr β):Fr α->Fr β
 |.val x=>k x
 |.br b x y=>.br b (nJ k x) (nJ k y)
 |.need p x=>.need p (nJ k x)
def qg{k:α->Fr β}{Q:β->Prop}:{f:Fr α}->f.satP (λa=>(k a).satP Q)->(nJ k f).satP Q
 |.val _,h=>h
 |.br _ _ _,h=>⟨λhb=>qg (h.1 hb),λhb=>qg (h.2 hb)⟩
 |.need _ _,h=>⟨h.1,qg h.2⟩
def uG(a:bS.den):List Int:=[a.1,a.2.1,a.2.2.1,a.2.2.2.1,a.2.2.2.2.1,a.2.2.2.2.2.1]
def Vg(a:bS.den)(w x:Int):bS.den:=(bif w==0 then x else a.1,bif w==0+1 then x else a.2.1,bif w==0+1+1 then x else a.2.2.1,bif w==0+1+1+1 then x else a.2.2.2.1,bif w==0+1+1+1+1 then x else a.2.2.2.2.1,bif w==0+1+1+1+1+1 then x else a.2.2.2.2.2.1,())
def JY(s:cK.den)(w m:Int):Bool:=bif s.2.1 then Z else J (m>I6.wrap (4000000000000000000-(uG s.1).getD (Int.toNat w) 0))
def nX(w m:Int)(s:cK.den):Fr cK.den:=
 Jd (s.2.1=Y->0<=w/\w<(6:Int)) (Jb (!JY s w m)
  (Jd (0<=w/\w<(6:Int)) (Jd (0<=w/\w<(6:Int)) (Jv (Vg s.1 w (I6.wrap ((uG s.1).getD (Int.toNat w) 0+m)),JY s w m,()))))
  (Jv (s.1,JY s w m,())))
def qo{w m:Int}{s:cK.den}(hw:0<=w/\w<6):(nX w m s).satP λ_=>True:=⟨λ_=>hw,λ_=>⟨hw,hw,uT⟩,λ_=>uT⟩
def Ec(k:Int×(List zjv.den)×aq.den×bS.den)(b:Prop)(_i:Int)(e:zjv.den)(s:cK.den):Fr (cK.den ⊕ yG.R.X):=
 let a:=A5.f (e.1,k.2.2.1.1,());Jd b (Jd (bL e.1) (Jd (bJ k.2.2.1.1) (Jb (a.2.1 != 0) (Jv (.inr ((a.2.1,()),(0,0,0,0,0,0,()),())))
  (nJ (λs1=>nJ (λs2=>Jv (.inl s2)) (nX 1 e.2.1 s1)) (nX 0 a.1 s)))))
def ZH:yG.M.X->Fr yG.Out:=FK (λx=>(x.1.1,(x.1.2.1,x.1.2.2.1,x.2.1,x.2.2.2.1),x.2.2.1)) (λk=>k.1) (λk=>k.2.1) Ec (λk s=>((),(k.2.2.1,s,k.2.2.2,()))) (λ_ y=>Rd.back y) cK.dflt (aW _,bN _)
def qs6:ae prog (.loop (au f23 0)) yG.M yG ZH:=
 lm w7 (λi k s=>((i,k.1,k.2.1,()),k.2.2.1,s,k.2.2.2,())) zjv.dflt
abbrev zw:List MI:=[.x 4 111 cK,.r 4 4 0,.x 2 76 bS,.r 2 2 0]
abbrev Vt:List MI:=.x 1 59 aq :: .r 1 1 0::zw
abbrev Dq:Pt:=⟨105,2,⟨[(55,.d i64),(54,.d i64),(53,.d (.sl aJ)),(9,.d (.sl aJ))],Vt⟩,⟨[(9,.d (.sl aJ))],Vt⟩,⟨[],[]⟩⟩
def Ed(_k:Int×(List aJ.den)×(List aJ.den)×aq.den×bS.den)(b:Prop)(_i:Int)(e:aJ.den)(s:cK.den):Fr cK.den:=
 Jd b (nJ (λs1=>nJ (λs2=>nX 4 e.2.2.2.2.1 s2) (nX 3 e.2.2.2.1 s1)) (nX 2 e.2.2.1 s))
def ZI:Dq.M.X->Fr Dq.Out:=FG (λx=>(x.1.1,(x.1.2.1,x.1.2.2.1,x.1.2.2.2.1,x.2.1,x.2.2.2.1),x.2.2.1)) (λk=>k.1) (λk=>k.2.1) Ed (λk s=>((k.2.2.1,()),k.2.2.2.1,s,k.2.2.2.2,()))
def qs7:ae prog (.loop (au f23 1)) Dq.M Dq ZI:=
 cN w7 (λi k s=>((i,k.1,k.2.1,k.2.2.1,()),k.2.2.2.1,s,k.2.2.2.2,())) aJ.dflt
abbrev vC:Pt:=⟨105,6,⟨[(91,.d i64),(90,.d i64),(89,.d j8),(85,.d i64),(84,.d i64),(83,.d (.sl j8))],zw⟩,⟨[(85,.d i64),(84,.d i64),(83,.d (.sl j8))],zw⟩,⟨[],[]⟩⟩
def Eg(_k:Int×(List dq.den)×Int×Int×(List (List dq.den))×bS.den)(b:Prop)(_i:Int)(e:dq.den)(s:cK.den):Fr cK.den:=Jd b (nX 5 e.2.1 s)
def Nq:vC.M.X->Fr vC.Out:=FG (λx=>(x.1.1,(x.1.2.1,x.1.2.2.1,x.1.2.2.2.1,x.1.2.2.2.2.1,x.1.2.2.2.2.2.1,x.2.2.1),x.2.1)) (λk=>k.1) (λk=>k.2.1) Eg (λk s=>((k.2.2.1,k.2.2.2.1,k.2.2.2.2.1,()),s,k.2.2.2.2.2,()))
noncomputable def RH:Code:=(Go.Ab.loopB (au f23 2) 0).getD .skip
def qs9:ae prog (.loop RH) vC.M vC Nq:=
 cN w7 (λi k s=>((i,k.1,k.2.1,k.2.2.1,k.2.2.2.1,k.2.2.2.2.1,()),s,k.2.2.2.2.2,())) dq.dflt
abbrev Dr:Pt:=⟨105,4,⟨[(85,.d i64),(84,.d i64),(83,.d (.sl j8))],zw⟩,⟨[],zw⟩,⟨[],[]⟩⟩
def qow(k:Int×(List (List dq.den))×bS.den)(i:Int)(e:List dq.den):Int×(List dq.den)×Int×Int×(List (List dq.den))×bS.den:=((e.length:Int),e,i,k.1,k.2.1,k.2.2)
def Ee(k:Int×(List (List dq.den))×bS.den)(b:Prop)(i:Int)(e:List dq.den)(s:cK.den):Fr cK.den:=
 Jd b (cI (InK (e.length:Int) 0 e.length) (bM (Eg (qow k i e) True) 0 e s) (bO (Eg (qow k i e) True) 0 e s) (λs=>Jv s))
def ZJ:Dr.M.X->Fr Dr.Out:=FG (λx=>(x.1.1,(x.1.2.1,x.1.2.2.1,x.2.2.1),x.2.1)) (λk=>k.1) (λk=>k.2.1) Ee (λk s=>((),s,k.2.2,()))
def qs8:ae prog (.loop (au f23 2)) Dr.M Dr ZJ:=
 cN w7 (λi k s=>((i,k.1,k.2.1,()),s,k.2.2,())) j8.dflt (Λ:=λ_=>vC.han My.Γ vC.M Nq) (hΛ:=λ_=>kP (by kernel_rfl) (b:=RH) (by kernel_rfl) (ae.han w7 rfl qs9))
abbrev vu:Pt:=⟨41,0,⟨[(11,.d i64),(10,.d i64),(9,.d (.sl aJ))],[.x 2 59 aq,.r 2 2 0,.o 5 101 ay]⟩,⟨[],[.o 5 101 ay]⟩,⟨[],[]⟩⟩
def DX(k:Int×(List aJ.den)×aq.den)(b:Prop)(i:Int)(e:aJ.den)(s:(List ay.den)):Fr ((List ay.den)):=
 let a:=List.getD k.2.2.2.2.1 (Int.toNat i) ar.dflt;let c:=(a.1.1,a.1.2.2.2.2.2.1,a.1.2.2.2.1,a.1.2.2.1,e.2.2.1,());Jd b (Jd (0<=i/\i<((List.length k.2.2.2.2.1):Int)) (Jb (J (e.2.2.1>0)) (Jd (s.length + [c].length<=maxLen/\(s.length + [c].length)*40<=140737488355328) (Jv (s++[c]))) (Jv s)))
def Ng:vu.M.X->Fr vu.Out:=FG (λx=>(x.1.1,(x.1.2.1,x.1.2.2.1,x.2.1),x.2.2.1)) (λk=>k.1) (λk=>k.2.1) DX (λk s=>((),s,()))
def qsg:ae prog (.loop (au f49 0)) vu.M vu Ng:=
 cN aH (λi k s=>((i,k.1,k.2.1,()),k.2.2,s,())) aJ.dflt
def qmk:=λk s=>bO (DX k True) 0 k.2.1 s
def T0:=λk s=>bM (DX k True) 0 k.2.1 s
def zd9(Γ:Gm):St->Option Tr:=vu.han Γ vu.M Ng
def HW(x:ag [.d aq,.d (.sl aJ)]):Fr (aa [.sl ay]):=
 cI (InK (((List.length x.2.1):Int)) 0 (List.length x.2.1)) (T0 (((List.length x.2.1):Int),x.2.1,x.1) []) (qmk (((List.length x.2.1):Int),x.2.1,x.1) []) (λs0=>Jv (s0,()))
def qji:af prog 49 ⟨[.d aq,.d (.sl aJ)],[.sl ay],λxs=>(HW xs).get,λxs=>[(HW xs).ok]⟩:=
 cf aH (Λ:=(λ_=>zd9 dB.Γ)) (fn:=f49) (aW [.d aq,.d (.sl aJ)]) (by kernel_rfl) (λc E hc=>ea hc (by kernel_rfl) (b:=au f49 0) (by kernel_rfl) (ae.han aH rfl qsg)) (λx=>by kernel_rfl)
def qtf(j:aq.den)(l:List aJ.den)(h:l.length<=List.length (α:=ar.den) (bq j))(u:l.length<=1000000):T0 ((l.length:Int),l,j) []:=
 (dk (step:=DX ((l.length:Int),l,j) True) (λi (s:List ay.den)=>s.length<=i) l (λi e s q m=>by
  have hi:=eD q;have w:=ew;have t:0<=(i:Int)/\(i:Int)<(List.length (α:=ar.den) (bq j):Int):=by omega
  refine⟨uT,t,λ_=>⟨?_,?_⟩,λ_=>Nat.le_succ_of_le m⟩;show s.length+1<=maxLen/\(s.length+1)*40<=140737488355328;omega;show(s++[_]).length<=i+1;rw[ub5];exact Nat.succ_le_succ m) [] (ue6 _)).1
def GI:Ct:=⟨[.d aq,.d (.sl aJ)],[.sl ay],λx=>(HW x).get,λx=>[List.length (α:=aJ.den) x.2.1<=List.length (α:=ar.den) (bq x.1),List.length (α:=aJ.den) x.2.1<=1000000]⟩
def qcm:af prog 49 GI:=bW qji _ (λx hw i=>nK (gt hw.2.1.1) (qtf x.1 x.2.1 i.1 i.2) (λ_=>uT))
noncomputable def OY:List (FuncId×Ct):=[(32,tC),(48,tD),(49,GI)]
def qev:iz prog OY:=⟨O4,O6,qcm,uT⟩
noncomputable def YP:Cx:=cW OY [] (fU prog (cx [] []) Fl)
def YQ:CxOK prog YP:=cZ aG qev trivial (gG kq (lk (by kernel_rfl) qe))
abbrev z6:bS.den:=(0,0,0,0,0,0,())
def gE(i:aq.den):aa [.sl aJ,i64]:=tC.f (i,())
def J2(i:aq.den):List ay.den:=(GI.f (i,(gE i).1,())).1
def lh(i:aq.den):aa [.sl j8,aK,i64]:=tD.f (i.2.2.2.1,J2 i,())
def Jk(i:aq.den):Int×(List zjv.den)×aq.den×bS.den:=((List.length (α:=zjv.den) i.2.1:Int),i.2.1,i,z6)
def Jl(i:aq.den):Int×(List aJ.den)×(List aJ.den)×aq.den×bS.den:=((List.length (α:=aJ.den) (gE i).1:Int),(gE i).1,(gE i).1,i,z6)
def Jm(i:aq.den):Int×(List (List dq.den))×bS.den:=((List.length (α:=List dq.den) (lh i).1:Int),(lh i).1,z6)
def HT(x:ag [.d aq]):Fr (aa [bS,i64]):=
 iY (InK (List.length (α:=zjv.den) x.1.2.1:Int) 0 (List.length (α:=zjv.den) x.1.2.1)) (eJ (Ec (Jk x.1) True) 0 x.1.2.1 cK.dflt) (da (Ec (Jk x.1) True) 0 x.1.2.1 cK.dflt) cK.dflt (aW _,bN _)
  (λs0=>Jd (bD x.1) (Jd (ev (bq x.1)) (Jb ((gE x.1).2.1 != 0) (Jv (z6,(gE x.1).2.1,()))
   (cI (InK (List.length (α:=aJ.den) (gE x.1).1:Int) 0 (List.length (α:=aJ.den) (gE x.1).1)) (bM (Ed (Jl x.1) True) 0 (gE x.1).1 s0) (bO (Ed (Jl x.1) True) 0 (gE x.1).1 s0) (λs1=>
    Jd (List.length (α:=aJ.den) (gE x.1).1<=List.length (α:=ar.den) (bq x.1)) (Jd (List.length (α:=aJ.den) (gE x.1).1<=1000000) (Jb ((lh x.1).2.2.1 != 0) (Jv (z6,(lh x.1).2.2.1,()))
     (cI (InK (List.length (α:=List dq.den) (lh x.1).1:Int) 0 (List.length (α:=List dq.den) (lh x.1).1)) (bM (Ee (Jm x.1) True) 0 (lh x.1).1 s1) (bO (Ee (Jm x.1) True) 0 (lh x.1).1 s1) (λs2=>
      Jb s2.2.1 (Jv (z6,5,())) (Jv (s2.1,0,())))))))))))
  (λy=>Jv (y.2.1,y.1.1,()))
def qjd:af prog 23 (bg [.d aq] [bS,i64] HT):=
 Qy YQ qs6 qs7 qs8 (fn:=f23)
def za8(j:aq.den)(m:bD j):eJ (Ec (Jk j) True) 0 j.2.1 cK.dflt:=
 (nm (step:=Ec (Jk j) True) (λ_ _=>True) (λ_=>True) j.2.1 (λi e s q _=>by
  have t:bL e.1:=m.2.2.2 e (ubf q);refine⟨uT,t,m.1,λ_=>uT,λ_=>qg (Fr.satP_mono (λs1 _=>?_) (qo (by decide)))⟩;exact qg (Fr.satP_mono (λs2 _=>uT) (qo (by decide)))) cK.dflt trivial).1
def za9(j:aq.den)(s0:cK.den):bM (Ed (Jl j) True) 0 (gE j).1 s0:=
 (dk (step:=Ed (Jl j) True) (λ_ _=>True) (gE j).1 (λi e s m _=>by
  refine⟨uT,qg (Fr.satP_mono (λs1 _=>?_) (qo (by decide)))⟩;exact qg (Fr.satP_mono (λs2 _=>qo (by decide)) (qo (by decide)))) s0 trivial).1
def zbb(k:Int×(List dq.den)×Int×Int×(List (List dq.den))×bS.den)(e:List dq.den)(s:cK.den):bM (Eg k True) 0 e s:=
 (dk (step:=Eg k True) (λ_ _=>True) e (λi e s j _=>⟨uT,qo (by decide)⟩) s trivial).1
def zba(j:aq.den)(s1:cK.den):bM (Ee (Jm j) True) 0 (lh j).1 s1:=
 (dk (step:=Ee (Jm j) True) (λ_ _=>True) (lh j).1 (λi e s m _=>
  ⟨uT,dI (uel ((Wb j.2.2.2.1 (J2 j)).2 e (ubf m)) (by decide)),zbb _ _ _,uT⟩) s1 trivial).1
def zbc(i:aq.den)(j:bD i)(q:ev (bq i)):(HT (i,())).ok:=by
 have w:List.length (α:=zjv.den) (db i)<=100000:=j.2.1;have t:List.length (α:=ar.den) (bq i)<=100000:=j.2.2.1;refine ss (dI (uel w (by decide))) (za8 i j) (λs0=>⟨j,q,λ_=>uT,λC=>?_⟩) (λ_=>uT);have h0:(gE i).2.1=0:=by simpa using C
 have m:List.length (α:=aJ.den) (gE i).1=List.length (α:=ar.den) (bq i):=qkt i j q h0;have u:List.length (α:=List dq.den) (lh i).1<=2000:=(Wb i.2.2.2.1 (J2 i)).1;refine nK (dI (by rw[m];exact uel t (by decide))) (za9 i s0) (λs1=>⟨Nat.le_of_eq m,by rw[m];exact uel t (by decide),λ_=>uT,λ_=>?_⟩);exact nK (dI (uel u (by decide))) (zba i s1) (λs2=>⟨λ_=>uT,λ_=>uT⟩)
def GG:Ct:=⟨[.d aq],[bS,i64],λx=>(HT x).get,λx=>[bD x.1,ev (bq x.1)]⟩
def qch:af prog 23 GG:=bW qjd _ (λx _ i=>zbc x.1 i.1 i.2)
def BD(x:ag [.d bR]):Fr (aa [.bool]):=
 Jv (bif J (x.1.2.1>1000000000000000)then Z else J (x.1.2.1 < -1000000000000000),())
def qjb:af prog 38 ⟨[.d bR],[.bool],λxs=>(BD xs).get,λxs=>[(BD xs).ok]⟩:=
 cf aH (Λ:=bw) (fn:=f38) (aW [.d bR]) (by kernel_rfl) (λc E _=>aY c 0) (λx=>by kernel_rfl)
def GF:Ct:=⟨[.d bR],[.bool],λx=>(BD x).get,λ_=>[]⟩
def qcf:af prog 38 GF:=bW qjb _ (λx hw _=>uT)
abbrev P3:List MI:=[.y 8 71 [(V,i64),(V,i64),(U 107,bR)],.r 8 8 0,.x 6 71 bp,.r 6 6 0]
abbrev Dh:Pt:=⟨78,0,⟨[(58,.d i64)],.x 7 73 dw :: .r 7 7 0::P3⟩,⟨[],P3⟩,⟨[],[]⟩⟩
def rx(a:dw.den):List Int:=[a.1,a.2.1,a.2.2.1,a.2.2.2.1,a.2.2.2.2.1,a.2.2.2.2.2.1,a.2.2.2.2.2.2.1,a.2.2.2.2.2.2.2.1,a.2.2.2.2.2.2.2.2.1,a.2.2.2.2.2.2.2.2.2.1]
def DN(k:dw.den×Int×Int×bp.den)(_b:Prop)(i:Int)(_e:Unit)(s:List bR.den):Fr (List bR.den):=
 let a:=I6.wrap (i+1);Jd (0<=I6.wrap (i+1)/\I6.wrap (i+1)<(10:Int)) (Jb ((rx k.1).getD a.toNat 0 != 0)
  (Jd (s.length+1<=maxLen/\(s.length+1)*16<=140737488355328) (Jv (s++[(I6.wrap (i+1),(rx k.1).getD a.toNat 0,())]))) (Jv s))
def Z4:Dh.M.X->Fr Dh.Out:=FG (λx=>(x.1.1,(x.2.1,x.2.2.1.1,x.2.2.1.2.1,x.2.2.2.1),x.2.2.1.2.2.1)) (λ_=>9) (λ_=>List.replicate 9 ()) DN (λk s=>((),(k.2.1,k.2.2.1,s,()),k.2.2.2,()))
def qr2:ae prog (.loop (au f36 0)) Dh.M Dh Z4:=
 cN aH (λi k s=>((i,()),k.1,(k.2.1,k.2.2.1,s,()),k.2.2.2,())) ()
def qmi:=λk s=>bO (DN k True) 0 (List.replicate 9 ()) s
def quq:=λk s=>bM (DN k True) 0 (List.replicate 9 ()) s
abbrev rP:Pt:=⟨71,0,⟨[(11,.d i64),(10,.d i64),(9,.d (.sl bR)),(4,.d i64),(5,.d i64)],[.x 1 71 bp,.r 1 1 0]⟩,⟨[(4,.d i64)],[.x 1 71 bp,.r 1 1 0]⟩,⟨[(2,.d i64),(3,.d .bool)],[]⟩⟩
def Ld(k:Int×(List bR.den)×bp.den)(b:Prop)(i:Int)(e:bR.den)(s:Int×Int):Fr ((Int×Int) ⊕ rP.R.X):=
 Jd b (Jb (bif bif bif bif J (e.1<=s.2)then Z else J (e.1>9)then Z else e.2.1==0 then Z else J (e.2.1 < -1000000000000000)then Z else J (e.2.1>1000000000000000)) (Jv (.inr ((0,Y,()),()))) (Jv (.inl (I6.wrap (s.1+e.2.1),e.1))))
def Nm:rP.M.X->Fr rP.Out:=FK (λx=>(x.1.1,(x.1.2.1,x.1.2.2.1,x.2.1),(x.1.2.2.2.1,x.1.2.2.2.2.1))) (λk=>k.1) (λk=>k.2.1) Ld (λk s=>((s.1,()),k.2.2,())) (λ_ y=>Rd.back y) (0,0) (aW _,bN _)
def qsw:ae prog (.loop (au f50 0)) rP.M rP Nm:=
 lm aH (λi k s=>((i,k.1,k.2.1,s.1,s.2,()),k.2.2,())) bR.dflt
def qmn:=λk s=>da (Ld k True) 0 k.2.1 s
def quu:=λk s=>eJ (Ld k True) 0 k.2.1 s
def zed(Γ:Gm):St->Option Tr:=rP.han Γ rP.M Nm
def HX(x:ag [.d bp]):Fr (aa [i64,.bool]):=
 iY (InK (((List.length x.1.2.2.1):Int)) 0 (List.length x.1.2.2.1)) (quu (((List.length x.1.2.2.1):Int),x.1.2.2.1,x.1) (0,0)) (qmn (((List.length x.1.2.2.1):Int),x.1.2.2.1,x.1) (0,0)) (0,0) (aW _,bN _) (λs0=>Jv (s0.1,bif bif bif bif J (x.1.1>=1)then J (x.1.1<=292194)else Y then J (x.1.2.1>=0)else Y then J (x.1.2.1<=1000000000)else Y then J (((List.length x.1.2.2.1):Int)>=2)else Y,())) (λi=>Jv i.1)
def qju:af prog 50 ⟨[.d bp],[i64,.bool],λxs=>(HX xs).get,λxs=>[(HX xs).ok]⟩:=
 cf aH (Λ:=(λ_=>zed dB.Γ)) (fn:=f50) (aW [.d bp]) (by kernel_rfl) (λc E hc=>ea hc (by kernel_rfl) (b:=au f50 0) (by kernel_rfl) (ae.han aH rfl qsw)) (λx=>by kernel_rfl)
def AS:Ct:=⟨[.d bp],[i64,.bool],λx=>(HX x).get,λ_=>[]⟩
def qct:af prog 50 AS:=bW qju _ (λx hw _=>ss (gt hw.1.2.2.1.1) (by refine JL (λ_ _ _=>?_) _ _ _;exact⟨uT,λ_=>uT,λ_=>uT⟩) (λ_=>by repeat' first|exact trivial|intro _|refine⟨?_,?_⟩|decide) (λ_=>uT))
noncomputable def UG:List (FuncId×Row):=[(59,.clone 107 bR 16)]
noncomputable def YS:Cx:=l8 [(50,AS)] [] UG (λ_ _ _ _=>V)
def YT:CxOK prog YS:=mI (cs:=[(50,AS)]) (ps:=[]) (rs:=UG) aG ⟨qct,uT⟩ trivial ⟨qdt,uT⟩ (λ_ _ _ _ _ h=>(nomatch h))
def BI(x:ag [.d bV,.d bp]):Fr (aa [bV,i64]):=
 let h:=AS.f (x.2.1,());let b:=(none:Option Int);let c:=List.drop (b.getD 0).toNat x.1.1;let a:=((List.length x.1.1):Int);let g:=List.take (a-b.getD 0).toNat c;Jb (!h.2.1) (Jv (([],()),1,())) (Jb (h.1 != 0) (Jv (([],()),13,())) (Jb (J (a>=2000)) (Jv (([],()),2,())) (Jd (J (a>0)=Z->0<=I6.wrap (a-1)/\I6.wrap (a-1)<a) (Jb (bif J (a>0)then J (x.2.1.1<(List.getD x.1.1 (I6.wrap (a-1)).toNat bp.dflt).1)else Y) (Jv (([],()),4,())) (Jd (List.length x.2.1.2.2.1<=maxLen) (Jd (List.length x.2.1.2.2.1*16<=140737488355328) (Jd (0<=b.getD 0/\b.getD 0<=a/\a<=a/\a=a) (Jd (0 < [x.2.1].length/\g.length + [x.2.1].length<=maxLen/\(g.length + [x.2.1].length)*40<=140737488355328) (Jv ((List.take (a-b.getD 0).toNat c++[x.2.1],()),0,()))))))))))
def qjr:af prog 39 ⟨[.d bV,.d bp],[bV,i64],λxs=>(BI xs).get,λxs=>[(BI xs).ok]⟩:=
 cf YT (Λ:=bw) (fn:=f39) (aW [.d bV,.d bp]) (by kernel_rfl) (λc E _=>aY c 0) (λx=>by kernel_rfl)
def qwp(b:bV.den)(e:bp.den)(h:List.length (α:=bR.den) e.2.2.1<=1000000):(BI (b,e,())).ok:=by
 have q:=ew;refine⟨λ_=>uT,λ_=>⟨λ_=>uT,λ_=>⟨λ_=>uT,λhb=>⟨λj=>?_,λ_=>uT,λ_=>⟨?_,?_,?_,?_,uT⟩⟩⟩⟩⟩;have t:(List.length (α:=bp.den) b.1:Int)>0:=ucw j;have m:¬ (List.length (α:=bp.den) b.1:Int)>=2000:=ucg hb;rw[show I6.wrap ((List.length (α:=bp.den) b.1:Int)-1)=(List.length (α:=bp.den) b.1:Int)-1 from cz (by omega)];show 0<=(List.length (α:=bp.den) b.1:Int)-1/\(List.length (α:=bp.den) b.1:Int)-1<(List.length (α:=bp.den) b.1:Int);omega;show List.length (α:=bR.den) e.2.2.1<=maxLen;omega;show List.length (α:=bR.den) e.2.2.1*16<=_;omega;exact⟨ue7 _,ub3 _,ue7 _,rfl⟩;have m:¬ (List.length (α:=bp.den) b.1:Int)>=2000:=ucg hb;have i:(List.take ((List.length (α:=bp.den) b.1:Int)-(none:Option Int).getD 0).toNat (List.drop ((none:Option Int).getD 0).toNat (b.1:List bp.den))).length<=2000:=by
  rw[uc3];show min _ (List.length (α:=bp.den) b.1)<=_;omega
 refine⟨udr,?_,?_⟩;exact uel (Nat.succ_le_succ i) (uel (show 2001<=1000000 by decide) q);exact uel (ubd 40 (Nat.succ_le_succ i)) (by decide)
def GL:Ct:=⟨[.d bV,.d bp],[bV,i64],λx=>(BI x).get,λx=>[List.length (α:=bR.den) x.2.1.2.2.1<=1000000]⟩
def qcq:af prog 39 GL:=bW qjr _ (λx _ i=>qwp x.1 x.2.1 i)
def BG(x:ag [.d i64,.ptr i64]):Fr (aa [.bool]):=
 Jv (J (x.1<=x.2.1),())
def qjp:af prog 43 ⟨[.d i64,.ptr i64],[.bool],λxs=>(BG xs).get,λxs=>[(BG xs).ok]⟩:=
 cf aH (Λ:=bw) (fn:=f43) (aW [.d i64,.ptr i64]) (by kernel_rfl) (λc E _=>aY c 0) (λx=>by kernel_rfl)
def AR:Ct:=⟨[.d i64,.ptr i64],[.bool],λx=>(BG x).get,λ_=>[]⟩
def qco:af prog 43 AR:=bW qjp _ (λx hw _=>uT)
abbrev mY:PT:=.fn [i64] [.bool]
abbrev ve:Pt:=⟨42,2,⟨[(27,.d i64),(26,.d i64),(25,.d (.sl bR)),(7,.d i64),(1,.d i64),(2,mY),(15,.d i64),(14,.d i64),(13,.d (.sl bp))],[]⟩,⟨[(7,.d i64),(1,.d i64),(2,mY),(15,.d i64),(14,.d i64),(13,.d (.sl bp))],[]⟩,⟨[],[]⟩⟩
abbrev Jc:Type:=Int×List bR.den×Int×mY.den×Int×Int×List bp.den
def V0(k:Jc)(b:Prop)(_i:Int)(e:bR.den)(s:Int):Fr Int:=Jd b (Jb (e.1==k.2.2.1) (Jv (I6.wrap (s+e.2.1))) (Jv s))
def MP:ve.M.X->Fr ve.Out:=FG (λx=>(x.1.1,((x.1.2.1,x.1.2.2.1,x.1.2.2.2.2.1,x.1.2.2.2.2.2.1,x.1.2.2.2.2.2.2.1,x.1.2.2.2.2.2.2.2.1,x.1.2.2.2.2.2.2.2.2.1):Jc),(x.1.2.2.2.1:Int))) (λk=>k.1) (λk=>k.2.1) V0 (λk s=>((s,k.2.2.1,k.2.2.2.1,k.2.2.2.2.1,k.2.2.2.2.2.1,k.2.2.2.2.2.2,()),()))
noncomputable def R7:Code:=(Go.Ab.loopB (au f42 0) 0).getD .skip
def qrq:ae prog (.loop R7) ve.M ve MP:=
 cN aH (λi k s=>((i,k.1,k.2.1,s,k.2.2.1,k.2.2.2.1,k.2.2.2.2.1,k.2.2.2.2.2.1,k.2.2.2.2.2.2,()),())) bR.dflt
abbrev Dd:Pt:=⟨42,0,⟨[(15,.d i64),(14,.d i64),(13,.d (.sl bp)),(1,.d i64),(2,mY),(7,.d i64)],[]⟩,⟨[(7,.d i64)],[]⟩,⟨[],[]⟩⟩
abbrev Cw:Type:=Int×List bp.den×Int×mY.den
def uC(e:bp.den):List bR.den:=e.2.2.1
def kIn(k:Cw)(i:Int)(e:bp.den):Jc:=(((uC e).length:Int),uC e,k.2.2.1,k.2.2.2,i,k.1,k.2.1)
def KX(k:Cw)(b:Prop)(i:Int)(e:bp.den)(s:Int):Fr Int:=
 Jd b (Jb (!(k.2.2.2 (e.1,())).1) (Jv s) (cI (InK ((uC e).length:Int) 0 (uC e).length) (bM (V0 (kIn k i e) True) 0 (uC e) s) (bO (V0 (kIn k i e) True) 0 (uC e) s) (λs=>Jv s)))
def Zy:Dd.M.X->Fr Dd.Out:=FG (λx=>(x.1.1,((x.1.2.1,x.1.2.2.1,x.1.2.2.2.1,x.1.2.2.2.2.1):Cw),(x.1.2.2.2.2.2.1:Int))) (λk=>k.1) (λk=>k.2.1) KX (λ_ s=>((s,()),()))
def qrp:ae prog (.loop (au f42 0)) Dd.M Dd Zy:=
 cN aH (λi k s=>((i,k.1,k.2.1,k.2.2.1,k.2.2.2,s,()),())) bp.dflt (Λ:=λ_=>ve.han dB.Γ ve.M MP) (hΛ:=λ_=>kP (by kernel_rfl) (b:=R7) (by kernel_rfl) (ae.han aH rfl qrq))
def RX(x:ag [.d bV,.d i64,mY]):Cw:=((List.length (α:=bp.den) x.1.1:Int),x.1.1,x.2.1,x.2.2.1)
def Qn(x:ag [.d bV,.d i64,mY]):Fr (aa [i64]):=
 cI (InK (List.length (α:=bp.den) x.1.1:Int) 0 (List.length (α:=bp.den) x.1.1)) (bM (KX (RX x) True) 0 x.1.1 0) (bO (KX (RX x) True) 0 x.1.1 0) (λs=>Jv (s,()))
def qjt:af prog 42 (bg [.d bV,.d i64,mY] [i64] Qn):=cS aH qrp (fn:=f42)
def GN:Ct:=⟨[.d bV,.d i64,mY],[i64],λx=>(Qn x).get,λ_=>[]⟩
def qcs:af prog 42 GN:=bW qjt _ (λx hw _=>by
 have j:=hw.1.1;refine nK (gt j.1) (dk (step:=KX (RX x) True) (λ_ _=>True) x.1.1 (λi e s q _=>?_) 0 trivial).1 (λ_=>uT);have m:=j.2 i e q;refine⟨uT,λ_=>uT,λ_=>⟨gt m.2.2.1.1,?_,uT⟩⟩;refine uP (λ_ _ _=>?_) _ _ _;exact⟨uT,λ_=>uT,λ_=>uT⟩)
noncomputable def YU:Cx:=cx [(42,GN),(43,AR)] []
def YV:CxOK prog YU:=aP aG ⟨qcs,qco,uT⟩ trivial
def BH(x:ag [.d bV,.d i64,.d i64]):Fr (aa [i64]):=
 Jd (∀ (i:aa [i64]),fi [i64] i->av (AR.ok (i.1,x.2.2.1,()))) (Jv ((GN.f ((x.1.1,()),x.2.1,λi=>AR.f (i.1,x.2.2.1,()),())).1,()))
def qjq:af prog 18 ⟨[.d bV,.d i64,.d i64],[i64],λxs=>(BH xs).get,λxs=>[(BH xs).ok]⟩:=
 cf YV (Λ:=bw) (fn:=f18) (aW [.d bV,.d i64,.d i64]) (by kernel_rfl) (λc E _=>aY c 0) (λx=>by kernel_rfl)
def GK:Ct:=⟨[.d bV,.d i64,.d i64],[i64],λx=>(BH x).get,λ_=>[]⟩
def qcp:af prog 18 GK:=bW qjq _ (λx hw _=>⟨λ_ _=>uT,uT⟩)
noncomputable def YW:Cx:=cx [(18,GK)] []
def M0:CxOK prog YW:=aP aG ⟨qcp,uT⟩ trivial
def DC(a:dw.den)(w x:Int):dw.den:=(bif w==0 then x else a.1,bif w==0+1 then x else a.2.1,bif w==0+1+1 then x else a.2.2.1,bif w==0+1+1+1 then x else a.2.2.2.1,bif w==0+1+1+1+1 then x else a.2.2.2.2.1,bif w==0+1+1+1+1+1 then x else a.2.2.2.2.2.1,bif w==0+1+1+1+1+1+1 then x else a.2.2.2.2.2.2.1,bif w==0+1+1+1+1+1+1+1 then x else a.2.2.2.2.2.2.2.1,bif w==0+1+1+1+1+1+1+1+1 then x else a.2.2.2.2.2.2.2.2.1,bif w==0+1+1+1+1+1+1+1+1+1 then x else a.2.2.2.2.2.2.2.2.2.1,())
abbrev trM:List MI:=[.x 2 52 bV,.r 2 2 0,.x 4 73 dw,.r 4 4 0,.x 5 73 dw,.r 5 5 0]
abbrev Ds:Pt:=⟨20,0,⟨[(7,.d i64),(1,.d i64)],trM⟩,⟨[],[.x 4 73 dw,.r 4 4 0,.x 5 73 dw,.r 5 5 0]⟩,⟨[],[]⟩⟩
def Lg(k:Int×bV.den×dw.den)(_b:Prop)(i:Int)(_e:Unit)(s:dw.den):Fr dw.den:=
 Jd (0<=I6.wrap (i+1)/\I6.wrap (i+1)<(10:Int)) (Jv (DC s (I6.wrap (i+1)) (GK.f (k.2.1,I6.wrap (i+1),k.1,())).1))
def ZK:Ds.M.X->Fr Ds.Out:=FG (λx=>(x.1.1,(x.1.2.1,x.2.1,x.2.2.1),x.2.2.2.1)) (λ_=>9) (λ_=>List.replicate 9 ()) Lg (λk s=>((),k.2.2,s,()))
def qte:ae prog (.loop (au f22 0)) Ds.M Ds ZK:=
 cN M0 (λi k s=>((i,k.1,()),k.2.1,k.2.2,s,())) ()
def Qm(x:ag [.d bV,.d i64]):Fr (aa [dw]):=
 cI (InK 9 0 (List.replicate 9 ()).length) (bM (Lg (x.2.1,x.1,dw.dflt) True) 0 (List.replicate 9 ()) dw.dflt) (bO (Lg (x.2.1,x.1,dw.dflt) True) 0 (List.replicate 9 ()) dw.dflt) (λs=>Jv (s,()))
def qjs:af prog 22 (bg [.d bV,.d i64] [dw] Qm):=cS M0 qte (fn:=f22)
def Te{e:Unit}(h:(List.replicate 9 ())[i]?= U e):i<9:=by
 have:=eD h
 rwa [List.length_replicate]at this
def WB(h:i<9):0<=I6.wrap ((i:Int)+1)/\I6.wrap ((i:Int)+1)<(10:Int):=by
 rw[show I6.wrap ((i:Int)+1)=(i:Int)+1 from cz (by omega)];omega
def GM:Ct:=⟨[.d bV,.d i64],[dw],λx=>(Qm x).get,λ_=>[]⟩
def qcr:af prog 22 GM:=bW qjs _ (λx _ _=>nK ⟨rfl,by decide,by decide,by decide⟩ (dk (step:=Lg (x.2.1,x.1,dw.dflt) True) (λ_ _=>True) (List.replicate 9 ()) (λi e s j _=>⟨WB (Te j),uT⟩) dw.dflt trivial).1 (λ_=>uT))
def fE(s:aq.den):Prop:=∀ f∈bq s,List.length (α:=bn.den) f.2.1<=2000
def qeo(g:ar.den)(a:bn.den)(h:List.length (α:=bn.den) g.2.1<=2000):List.length (α:=bn.den) (o8 g a).1.2.1<=2000:=by
 unfold o8;cases !(qz a);cases i:J (((List.length (α:=bn.den) g.2.1:Nat):Int)>=2000);have:=ucg i;cases J (a.1<uz g);cases (nD g).2.2.2.2.2.1==(a.2.1==5);cases G2 g a;show(g.2.1++[a]).length<=2000;rw[ub5,ua7];omega;exact ufc _;exact ufc _;exact ufc _;exact ufc _;exact ufc _
def qhk(t:b8.den):fE (ym t):=λf i=>by cases i
def qhg{s:aq.den}(f:aD.den)(h:fE s):fE (kx s f).1:=by
 unfold kx;cases J (aI s f>=0);cases J (((List.length (db s):Nat):Int)>=2000);exact h;exact h;exact h
def qhf{s:aq.den}(f:aD.den)(h:fE s):fE (kw s f).1:=by
 unfold kw;cases J (aI s f<0);cases (bq s).any (qq f);exact h;exact h;exact h
def qhl{s:aq.den}(f:aD.den)(h:fE s):fE (kB s f).1:=by
 unfold kB;cases J (aI s f<0);cases J (hH f>I6.wrap (4000000000000000000-(j5 s (aI s f)).2.1));exact h;exact h;exact h
def qhj{s:aq.den}(f:aD.den)(h:fE s):fE (kz s f).1:=by
 unfold kz;cases J (jH s (fB f).1>=0);cases J (((List.length (bq s):Nat):Int)>=2000);cases !(lA s f).2;intro g hg;rcases Ub hg with hg|hg
 exact h g hg;rw[hg];exact ufc _;exact h;exact h;exact h
def qhe{s:aq.den}(f:aD.den)(h:fE s):fE (kv s f).1:=by
 unfold kv;cases i:J (gI s f<0);intro g hg;rcases SS hg with hg|hg
 exact h g hg;rw[hg];exact qeo _ _ (h _ (fo (If (ucg i))));exact h
def qhm{s:aq.den}(f:aD.den)(h:fE s):fE (kC s f).1:=by
 unfold kC;cases z9 s (fD f);cases J (((List.length (jW s):Nat):Int)>=100);cases pi (jW s) (fD f);exact h;exact h;exact h;exact h
def qhh{s:aq.den}(f:aD.den)(h:fE s):fE (ky s f).1:=by
 unfold ky;cases J (hN f<=mg s);exact h;exact h
def qhi{s:aq.den}(f:aD.den)(h:fE s):fE (lD s f).1:=by
 show fE (mL s f).1;unfold mL;cases aU f==1;cases aU f==2;cases aU f==3;cases aU f==4;cases aU f==5;cases aU f==6;exact qhh f h;exact qhm f h;exact qhe f h;exact qhj f h;exact qhl f h;exact qhf f h;exact qhg f h
def oO(s:aq.den):Prop:=bD s/\fE s
def qhs{t:b8.den}(h:bJ t):oO (ym t):=⟨qh0 h,qhk t⟩
def qht{s:aq.den}(f:aD.den)(h:oO s)(h0:(jY s f).2=0):oO (jY s f).1:=by
 rw[(zar h0).2.2];exact⟨qhy f h.1,qhi f h.2⟩
def qhr{s:aq.den}(h:oO s):ev (bq s):=⟨uel h.1.2.2.1 (by decide),λf i=>uel (h.2 f i) (by decide)⟩
section
open Go.Shelf
attribute [local go_sem] Oper.semAt_some
def qba (n:Nat) (hn:1<=n) (l w t b off len P:Nat) (c:Nat->Int) (O:len<=1000000) (A:Option Addr) (hA:0<len->A=U ⟨b,off,V⟩/\b<t) (J Jx:List (Fin len)->World->Prop)
  (hY:∀ m (k:Fin len) W,J m W->m.length<len->YieldAt Fence.wide (n-1) prog l #[.int .i64 ((k.1:Nat):Int),.int .i64 (c k.1)] W λe W'=>
   (e=.returned (.bool Z)/\J (m++[k]) W'/\cw t w w W W')\/(e=.returned (.bool Y)/\Jx (m++[k]) W'))
  (W:World) (C:W.heap[w]?= U (.cells #[.slice A len P] 126 (0,0))) (hc:∀ k,k<len->W.cell? ⟨b,off+k,V⟩=U (.int .i64 (c k))) (h0:J [] W) :
  CallsIn Fence.wide n prog 154 #[.func (.yield l) #[] #[],.pointer (U ⟨w,0,V⟩)] W λe W'=>(∃ v,e=.returned v) /\
   ((∃ ys:List (Fin len),ys.map Fin.val=hP (λj=>len-1-j) len/\J ys W')\/(∃ m:List (Fin len),(∃ k,k<=len/\m.map Fin.val=hP (λj=>len-1-j) k)/\Jx m W')):=by
 have hro:Fence.wide.round=none:=rfl;refine callsIn_of_wp func154 rfl trivial ?_ hro;simp only[ntmps154,ucp,uc7,udi,Nat.reduceAdd,Nat.reduceSub,ubm,ubn,ucx,ubw,udj,uc2];have c0:=aO C 0
 gi_wp2
 gi_loopw [3] (λi wr=>∃ (k:Nat) (m:List (Fin len)),k<=len/\i=.int .i64 ((len:Int)-1-k)/\m.map Fin.val=hP (λj=>len-1-j) k/\J m wr/\cw t w w W wr)
  (λi _=>(intOf i+1).toNat)
 case atStart=>exact⟨0,[],ufc _,by simp,rfl,h0,cw.refl _ _ _ _⟩
 case round=>
  obtain⟨k,m,hk,rfl,q,F,u⟩:=hrel;have e0:=aO (u.2.1.trans C) 0;by_cases hlt:k<len
  ·obtain⟨rfl,hb⟩:=hA (by omega);obtain⟨fn,tmps,N,body,hy,hR⟩:=hY m ⟨len-1-k,by omega⟩ wr F (by have:=ufo List.length q;rw[BQ,udz]at this;omega);have x0:wr.cell? ⟨b,off+(len-1-k),V⟩=U (.int .i64 (c (len-1-k))):=(u.1.cell hb).trans (hc _ (by omega));have ek:((len-1-k:Nat):Int)=(len:Int)-1-k:=by omega
   rw[ek]at hy
   gi_wp2
   refine hR.mono ?_;rintro e W3 (⟨rfl,Q,S⟩|⟨rfl,H⟩)
   ·gi_wp2
    go_roundw
    case rel=>exact⟨k+1,m++[⟨len-1-k,by omega⟩],by omega,by simp;omega,by rw[tX,udt,q];rfl,Q,u.trans S⟩
    case measure=>simp[intOf];omega
   gi_wp2
   refine uey (uez rfl _ _ _) rfl ?_;exact⟨⟨_,rfl⟩,.inr ⟨_,⟨k+1,by omega,by rw[tX,udt,q];rfl⟩,H⟩⟩
  ·obtain rfl:k=len:=by omega
   gi_wp2
   go_end0
   exact⟨⟨_,rfl⟩,.inl ⟨_,q,F⟩⟩
def qbc(n:Nat)(A:Option Addr)(len i:Nat)(w:World):
  CallsIn Fence.wide n prog 96 #[.slice A len i] w λe w'=>e=.returned (.func (.func 154) #[] #[.pointer (U ⟨w.heap.size,0,V⟩)])/\w'=w.alloc (.cells #[.slice A len i] 126):=by
 refine callsIn_of_wp func96 rfl trivial ?_ rfl;simp only[ntmps96,ucp,uc7,udi,Nat.reduceAdd,Nat.reduceSub,ubm,ubn,ucx,ubw,udj,uc2]
 gi_wp2
 go_ret
 exact⟨rfl,rfl⟩
structure TuI (w:World) (hc:Array Value) (day:Int) (Bs:Nat) (sv:Value) (is:Nat->Bool) (pre:List (Fin len)) (W:World):Prop where
 h0:W.heap[w.heap.size]?= some (.cells hc 114 (0,0))
 d:Boxed W (w.heap.size+1) 3 (.int .i64 day)
 r:Boxed W (w.heap.size+1+1) 4 (.bool false)
 s:Boxed W Bs 126 sv
 bel:Below w.heap.size w W
 sz:Bs+1<=W.heap.size
 no:∀ k∈pre,is k.1=false
structure TuX (w:World) (is dy:Nat->Bool) (c:Code) (pre:List (Fin len)) (W:World):Prop where
 ret:c=.ret
 res:∃ ini k,pre=ini++[k]/\(∀ k∈ini,is k.1=false)/\is k.1=true/\Boxed W (w.heap.size+1+1) 4 (.bool (dy k.1))
 bel:Below w.heap.size w W
def zca{hc:Array Value}{m:Nat}{t:Value}{q:Nat->Bool}(hB:w.heap.size<=B):OwnFrom B (λ(j:List (Fin len)) W=>TuI w hc day m t q j W):=λj X u row h hg i=>
 ⟨qs h.h0 hg i,iB h.d hg i,iB h.r hg i,iB h.s hg i,h.bel.grown hg h.bel.size (λk e=>uel hB (i k e).1),uel h.sz hg.size,h.no⟩
def zcb{C q:Nat->Bool}(hB:w.heap.size<=B)(c:Code):OwnFrom B (λ(i:List (Fin len)) W=>TuX w C q c i W):=λi X F row h hg m=>by
 obtain⟨j,k,e1,e2,t,u⟩:=h.res;exact⟨h.ret,⟨j,k,e1,e2,t,iB u hg m⟩,h.bel.grown hg h.bel.size (λk e=>uel hB (m k e).1)⟩
def ZN(i m:Nat->Bool)(len:Nat)(e:Ending):Prop:=
 (e=.returned (.bool Y)/\∀ k,k<len->i k=Y) \/ ∃ k,k<len/\i k=Z/\(∀ j,k<j->j<len->i j=Y)/\e=.returned (.bool (m k))
abbrev du(g:Nat->Int)(i:Option Addr)(t m:Nat)(j:Option Addr)(l2 q:Nat):Array Value:=#[.int .i64 (g 0),.int .i64 (g 1),.int .i64 (g 2),.int .i64 (g 3),.int .i64 (g 4),.int .i64 (g 5),.int .i64 (g 6),.int .i64 (g 7),.slice i t m,.slice j l2 q]
def Wh{R:Ending->World->Prop}{D z:Nat}{a0 a1 a2 a3 a5 a6 a7 a8 a9 i j m q t u w C F H N O P Q S a25 a26 a27 a28 a29:Value}(z2:Boxed W (z+1+1) 4 v)(hK:W.heap[D]?= U (.deferred (U [])))(hD:z+3<=D)(hR:R (.returned v) (W.putObj D (.deferred V))):
  bodyPostM Fence.wide 8 prog f63 R .ret { tmps:=#[a0,a1,a2,a3,.pointer (U ⟨z+1+1,0,V⟩),a5,a6,a7,a8,a9,i,j,m,q,t,u,w,C,F,H,N,O,P,Q,S,a25,a26,a27,a28,a29],defers:=[{ target:=.collected D,args:=#[] }] } W:=by
 have k2:Boxed (W.putObj D (.deferred V)) (z+1+1) 4 v:=(World.putObj_heap_other (r:=D) (o:=.deferred V) (by omega)).trans z2;have g2:=k2.cell;refine⟨by simp,.inl ⟨_,_,rfl,run_takeDeferred hK,?_⟩⟩;refine⟨v,?_,hR⟩;simp[results,results63,go_sem,g2]
def zce (g:Nat->Int) (A1:Option Addr) (l1 c1:Nat) (A2:Option Addr) (l2 c2 b2 O:Nat) (c:Nat->ChC) (day:Int) (w:World) (hl2:l2<=1000000) (hA2:0<l2->A2=U ⟨b2,O,V⟩/\b2<w.heap.size)
  (hc2:∀ k j u,k<l2->(de (c k))[j]?= U u->w.cell? ⟨b2,O+(k*9+j),V⟩=U u)
  (F:Nat->Nat) (len:Nat) (hlen:len<=1000000) (hol:∀ k,k<len->F k<l2)
  (hO:∀ W,Below w.heap.size w W->Calls prog 97 #[.agg (du g A1 l1 c1 A2 l2 c2)] W λe w'=>∃ (A:Option Addr) (t b off:Nat),e=.returned (.slice A len t)/\Below W.heap.size W w' /\
   (0<len->A=U ⟨b,off,V⟩/\b<w'.heap.size)/\∀ k,k<len->w'.cell? ⟨b,off+k,V⟩=U (.int .i64 (F k:Int))) :
  CallsIn Fence.wide 8 prog 63 #[.agg (du g A1 l1 c1 A2 l2 c2),.int .i64 day] w λe w'=>
   ZN (λk=>(c (F k)).p 2==3 || (c (F k)).p 2==4) (λk=>decide ((c (F k)).p 1<=day)) len e/\Below w.heap.size w w':=by
 refine callsIn_of_wp_marks func63 rfl trivial ?_ rfl;simp only[ntmps63,ucp,uc7,udi,Nat.reduceAdd,Nat.reduceSub,ubm,ubn,ucx,ubw,udj,uc2];obtain⟨P,hsz,hq⟩:=zj8 [.cells (du g A1 l1 c1 A2 l2 c2) 114,.cells #[.int .i64 day] 3,.cells #[.bool false] 4] w;have HO:=Lib.hid (hO _ P);have HB:=Lib.hid P;replace hsz:_=w.heap.size+3:=hsz;have HZ:=Lib.hid hsz;have HQ:=Lib.hid hq;have HC:=Lib.hid hc2;clear hc2 hO hq P hsz;unfold du
 gi_wp2_with (first
  |(refine⟨uT,?_⟩;gi_at_call 97;refine(callsIn_wide.2 HO.out).mono ?_;rintro e H ⟨A,t,b,off,rfl,hb1,hA,hcl⟩)
  |(refine⟨uT,?_⟩;gi_at_call 96;refine(qbc _ _ _ _ _).mono ?_;rintro e w' ⟨rfl,rfl⟩))
 have hw1:Below w.heap.size w H:=HB.out.trans (hb1.mono HB.out.size);have hz1:w.heap.size+3<=H.heap.size:=by have:=hb1.size;have:=HZ.out;omega
 have hbb:Below H.heap.size H (H.alloc (.cells #[.slice A len t] 126)):=(uff _ H).alloc (ue6 _) _;have hbs:=World.alloc_heap_new H (.cells #[.slice A len t] 126);have hsz0:(H.alloc (.cells #[.slice A len t] 126)).heap.size=H.heap.size+1:=by simp
 generalize H.alloc (.cells #[.slice A len t] 126)=W0 at *;have hb0:=hw1.trans (hbb.mono hw1.size);have ee:∀ i o,i<3->_->W0.heap[w.heap.size+i]?= U o:=λi o hi h=>(hbb.block _ (by omega)).trans ((hb1.block _ (by have:=HZ.out;omega)).trans (HQ.out i o h));have hI0:TuI w (du g A1 l1 c1 A2 l2 c2) day H.heap.size (.slice A len t) (λk=>(c (F k)).p 2==3 || (c (F k)).p 2==4) ([]:List (Fin len)) W0:=⟨ee 0 _ (by decide) rfl,ee 1 _ (by decide) rfl,ee 2 _ (by decide) rfl,hbs,hb0,by omega,λk hk=>by cases hk⟩;refine wpIn_rangeFunc_ownH rfl (by omega) (gf:=154) (lb:=#[.pointer (U ⟨H.heap.size,0,V⟩)]) rfl trivial (enters_of func154 (by kernel_rfl) rfl)
  (α:=Fin len) (encs:=λ(k:Fin len)=>#[.int .i64 ((k.1:Nat):Int),.int .i64 (F k.1:Int)]) (Kp:=cw H.heap.size H.heap.size H.heap.size) (S:=λys=>ys.map Fin.val=hP (λj=>len-1-j) len) (Sp:=λC=>∃ k,k<=len/\C.map Fin.val=hP (λj=>len-1-j) k) (N:=len) (w0:=W0)
  (λl J Jx W hW _ _ hY h0=>qba 7 (by omega) l H.heap.size H.heap.size b off len t (λk=>(F k:Int)) hlen A hA J Jx hY W ((hW.block _ (by omega)).trans hbs) (λk hk=>((hbb.trans (hW.mono (by omega))).cell (p:=⟨b,off+k,V⟩) (hA (by omega)).2).trans (hcl k hk)) h0)
  (λh k=>h.trans k) (λW l o o' hl ho hoc how=>⟨belowK_b (w:=H) (ue6 _) W l o o' (by omega) ho hoc how,World.putObj_heap_other (by omega),World.putObj_heap_other (by omega)⟩) (uff _ _)
  (by intro _;rfl)
  (λC W=>TuI w (du g A1 l1 c1 A2 l2 c2) day H.heap.size (.slice A len t) (λk=>(c (F k)).p 2==3 || (c (F k)).p 2==4) C W)
  (λcd C W=>TuX w (λk=>(c (F k)).p 2==3 || (c (F k)).p 2==4) (λk=>decide ((c (F k)).p 1<=day)) cd C W)
  (zca (by omega)) (zcb (by omega)) hI0
  (λk a' _=>a' = { tmps:=#[.agg #[.int .i64 (g 0),.int .i64 (g 1),.int .i64 (g 2),.int .i64 (g 3),.int .i64 (g 4),.int .i64 (g 5),.int .i64 (g 6),.int .i64 (g 7),.slice A1 l1 c1,.slice A2 l2 c2],.int .i64 day,.pointer (U ⟨w.heap.size,0,V⟩),.pointer (U ⟨w.heap.size+1,0,V⟩),.pointer (U ⟨w.heap.size+1+1,0,V⟩),undef,.int .i64 (F k.1:Int),undef,.agg #[.int .i64 (g 0),.int .i64 (g 1),.int .i64 (g 2),.int .i64 (g 3),.int .i64 (g 4),.int .i64 (g 5),.int .i64 (g 6),.int .i64 (g 7),.slice A1 l1 c1,.slice A2 l2 c2],.slice A len t,.func (.func 154) #[] #[.pointer (U ⟨H.heap.size,0,V⟩)],.int .i64 (k.1:Int),.int .i64 (F k.1:Int),undef,undef,undef,undef,undef,undef,undef,undef,undef,undef,undef,undef,undef,undef,undef,undef,undef],defers:=[] })
  (λk a'=>λ_ X Y row h _ _=>h) ?assign ?body ?done ?stop
 case assign=>
  rintro l C ⟨k,hkl⟩ W K hi hK
  gi_wp2
  exact hK _ _ (KeepsFrom.refl _ _) (cw.refl _ _ _ _) hi rfl
 case body=>
  rintro l C ⟨k,hkl⟩ a' W hl ⟨r,hr⟩ hi rfl hlt;have hk2:=hol k hkl;obtain⟨rfl,hb2⟩:=hA2 (by omega);have hcx:∀ j,j<9->W.cell? ⟨b2,O+F k*9+j,V⟩=U ((de (c (F k))).getD j undef):=λj hj=>by
   rw[uee];exact(hi.bel.cell (p:=⟨b2,O+(F k*9+j),V⟩) hb2).trans (HC.out (F k) j _ hk2 (by match j,hj with|0,_|1,_|2,_|3,_|4,_|5,_|6,_|7,_|8,_=>rfl))
  obtain⟨x0,x1,x2,x3,x4,x5,x6,x7,x8⟩:=zj4 hcx;rw[uev]at x0;simp[de]at x0 x1 x2 x3 x4 x5 x6 x7 x8;have z0:=aO hi.h0 9;simp at z0;have zd:=hi.d.cell;have zr:=hi.r.cell;have zf:=hi.r.frozen;have hsz1:=hi.sz;have n1:w.heap.size+1≠W.heap.size:=by omega
  have n2:w.heap.size+1+1≠W.heap.size:=by omega
  have za:∀ o,(W.alloc o).cell? ⟨w.heap.size+1,0,V⟩=U (.int .i64 day):=λo=>(((uff _ W).alloc (ue6 _) o).cell (p:=⟨w.heap.size+1,0,V⟩) (by show w.heap.size+1<W.heap.size;omega)).trans zd;have zb:∀ o,(W.alloc o).heap[w.heap.size+1+1]?= U (.cells #[.bool false] 4 (0,0)):=λo=>(uc9 W o (w.heap.size+1+1) (by omega)).trans hi.r;have zc:∀ o,(W.alloc o).cell? ⟨w.heap.size+1+1,0,V⟩=U (.bool false):=λo=>aO (zb o) 0;have zg:∀ o,(W.alloc o).frozen? ⟨w.heap.size+1+1,0,V⟩=false:=λo=>by simp[World.frozen?,zb]
  clear hcx hr
  gi_wp2
  refine⟨((KeepsOthers.alloc _ _).trans (KeepsOthers.setCell _ _ _)).from _,rfl,⟨C,⟨k,hkl⟩,rfl,hi.no,?_,(show Boxed (W.alloc _) _ _ _ from zb _).set _⟩,(hi.bel.alloc hi.bel.size _).setCell (by show w.heap.size<=w.heap.size+1+1;omega) _⟩
  simp_all
  refine⟨((KeepsOthers.alloc _ _).trans (KeepsOthers.setCell _ _ _)).from _,rfl,⟨C,⟨k,hkl⟩,rfl,hi.no,?_,(show Boxed (W.alloc _) _ _ _ from zb _).set _⟩,(hi.bel.alloc hi.bel.size _).setCell (by show w.heap.size<=w.heap.size+1+1;omega) _⟩
  simp_all
  refine⟨(KeepsOthers.alloc _ _).from _,cw.below ((uff _ W).alloc (ue6 _) _) (by omega) (by omega) (by omega),(uc9 _ _ _ (by omega)).trans hi.h0,hi.d.alloc _,hi.r.alloc _,hi.s.alloc _,hi.bel.alloc hi.bel.size _,by simp;omega,λq hq=>?_⟩;refine(udp.1 hq).elim (hi.no q) (λe=>?_);have e2:=uce.1 e;subst e2
  simp_all
 case done=>
  rintro D zs W hD hzs hi hK;have zr:=hi.r.cell;have zf:=hi.r.frozen
  gi_wp2
  refine Wh (z:=w.heap.size) (hi.r.set (.bool false)) ((KeepsOthers.setCell W _ _).same D _ hK rfl) (by omega) ⟨.inl ⟨rfl,λk hk=>?_⟩,?_⟩;have hm:k∈zs.map Fin.val:=by
   rw[hzs];exact ue3.2 ⟨len-1-k,ud6.2 (by omega),by show len-1-(len-1-k)=k;omega⟩
  obtain⟨q,hq,rfl⟩:=ue3.1 hm;exact hi.no q hq;have hb:=hi.bel.setCell (p:=⟨w.heap.size+1+1,0,V⟩) (by show w.heap.size<=w.heap.size+1+1;omega) (.bool false);exact hb.trans (belowK_b (w:=w) (ue6 _) _ D _ _ (by omega) ((KeepsOthers.setCell W _ _).same D _ hK rfl) rfl rfl)
 case stop=>
  rintro D cd C W hD ⟨m,hm,Q⟩ h hK;obtain rfl:=h.ret
  gi_wp2
  obtain⟨ini,k,e1,e2,e3,e4⟩:=h.res;refine Wh (z:=w.heap.size) e4 hK (by omega) ⟨.inr ⟨k.1,k.2,e3,λj hj1 hj2=>?_,rfl⟩,h.bel.trans (belowK_b (w:=w) (ue6 _) _ D _ _ (by omega) hK rfl rfl)⟩;subst e1;have hl:=ufo List.length Q;rw[BQ,udz,ub5]at hl;obtain rfl:m=ini.length+1:=by simpa using hl.symm
  rw[tX,udt]at Q;obtain⟨h2,h3⟩:=List.append_inj' Q rfl;have hlast:k.1=len-1-ini.length:=by simpa using h3
  have hin:j∈(ini.map Fin.val):=by
   rw[h2];exact ue3.2 ⟨len-1-j,ud6.2 (by omega),by show len-1-(len-1-j)=j;omega⟩
  obtain⟨q,hq,rfl⟩:=ue3.1 hin;exact e2 q hq
end
def Lw(h:aC.den)(day:Int):Bool:=match gM h (bE h) (bE h).length with
 |some k=>J ((bZ h k).2.1<=day)
 |none=>Y
def G8:Ct:=⟨[.d aC,.d i64],[.bool],λx=>(Lw x.1 x.2.1,()),λx=>[((aL x.1).length:Int)<=1000000]⟩
def Wj{h:aC.den}:(n:Nat)->(∀ k,k<n->kM (bZ h (l.getD k 0))=Y)->gM h l n=V
 |0,_=>rfl
 |n+1,i=>by
  unfold gM;rw[if_neg (by rw[i n (Nat.lt_succ_self n)];decide)];exact Wj n λk j=>i k (Nat.lt_succ_of_lt j)
def Wk{h:aC.den}{k:Nat}(i:kM (bZ h (l.getD k 0))=Z):(n:Nat)->k<n->(∀ j,k<j->j<n->kM (bZ h (l.getD j 0))=Y)->gM h l n=U (l.getD k 0)
 |0,h0,_=>absurd h0 (Nat.not_lt_zero _)
 |n+1,u,m=>by
  unfold gM;by_cases e:k=n;subst e;rw[if_pos i];rw[if_neg (by rw[m n (by omega) (Nat.lt_succ_self n)];decide)];exact Wk i n (by omega) λj q t=>m j q (Nat.lt_succ_of_lt t)
def zcf:af prog 63 G8:=by
 refine⟨enters_of func63 (by kernel_rfl) rfl,λw F xs vs t hr N=>?_⟩;obtain⟨h,day,_⟩:=xs;obtain⟨v,vs',rfl,P,hn⟩:=hr;obtain⟨rfl,hd⟩:=Ry hn;have P:bu w F aC h v:=P;have hvO:=P;obtain⟨cs,rfl⟩:=P.2.1.1 rfl;have hs:cs.size=10:=P.1;obtain⟨h0,h1,⟨⟨s0,s1,_⟩,⟨r0,r1,r2,r3,_⟩,⟨A1,c1,hA1,_⟩,_⟩,⟨A2,c2,hA2,O⟩,_⟩:=P.2.2;obtain⟨A,cap,b,off,c,e1,hA,hc,hx⟩:=OI (w:=w) (F:=F) (l:=aL h) (v:=.slice A2 (aL h).length c2) ⟨A2,c2,rfl,O⟩;cases e1;have N:((aL h).length:Int)<=1000000:=N;have hcs:cs=du (λj=>match j with|0=>h.1|1=>h.2.1|2=>h.2.2.1.1.1|3=>h.2.2.1.1.2.1|4=>h.2.2.1.2.1.1|5=>h.2.2.1.2.1.2.1|6=>h.2.2.1.2.1.2.2.1|_=>h.2.2.1.2.1.2.2.2.1) A1 (List.length (α:=ak.den) h.2.2.1.2.2.1) c1 A2 (aL h).length c2:=by
  apply ufj;exact hs;intro i hi1 hi2
  match i,hi1,hi2 with
  |0,h,_=>exact ud0 ((uam h).symm.trans h0.1)
  |1,h,_=>exact ud0 ((uam h).symm.trans h1.1)
  |2,h,_=>exact ud0 ((uam h).symm.trans s0.1)
  |3,h,_=>exact ud0 ((uam h).symm.trans s1.1)
  |4,h,_=>exact ud0 ((uam h).symm.trans r0.1)
  |5,h,_=>exact ud0 ((uam h).symm.trans r1.1)
  |6,h,_=>exact ud0 ((uam h).symm.trans r2.1)
  |7,h,_=>exact ud0 ((uam h).symm.trans r3.1)
  |8,h,_=>exact ud0 ((uam h).symm.trans hA1)
  |9,h,_=>exact ud0 ((uam h).symm.trans hA2)
 subst hcs;have hlen:(bE h).length=(aL h).length:=CO h;have C:∀ k,k<(bE h).length->((((bE h).getD k 0).toNat:Nat):Int)=(bE h).getD k 0/\((bE h).getD k 0).toNat<(aL h).length/\(bE h)[k]?= U ((bE h).getD k 0):=λk m=>by
  have e:(bE h).getD k 0=(bE h)[k]:=by rw[uah,uaq m];rfl
  have hm:=CR (h:=h) (x:=(bE h).getD k 0) (by rw[e];exact udg m);exact⟨by omega,by omega,by rw[e];exact uaq m⟩
 have S:∀ k,k<(bE h).length->(c ((bE h).getD k 0).toNat).p 1=(bZ h ((bE h).getD k 0)).2.1/\(c ((bE h).getD k 0).toNat).p 2=(bZ h ((bE h).getD k 0)).2.2.1:=λk m=>by
  have H:=(C k m).2.1;obtain⟨_,hsl,hrep⟩:=hx _ _ (uaq H);have e:bZ h ((bE h).getD k 0)=(aL h)[((bE h).getD k 0).toNat]:=by
   show(aL h).getD _ _=_;rw[uah,uaq H];rfl
  obtain⟨_,_,_,q1,q2,_⟩:=hrep (_,_,_) w F hsl;have q1':U (Value.int .i64 ((c ((bE h).getD k 0).toNat).p 1))=U (.int .i64 _):=q1.1;have q2':U (Value.int .i64 ((c ((bE h).getD k 0).toNat).p 2))=U (.int .i64 _):=q2.1;rw[e];exact⟨(Value.int.inj (ud0 q1')).2,(Value.int.inj (ud0 q2')).2⟩
 have key:=zce _ A1 _ c1 A2 (aL h).length c2 b off c day w (by omega) (λQ=>⟨(hA Q).1,t b (hA Q).2⟩) hc (λk=>((bE h).getD k 0).toNat) (bE h).length (by omega) (λk m=>(C k m).2.1) (λW hW=>by
  have hx':=hvO.mono (λ_ h=>h) (λb hb=>hW.block b (t b hb));refine(JX.2 W F (h,()) [_] (λb hb=>uca (t b hb) hW.size) ⟨_,[],rfl,hx',rfl⟩ N).mono ?_;rintro e w' ⟨u,F',rfl,q,g1,g2,g3⟩;have g4:aE prog w' F' (λ_ _=>True) (dE aK (bE h)) u:=fT g3;obtain⟨A3,c3,rfl,g5⟩:=g4.2;obtain⟨A4,c4,e4,_,_,g6⟩:=KN (w:=w') (F:=F') (l:=bE h) (v:=.slice A3 (bE h).length c3) ⟨A3,c3,rfl,g5⟩;cases e4;by_cases Q:0<(bE h).length;obtain⟨b3,off3,rfl,hf3,hc3⟩:=g6 Q;exact⟨_,c3,b3,off3,rfl,q,λ_=>⟨rfl,(g2 b3 hf3).2⟩,λk m=>by rw[(C k m).1];exact(hc3 k _ (C k m).2.2).1⟩;exact⟨A3,c3,0,0,rfl,q,λh=>absurd h Q,λk m=>absurd m (by omega)⟩)
 refine(callsIn_wide.1 key).mono ?_;rintro e w' ⟨he,q⟩;have hres:e=.returned (.bool (Lw h day)):=by
  have hb:∀ k,k<(bE h).length->((c ((bE h).getD k 0).toNat).p 2==3 || (c ((bE h).getD k 0).toNat).p 2==4)=kM (bZ h ((bE h).getD k 0)):=λk m=>by rw[(S k m).2];rfl
  unfold Lw;rcases he with ⟨rfl,hno⟩|⟨k,m,hk1,H,rfl⟩
  rw[Wj _ λk m=>(hb k m).symm.trans (hno k m)];rw[Wk ((hb k m).symm.trans hk1) _ m λj h1 h2=>(hb j h2).symm.trans (H j h1 h2)];show Ending.returned (.bool (J ((c ((bE h).getD k 0).toNat).p 1<=day)))=_;rw[(S k m).1]
 subst hres;exact⟨_,F,rfl,q,λ_ h=>h,λb hb=>⟨.inl hb,uca (t b hb) q.size⟩,rfl,⟨λh=>(by cases h),λh=>(by obtain⟨_,h⟩:=h;cases h)⟩,rfl⟩
abbrev p7:Pt:=⟨73,0,⟨[(3,.d i64)],[.x 1 140 aQ,.r 1 1 0]⟩,⟨[],[.x 1 140 aQ,.r 1 1 0]⟩,⟨[(2,.d .bool)],[]⟩⟩
def F4(v:aQ.den):List Int:=[v.2.1.1,v.2.1.2.1,v.2.1.2.2.1,v.2.1.2.2.2.1]
def f7(x:p7.M.X):Fr p7.Out:=
 let k:Int:=x.1.1;let v:aQ.den:=x.2.1
 Jb (J (k<4))
  (Jd (0<=k/\k<((4:Nat):Int)) (Jd (J ((F4 v).getD k.toNat 0<0)=Y->0<=k/\k<((4:Nat):Int))
   (Jb (bif J ((F4 v).getD k.toNat 0<0)then Z else J ((F4 v).getD k.toNat 0>100000)) (Jv (Rd.back ((Y,()),()))) (Jv (Rd.next ((I6.wrap (k+1),()),(v,())))))))
  (Jv (Rd.out ((),(v,()))))
abbrev p9:Pt:=⟨85,0,⟨[(10,.d i64),(8,.d aK),(9,.d i64)],[.x 3 140 aQ,.r 3 3 0]⟩,⟨[(9,.d i64)],[.x 3 140 aQ,.r 3 3 0]⟩,⟨[(6,.d i64),(7,.d i64)],[]⟩⟩
noncomputable def YX:Cx:=cx [(60,fN),(61,mE),(62,ow),(63,G8)] []
def YY:CxOK prog YX:=aP aG ⟨CN,N4,Sh,zcf,uT⟩ trivial
def HU(x:ag [.d aC,.d b8,.d i64]):Fr (aa [i64,i64]):=
 Jd (bL x.1) (Jd (bJ (x.2.1.1,())) (Jb ((fN.f (x.1,(x.2.1.1,()),())).2.1 != 0) (Jv (0,(fN.f (x.1,(x.2.1.1,()),())).2.1,())) (Jb ((mE.f ((fN.f (x.1,(x.2.1.1,()),())).1,I6.wrap ((if 292194<x.2.2.1 then 292194 else x.2.2.1)+1),())).2.1 != 0) (Jv (0,(mE.f ((fN.f (x.1,(x.2.1.1,()),())).1,I6.wrap ((if 292194<x.2.2.1 then 292194 else x.2.2.1)+1),())).2.1,())) (Jd (bL x.1) (Jd (bJ (x.2.1.1,())) (Jb ((ow.f (x.1,(x.2.1.1,()),())).2.1 != 0) (Jv (0,(ow.f (x.1,(x.2.1.1,()),())).2.1,())) (Jd (((aL x.1).length:Int)<=1000000) (Jb (G8.f (x.1,x.2.2.1,())).1 (Jv (I6.wrap ((mE.f ((fN.f (x.1,(x.2.1.1,()),())).1,I6.wrap ((if 292194<x.2.2.1 then 292194 else x.2.2.1)+1),())).1+(ow.f (x.1,(x.2.1.1,()),())).1),0,())) (Jv ((mE.f ((fN.f (x.1,(x.2.1.1,()),())).1,I6.wrap ((if 292194<x.2.2.1 then 292194 else x.2.2.1)+1),())).1,0,()))))))))))
def qje:af prog 40 ⟨[.d aC,.d b8,.d i64],[i64,i64],λxs=>(HU xs).get,λxs=>[(HU xs).ok]⟩:=
 cf YY (Λ:=bw) (fn:=f40) (aW [.d aC,.d b8,.d i64]) (by kernel_rfl) (λc E _=>aY c 0) (λx=>by kernel_rfl)
def GH:Ct:=⟨[.d aC,.d b8,.d i64],[i64,i64],λx=>(HU x).get,λx=>[bL x.1,bJ x.2.1]⟩
def qci:af prog 40 GH:=bW qje _ (λx hw i=>by
 have j:bL x.1:=i.1;have m:bJ x.2.1:=i.2;have q:((aL x.1).length:Int)<=1000000:=by have:=j.1;omega
 exact⟨j,m,λ_=>uT,λ_=>⟨λ_=>uT,λ_=>⟨j,m,λ_=>uT,λ_=>⟨q,λ_=>uT,λ_=>uT⟩⟩⟩⟩)
def Lq(d:bS.den)(e:Int):dw.den:=
 let g:=λ(k:Int)=>(uG d).getD (Int.toNat k) 0
 let W:=I6.wrap
 (0,W (W (g 1-g 2)+g 3),W (g 0-g 1),W (e-g 0),W (0-e),W (g 2-g 3),W (0-g 4),g 4,g 5,W (0-g 5),())
def H7(f:aD.den)(d:bS.den)(e i:Int):Fr (aa [bp]):=
 cI (InK 9 0 9) (quq (Lq d e,f.1,i,bp.dflt) []) (qmi (Lq d e,f.1,i,bp.dflt) []) (λs=>Jv ((f.1,i,s,()),()))
def LG(t:Fr α):List Int->Fr α
 |[]=>t
 |k::l=>Jd (0<=k/\k<6) (LG t l)
def WE{Q:α->Prop}{t:Fr α}(h:t.satP Q):(l:List Int)->(∀ k∈l,0<=k/\k<6)->(LG t l).satP Q
 |[],_=>h
 |k::l,i=>⟨i k ucb,WE h l λx j=>i x (ubi _ j)⟩
def HV(x:ag [.d aD,.d bS,.d i64]):Fr (aa [bp]):=
 LG (Jb (x.1.2.1==6) (H7 x.1 x.2.1 x.2.2.1 x.1.2.2.2.2.2.2.2.2.2.1.1) (H7 x.1 x.2.1 x.2.2.1 x.1.2.2.1)) [1,2,3,0,1,0,2,3,4,4,5,5]
def qjf:af prog 36 (bg [.d aD,.d bS,.d i64] [bp] HV):=
 cS aH qr2 (fn:=f36)
def PW(y:aa [bp]):Prop:=List.length (α:=bR.den) y.1.2.2.1<=9
def PA(f:aD.den)(d:bS.den)(e i:Int):(H7 f d e i).satP PW:=
 fz (A:=λ(s:List bR.den)=>s.length<=9) ⟨rfl,by decide,by decide,by decide⟩
  (dk (step:=DN (Lq d e,f.1,i,bp.dflt) True) (λj (s:List bR.den)=>s.length<=j) (List.replicate 9 ()) (λj e s q m=>by
   have t:=Te q;have u:=ew;refine⟨WB t,λ_=>⟨?_,?_⟩,λ_=>Nat.le_succ_of_le m⟩;show s.length+1<=maxLen/\(s.length+1)*16<=140737488355328;omega;show(s++[_]).length<=j+1;rw[ub5];exact Nat.succ_le_succ m) [] (ue6 _)) (λ_ m=>m)
def PC(x:ag [.d aD,.d bS,.d i64]):(HV x).satP PW:=WE (t:=Jb _ _ _) ⟨λ_=>PA _ _ _ _,λ_=>PA _ _ _ _⟩ _ (by decide)
def AO:Ct:=⟨[.d aD,.d bS,.d i64],[bp],λx=>(HV x).get,λ_=>[]⟩
def qcj:af prog 36 AO:=bW qjf _ (λx _ _=>(cO (PC x)).1)
def qgn(x:ag [.d aD,.d bS,.d i64]):List.length (α:=bR.den) (AO.f x).1.2.2.1<=9:=(cO (PC x)).2
noncomputable def OZ:List (FuncId×Ct):=[(40,GH)]
noncomputable def YZ:Cx:=cW OZ [] (fU prog (cx [] []) Fl)
def M2:CxOK prog YZ:=cZ (cs:=OZ) aG ⟨qci,uT⟩ trivial (gG kq (lk (by kernel_rfl) qe))
abbrev yF:Pt:=⟨38,0,⟨[(14,.d i64),(13,.d i64),(12,.d (.sl zjv)),(1,.d i64)],[.x 2 59 aq,.r 2 2 0,.x 6 111 cK,.r 6 6 0]⟩,⟨[],[.x 6 111 cK,.r 6 6 0]⟩,⟨[(4,.d i64),(5,.d i64)],[]⟩⟩
abbrev Jf:Type:=Int×List zjv.den×Int×aq.den
def H3(k:Jf)(e:zjv.den):aa [i64,i64]:=GH.f (e.1,k.2.2.2.1,k.2.2.1,())
def DM(k:Jf)(b:Prop)(_i:Int)(e:zjv.den)(s:cK.den):Fr (cK.den ⊕ yF.R.X):=
 Jd b (Jd (bL e.1) (Jd (bJ k.2.2.2.1) (Jb ((H3 k e).2.1 != 0) (Jv (.inr ((0,(H3 k e).2.1,()),())))
  (nJ (λs1=>Jv (.inl s1)) (nX 0 (H3 k e).1 s)))))
def Z3:yF.M.X->Fr yF.Out:=FK (λx=>(x.1.1,(x.1.2.1,x.1.2.2.1,x.1.2.2.2.1,x.2.1),x.2.2.1)) (λk=>k.1) (λk=>k.2.1) DM (λ_ s=>((),s,())) (λ_ y=>Rd.back y) cK.dflt (aW _,bN _)
def qr1:ae prog (.loop (au f17 0)) yF.M yF Z3:=
 lm M2 (λi k s=>((i,k.1,k.2.1,k.2.2.1,()),k.2.2.2,s,())) zjv.dflt
def Jg(i:aq.den)(day:Int):Jf:=((List.length (α:=zjv.den) i.2.1:Int),i.2.1,day,i)
def Qf(x:ag [.d aq,.d i64]):Fr (aa [i64,i64]):=
 iY (InK (List.length (α:=zjv.den) x.1.2.1:Int) 0 (List.length (α:=zjv.den) x.1.2.1)) (eJ (DM (Jg x.1 x.2.1) True) 0 x.1.2.1 cK.dflt) (da (DM (Jg x.1 x.2.1) True) 0 x.1.2.1 cK.dflt) cK.dflt (aW _,bN _)
  (λs=>Jb s.2.1 (Jv (0,5,())) (Jd ((0:Int)<=0/\0<(6:Int)) (Jv ((uG s.1).getD (Int.toNat 0) 0,0,())))) (λy=>Jv y.1)
def qi9:af prog 17 (bg [.d aq,.d i64] [i64,i64] Qf):=
 cS M2 qr1 (fn:=f17)
def qgf(j:aq.den)(day:Int)(m:bD j):eJ (DM (Jg j day) True) 0 j.2.1 cK.dflt:=
 (nm (step:=DM (Jg j day) True) (λ_ _=>True) (λ_=>True) j.2.1 (λi e s q _=>
  ⟨uT,m.2.2.2 e (ubf q),m.1,λ_=>uT,λ_=>qg (Fr.satP_mono (λs1 _=>uT) (qo (by decide)))⟩) cK.dflt trivial).1
def GD:Ct:=⟨[.d aq,.d i64],[i64,i64],λx=>(Qf x).get,λx=>[bD x.1]⟩
def qce:af prog 17 GD:=bW qi9 _ (λx _ i=>
 ss (dI (uel i.2.1 (by decide))) (qgf x.1 x.2.1 i) (λs=>⟨λ_=>uT,λ_=>⟨by decide,uT⟩⟩) (λ_=>uT))
noncomputable def Pa:List (FuncId×Ct):=[(35,Gy),(34,Gh),(23,GG),(17,GD),(36,AO),(37,fA bR),(38,GF),(39,GL)]
noncomputable def M3:Cx:=cx Pa []
def zR:CxOK prog M3:=aP (cs:=Pa) aG ⟨qt7,qf0,qch,qce,qcj,qap,qcf,qcq,uT⟩ trivial
abbrev FE:List (Nat×PT):=[(28,.d i64),(27,.d i64),(26,.d (.sl aD)),(1,.d i64),(8,.d i64)]
abbrev NW:List MI:=[.x 4 52 bV,.r 4 4 0,.x 6 52 bV,.r 6 6 0,.x 7 76 bS,.r 7 7 0,.x 9 59 aq,.r 9 9 0]
abbrev NX:List MI:=NW++[.x 11 46 aD,.r 11 11 0,.x 14 76 bS,.r 14 14 0,.x 19 76 bS,.r 19 19 0]
abbrev vB:Pt:=⟨110,2,⟨(72,.d i64)::FE++[(16,.d i64)],NX⟩,⟨FE++[(16,.d i64)],NX⟩,⟨[],[]⟩⟩
abbrev uu:Type:=(Int×Int×List aD.den×Int×Int×Int)×bV.den×bV.den×bS.den×aq.den×aD.den×bS.den
def Ea(k:uu)(_b:Prop)(i:Int)(_e:Unit)(d:bS.den):Fr bS.den:=
 let a:=Int.toNat i;Jd (0<=i/\i<(6:Int)) (Jd (0<=i/\i<(6:Int)) (Jd (0<=i/\i<(6:Int)) (Jv (Vg d i (I6.wrap ((uG k.2.2.2.2.2.2).getD a 0-(uG k.2.2.2.1).getD a 0))))))
def Nn:vB.M.X->Fr vB.Out:=FG (λx=>(x.1.1,((x.1.2.1,x.1.2.2.1,x.1.2.2.2.1,x.1.2.2.2.2.1,x.1.2.2.2.2.2.1,x.1.2.2.2.2.2.2.1),x.2.1,x.2.2.1,x.2.2.2.1,x.2.2.2.2.1,x.2.2.2.2.2.1,x.2.2.2.2.2.2.1),x.2.2.2.2.2.2.2.1)) (λ_=>6) (λ_=>List.replicate 6 ()) Ea
 (λ(k:uu) d=>((k.1.1,k.1.2.1,k.1.2.2.1,k.1.2.2.2.1,k.1.2.2.2.2.1,k.1.2.2.2.2.2,()),(k.2.1,k.2.2.1,k.2.2.2.1,k.2.2.2.2.1,k.2.2.2.2.2.1,k.2.2.2.2.2.2,d,())))
noncomputable def RG:Code:=((Go.Ab.loopB (au f15 0) 0).getD .skip)
def qs1:ae prog (.loop RG) vB.M vB Nn:=
 cN zR (λi (k:uu) d=>((i,k.1.1,k.1.2.1,k.1.2.2.1,k.1.2.2.2.1,k.1.2.2.2.2.1,k.1.2.2.2.2.2,()),(k.2.1,k.2.2.1,k.2.2.2.1,k.2.2.2.2.1,k.2.2.2.2.2.1,k.2.2.2.2.2.2,d,()))) ()
def zee(Γ:Gm):St->Option Tr:=vB.han Γ vB.M Nn
abbrev rL:Pt:=⟨110,0,⟨FE,NW⟩,⟨[],[.x 4 52 bV,.r 4 4 0,.x 6 52 bV,.r 6 6 0]⟩,⟨[(5,.d i64)],[.x 4 52 bV,.r 4 4 0]⟩⟩
abbrev ur:Type:=Int×List aD.den×Int×bV.den
abbrev kZ:Type:=bV.den×bS.den×Int×aq.den
def Pr(i:aq.den)(f:aD.den):aa [aq,i64]:=Gh.f (i,f,())
def yY(i:aq.den):aa [bS,i64]:=GG.f (i,())
def edO(i:aq.den)(d:Int):aa [i64,i64]:=GD.f (i,d,())
def tM(f:aD.den)(d:bS.den)(m:Int):bp.den:=(AO.f (f,d,m,())).1
def Kj(b:bV.den)(x:bp.den):aa [bV,i64]:=GL.f (b,x,())
def qbl(x:bp.den):Bool:=((fA bR).f (x.2.2.1,λy=>GF.f y,())).1
def CK(e:Int):kZ ⊕ rL.R.X:=.inr ((e,()),bV.dflt,())
def Jn(k:ur)(i:Int)(f:aD.den)(s:kZ)(j:aq.den)(m b:Int):uu:=((i,k.1,k.2.1,k.2.2.1,b,m),k.2.2.2,s.1,s.2.1,j,f,(yY j).1)
def qum(k:uu):Prop:=bM (Ea k True) 0 (List.replicate 6 ()) bS.dflt
def qmf(k:uu):bS.den:=bO (Ea k True) 0 (List.replicate 6 ()) bS.dflt
def Kx(k:ur)(i:Int)(f:aD.den)(s:kZ)(j:aq.den)(m b:Int):Fr (kZ ⊕ rL.R.X):=
 cI (InK 6 0 6) (qum (Jn k i f s j m b)) (qmf (Jn k i f s j m b)) (λd=>
  Jb ((List.length (α:=bR.den) (tM f d m).2.2.1:Int)==0) (Jv (.inl (s.1,(yY j).1,b,j)))
   (Jd (∀ y:aa [bR],fi [bR] y->av ([]:List Prop)) (Jb (qbl (tM f d m)) (Jv (CK 5))
    (Jd (List.length (α:=bR.den) (tM f d m).2.2.1<=1000000) (Jb ((Kj s.1 (tM f d m)).2.1 != 0) (Jv (CK (Kj s.1 (tM f d m)).2.1))
     (Jv (.inl ((Kj s.1 (tM f d m)).1,(yY j).1,b,j))))))))
def DL(k:ur)(b:Prop)(i:Int)(f:aD.den)(s:kZ):Fr (kZ ⊕ rL.R.X):=
 let a:=Pr s.2.2.2 f;let c:=edO a.1 f.2.2.2.2.1;Jd b (Jb (J (f.1>k.2.2.1)) (Jv (.inl s)) (Jd (bD s.2.2.2) (Jb (a.2.1 != 0) (Jv (.inl s))
  (Jd (bD a.1) (Jd (ev (bq a.1)) (Jb ((yY a.1).2.1 != 0) (Jv (CK (yY a.1).2.1))
   (Jb (f.2.1==7)
    (Jd (bD a.1) (Jb (c.2.1 != 0) (Jv (CK c.2.1))
     (Kx k i f s a.1 (I6.wrap (c.1-s.2.2.1)) c.1)))
    (Kx k i f s a.1 0 s.2.2.1))))))))
def Z2:rL.M.X->Fr rL.Out:=FK (λx=>(x.1.1,((x.1.2.1,x.1.2.2.1,x.1.2.2.2.1,x.2.1):ur),((x.2.2.1,x.2.2.2.1,x.1.2.2.2.2.1,x.2.2.2.2.1):kZ))) (λk=>k.1) (λk=>k.2.1) DL (λk s=>((),k.2.2.2,s.1,())) (λ_ y=>Rd.back y) (bV.dflt,bS.dflt,0,aq.dflt) (aW _,bN _)
def qrw:ae prog (.loop (au f15 0)) rL.M rL Z2:=
 lm zR (λi k s=>((i,k.1,k.2.1,k.2.2.1,s.2.2.1,()),(k.2.2.2,s.1,s.2.1,s.2.2.2,()))) aD.dflt (Λ:=λ_=>zee M3.Γ) (hΛ:=λ_=>kP (by kernel_rfl) (b:=RG) (by kernel_rfl) (ae.han zR rfl qs1))
def Je(j:jourT.den)(day:Int):ur:=((List.length (α:=aD.den) j.2.1:Int),j.2.1,day,bV.dflt)
def DA(j:jourT.den):kZ:=(bV.dflt,bS.dflt,0,(Gy.f (j.1,())).1)
def Qg(x:ag [.d jourT,.d i64]):Fr (aa [bV,i64]):=
 iY (InK (List.length (α:=aD.den) x.1.2.1:Int) 0 (List.length (α:=aD.den) x.1.2.1)) (eJ (DL (Je x.1 x.2.1) True) 0 x.1.2.1 (DA x.1)) (da (DL (Je x.1 x.2.1) True) 0 x.1.2.1 (DA x.1)) (bV.dflt,bS.dflt,0,aq.dflt) (aW _,bN _)
  (λs=>Jv (s.1,0,())) (λy=>Jv (y.2.1,y.1.1,()))
def qjc:af prog 15 (bg [.d jourT,.d i64] [bV,i64] Qg):=
 cS zR qrw (fn:=f15)
def LE{e:Unit}(h:(List.replicate 6 ())[i]?= U e):0<=(i:Int)/\(i:Int)<6:=by
 have:=(uak.1 h).1;rw[List.length_replicate]at this;omega
def U3(k:ur)(i:Int)(j:Nat)(f:aD.den)(s:kZ)(t:aq.den)(m b:Int)(h:oO t):(Kx k i f s t m b).satP (my ((λ_ (s:kZ)=>oO s.2.2.2) j) (λ_=>True)):=
 fz (A:=λ_=>True) ⟨rfl,by decide,by decide,by decide⟩ ⟨(dk (step:=Ea (Jn k i f s t m b) True) (λ_ _=>True) (List.replicate 6 ()) (λj e s q _=>⟨LE q,LE q,LE q,uT⟩) bS.dflt trivial).1,uT⟩
  (λd _=>⟨λ_=>h,λ_=>⟨λ_ _=>uT,λ_=>uT,λ_=>⟨uel (qgn _) (by decide),λ_=>uT,λ_=>h⟩⟩⟩)
def qqc(j:jourT.den)(day:Int)(t:bJ j.1):eJ (DL (Je j day) True) 0 j.2.1 (DA j):=
 (nm (step:=DL (Je j day) True) (λ_ (s:kZ)=>oO s.2.2.2) (λ_=>True) j.2.1 (λi f s u q=>by
  refine⟨uT,λ_=>q,λ_=>⟨q.1,λ_=>q,λh0=>?_⟩⟩;have h0:(jY s.2.2.2 f).2=0:=by
   have h:((jY s.2.2.2 f).2 != 0)=false:=h0;simpa using h
  have m:oO (Pr s.2.2.2 f).1:=qht f q h0;exact⟨m.1,qhr m,λ_=>uT,λ_=>⟨λ_=>⟨m.1,λ_=>uT,λ_=>U3 _ _ (i+1) _ _ _ _ _ m⟩,λ_=>U3 _ _ (i+1) _ _ _ _ _ m⟩⟩) (DA j) (qhs t)).1
def GE:Ct:=⟨[.d jourT,.d i64],[bV,i64],λx=>(Qg x).get,λx=>[bJ x.1.1]⟩
def qcg:af prog 15 GE:=bW qjc _ (λx hw i=>ss (gt hw.1.2.1.1) (qqc x.1 x.2.1 i) (λ_=>uT) (λ_=>uT))
noncomputable def zgq:Cx:=cx [(32,tC),(49,GI)] []
def zgr:CxOK prog zgq:=aP aG ⟨O4,qcm,uT⟩ trivial
def zf8(x:ag [.d aq]):Fr (aa [.sl ay,i64]):=
 Jd (bD x.1) (Jd (ev (bq x.1)) (Jb ((gE x.1).2.1 != 0) (Jv ([],(gE x.1).2.1,()))
  (Jd (List.length (α:=aJ.den) (gE x.1).1<=List.length (α:=ar.den) (bq x.1)) (Jd (List.length (α:=aJ.den) (gE x.1).1<=1000000) (Jv (J2 x.1,0,()))))))
def zhg:af prog 33 (bg [.d aq] [.sl ay,i64] zf8):=
 aS zgr f33
def zf3:Ct:=⟨[.d aq],[.sl ay,i64],λx=>(zf8 x).get,λx=>[bD x.1,ev (bq x.1)]⟩
def zg4:af prog 33 zf3:=bW zhg _ (λx _ i=>⟨i.1,i.2,λ_=>uT,λm=>by
 have h0:(gE x.1).2.1=0:=by simpa using m
 have j:=qkt x.1 i.1 i.2 h0;exact⟨Nat.le_of_eq j,by rw[show List.length (α:=aJ.den) (gE x.1).1=_ from j];exact uel i.1.2.2.1 (by decide),uT⟩⟩)
abbrev nTm:dm.den:=((0,0,()),(0,0,0,0,()),[],())
abbrev nCh:az.den:=(0,0,0,(0,0,0,0,()),[],0,())
abbrev nCl:dD.den:=(0,0,0,0,0,0,())
abbrev nAc:bn.den:=(0,0,0,())
abbrev nTr:ah.den:=(0,0,(0,0,()),0,0,0,0,0,())
def zey:jourT.den:=(([(1,(10000,0,0,0,()),[],[10000],[10000,10000,10000,10000,10000,10000,10000,10000],0,())],()),
 [(5,1,1,0,0,((1,101,()),(0,36500,0,0,()),[(1,1000,1500,100,10000,())],()),nCh,nCl,nAc,nTr,()),(7,3,1,4000,0,nTm,nCh,nCl,nAc,nTr,()),(9,4,0,0,0,nTm,nCh,(3,1,1,8,9,0,()),nAc,nTr,()),(10,5,3,0,0,nTm,nCh,nCl,(10,1,900,()),nTr,()),
 (11,5,3,0,0,nTm,nCh,nCl,(11,2,700,()),nTr,()),(12,6,0,0,0,nTm,nCh,nCl,nAc,(2,1,(1,101,()),5000,0,0,0,255,()),()),(20,7,0,0,20,nTm,nCh,nCl,nAc,nTr,())],())
def zf1:Ct:=⟨[],[jourT],λ_=>(zey,()),λ_=>[]⟩
def zh0:af prog 31 zf1:=
 conv (aS aH f31 (fr:=λ_=>Jv (zey,())) (ps:=[]) (rs:=[jourT])) _ _ (λ_ _ _ _ _ _=>⟨uT,rfl⟩)
noncomputable def zf5:List (FuncId×Ct):=[(31,zf1),(15,GE),(16,zfq),(23,GG),(32,tC),(33,zf3),(17,GD),(22,GM)]
noncomputable def zgs:Cx:=cx zf5 []
def zgt:CxOK prog zgs:=aP (cs:=zf5) aG ⟨zh0,qcg,zhw,qch,O4,zg4,qce,qcr,uT⟩ trivial
def zfn:aq.den:=(zfq.f (zey,99,())).1
def zhn(_:ag []):Fr (aa [.bool]):=
 let t:=λ(x:Fr (aa [.bool]))=>Jd (bD zfn) (Jd (ev (bq zfn)) x)
 Jd (bJ zey.1) (Jd (bJ zey.1) (t (t (t (Jd (bD zfn) (Jd (bJ zey.1) (Jd (Z=Z->(0:Int)<=0/\(0:Int)<1) (Jd (Z=Z->(0:Int)<=0/\(0:Int)<1) (Jv (Z,()))))))))))
def zg2:af prog 13 (bg [] [.bool] zhn):=
 aS zgt f13
def zg8:oO zfn:=by
 unfold oO bD fE bJ bL LC;decide +kernel
def zfs:bJ zey.1:=by
 unfold bJ LC;decide +kernel
def zf2:Ct:=⟨[],[.bool],λ_=>(Z,()),λ_=>[]⟩
def zg1:af prog 13 zf2:=conv zg2 _ _ (λ_ _ _ _ _ _=>by
 have h:=zg8;have i:=qhr h;exact⟨⟨zfs,zfs,h.1,i,h.1,i,h.1,i,h.1,zfs,λ_=>by decide,λ_=>by decide,uT⟩,rfl⟩)
def zf0:Ct:=⟨[.d jourT],[.bool],λx=>(mX x.1 30,()),λ_=>[]⟩
noncomputable def zgu:Cx:=cx [(26,Oo)] []
def zgv:CxOK prog zgu:=aP aG ⟨qhq,uT⟩ trivial
def zg7:af prog 12 zf0:=
 conv (aS zgv f12 (fr:=λx=>Jv (mX x.1 30,())) (ps:=[.d jourT]) (rs:=[.bool])) _ _ (λ_ _ _ _ _ _=>⟨uT,rfl⟩)
def zfi(l:List T)(i:Int->T->Unit->Fr (Unit ⊕ ((Bool×Unit)×Unit)))(K:Fr (aa [.bool])):Fr (aa [.bool]):=
 Jd (InK (l.length:Int) 0 l.length) (Jd (eJ i 0 l ()) (Jb (dF (da i 0 l ())) K (Jv ((zej ((Y,()),()) (da i 0 l ())).1.1,()))))
def zf7{j:Int->T->Unit->Fr (Unit ⊕ ρ)}{l2:List T}{d:T}(h:∀ i e,0<=i/\i<(l2.length:Int)->l2.getD i.toNat d=e->(j i e ()).ok/\(j i e ()).get=.inl ()):(l p:List T)->(i:Int)->i=(p.length:Int)->l2=p++l->eJ j i l ()/\da j i l ()=.inl ()
 |[],_,_,_,_=>⟨uT,rfl⟩
 |e::l,p,i,hi,m=>by
  have w:l2.length=p.length+(e::l).length:=by rw[m,ub5]
  rw[uc7]at w;have u:l2.getD (Int.toNat i) d=e:=by
   rw[m,hi,ucz,uah,uae (ue6 _),Nat.sub_self];rfl
  have q:=zf7 h l (p++[e]) (i+1) (by rw[ub5,ua7];omega) (by rw[m,ucq];rfl);have t:=h i e (by omega) u;unfold eJ da;rw[t.2];exact⟨⟨t.1,q.1⟩,q.2⟩
def tR{j:Int->T->Unit->Fr (Unit ⊕ ((Bool×Unit)×Unit))}{l:List T}{d:T}{K:Fr (aa [.bool])}(q:(l.length:Int)<=9223372036854775807)(h:∀ i e,0<=i/\i<(l.length:Int)->l.getD i.toNat d=e->(j i e ()).ok/\(j i e ()).get=.inl ())(m:K.ok/\K.get=(Z,())):(zfi l j K).ok/\(zfi l j K).get=(Z,()):=by
 have hg:=zf7 h l [] 0 rfl rfl;refine aF ⟨rfl,ue7 _,ub3 _,q⟩ (aF hg.1 ?_);rw[hg.2];exact aZ rfl m
def ze1(day:Int)(f:aD.den)(s:kZ):kZ ⊕ rL.R.X:=(DL (0,[],day,bV.dflt) True 0 f s).get
def zh7(k:ur)(i:Int)(f:aD.den)(s:kZ):(DL k True i f s).get=ze1 k.2.2.1 f s:=rfl
def goV(day:Int):List aD.den->kZ->kZ ⊕ rL.R.X
 |[],s=>.inl s
 |f::l,s=>match ze1 day f s with
  |.inl i=>goV day l i
  |.inr y=>.inr y
def zga(k:ur):(l:List aD.den)->(i:Int)->(s:kZ)->da (DL k True) i l s=goV k.2.2.1 l s
 |[],_,_=>rfl
 |f::l,i,s=>by
  unfold da goV;rw[zh7];cases ze1 k.2.2.1 f s with
  |inl j=>exact zga k l _ j
  |inr y=>rfl
def zfv:kZ ⊕ rL.R.X->aa [bV,i64]
 |.inl s=>(s.1,0,())
 |.inr y=>(y.2.1,y.1.1,())
def zep(j:jourT.den)(day:Int):aa [bV,i64]:=GE.f (j,day,())
def zgf(j:jourT.den)(day:Int):zep j day=zfv (goV day j.2.1 (DA j)):=by
 show(Qg (j,day,())).get=_;unfold Qg;rw[show goV day j.2.1 (DA j)=da (DL (Je j day) True) 0 j.2.1 (DA j) from (zga (Je j day) j.2.1 0 (DA j)).symm];dsimp only;cases da (DL (Je j day) True) 0 j.2.1 (DA j)<;>rfl
def gP(Q:α->Prop):Fr α->Prop
 |.val x=>Q x
 |.br b x y=>(b=Z->gP Q x)/\(b=Y->gP Q y)
 |.need _ x=>gP Q x
def zid{Q:α->Prop}:{f:Fr α}->gP Q f->Q f.get
 |.val _,h=>h
 |.br b x y,h=>by
  show Q (if b=Z then x.get else y.get);cases b;exact zid (f:=y) (h.2 rfl);exact zid (f:=x) (h.1 rfl)
 |.need _ x,h=>zid (f:=x) h
def ne0{n:Int}(h:(n != 0)=Z):n≠0:=by simpa using h
def eq0{n:Int}(h:(n != 0)=Y):n=0:=by simpa using h
def zjo{b:bV.den}{x:bp.den}(h:(Kj b x).2.1=0):(Kj b x).1=(b.1++[x],()):=by
 have key:gP (λy=>y.2.1=0->y.1=(b.1++[x],())) (BI (b,x,())):=by
  refine⟨λ_ (h:(1:Int)=0)=>absurd h (by decide),λ_=>⟨λ_ (h:(13:Int)=0)=>absurd h (by decide),λ_=>⟨λ_ (h:(2:Int)=0)=>absurd h (by decide),λ_=>⟨λ_ (h:(4:Int)=0)=>absurd h (by decide),λ_ _=>?_⟩⟩⟩⟩;show(List.take ((List.length (α:=bp.den) b.1:Int)-0).toNat (List.drop 0 b.1)++[x],())=_;rw[uec,ua3 (by omega)]
 exact zid key h
def zjj(f:aD.den)(d:bS.den)(m:Int):(tM f d m).1=f.1:=by
 have key:gP (λy=>y.1.1=f.1) (HV (f,d,m,())):=⟨λ_=>rfl,λ_=>rfl⟩;exact zid key
def zir(f:aD.den)(s:kZ):Fr (kZ ⊕ rL.R.X):=
 Jd (bD s.2.2.2) (Jb ((Pr s.2.2.2 f).2.1 != 0) (Jv (.inl s))
  (Jd (bD (Pr s.2.2.2 f).1) (Jd (ev (bq (Pr s.2.2.2 f).1)) (Jb ((yY (Pr s.2.2.2 f).1).2.1 != 0) (Jv (CK (yY (Pr s.2.2.2 f).1).2.1))
   (Jb (f.2.1==7)
    (Jd (bD (Pr s.2.2.2 f).1) (Jb ((edO (Pr s.2.2.2 f).1 f.2.2.2.2.1).2.1 != 0) (Jv (CK (edO (Pr s.2.2.2 f).1 f.2.2.2.2.1).2.1))
     (Kx (0,[],0,bV.dflt) 0 f s (Pr s.2.2.2 f).1 (I6.wrap ((edO (Pr s.2.2.2 f).1 f.2.2.2.2.1).1-s.2.2.1)) (edO (Pr s.2.2.2 f).1 f.2.2.2.2.1).1)))
    (Kx (0,[],0,bV.dflt) 0 f s (Pr s.2.2.2 f).1 0 s.2.2.1))))))
def zja(day:Int)(f:aD.den)(s:kZ):ze1 day f s=if J (f.1>day)=Z then .inl s else (zir f s).get:=rfl
def grE(f:aD.den)(s:kZ):kZ ⊕ rL.R.X->Prop
 |.inl i=>i.1=s.1 \/ ∃ x:bp.den,x.1=f.1/\i.1=(s.1.1++[x],())
 |.inr y=>y.1.1≠0
def zi8(f:aD.den)(s:kZ)(i:aq.den)(m b:Int):gP (grE f s) (Kx (0,[],0,bV.dflt) 0 f s i m b):=
 ⟨λ_=>.inl rfl,λ_=>⟨λ_=>(by decide:(5:Int)≠0),λ_=>⟨λh=>ne0 h,λh=>.inr ⟨_,zjj _ _ _,zjo (eq0 h)⟩⟩⟩⟩
def zi7(f:aD.den)(s:kZ):gP (grE f s) (zir f s):=
 ⟨λ_=>.inl rfl,λ_=>⟨λh=>ne0 h,λ_=>⟨λ_=>⟨λh=>ne0 h,λ_=>zi8 _ _ _ _ _⟩,λ_=>zi8 _ _ _ _ _⟩⟩⟩
def zi9(day:Int)(f:aD.den)(s:kZ):grE f s (ze1 day f s):=by
 rw[zja];split;exact .inl rfl;exact zid (zi7 f s)
def ziv{step:Int->T->σ->Fr σ}{g:σ->T->σ}(h:∀ i e s,(step i e s).get=g s e):(l:List T)->(i:Int)->(s:σ)->bO step i l s=l.foldl g s
 |[],_,_=>rfl
 |e::l,i,s=>by
  show bO step (i+1) l (step i e s).get=l.foldl g (g s e);rw[h];exact ziv h l _ _
def lnV(i:Int)(s:Int)(x:bR.den):Int:=if (x.1==i)=Z then I6.wrap (s+x.2.1)else s
def enV(i d:Int)(s:Int)(e:bp.den):Int:=if (!(J (e.1<=d)))=Z then s else (uC e).foldl (lnV i) s
def zih(l:List bp.den)(i d:Int):Int:=l.foldl (enV i d) 0
def ziy(b:bV.den)(j d:Int):(GK.f (b,j,d,())).1=zih b.1 j d:=by
 show bO (KX (RX ((b.1,()),j,λx=>AR.f (x.1,d,()),())) True) 0 b.1 0=_;refine ziv (λi e s=>?_) _ _ _;show(if (!(J (e.1<=d)))=Z then s else bO (V0 (kIn (RX ((b.1,()),j,λx=>AR.f (x.1,d,()),())) i e) True) 0 (uC e) s)=enV j d s e;rw[ziv (g:=lnV j) (λ_ _ _=>rfl)];rfl
def zic(b:bV.den)(d:Int):dw.den:=(GM.f (b,d,())).1
def zk2(n:Int):I6.wrap n%(18446744073709551616:Int)=n%(18446744073709551616:Int):=by rw[udd];omega
def zlk{n:Int}(h:n%(18446744073709551616:Int)=0):I6.wrap n=0:=by rw[udd];omega
def lnZ(i:Int):List bR.den->Int
 |[]=>0
 |x::l=>(if (x.1==i)=Z then x.2.1 else 0)+lnZ i l
def zj1:List bR.den->Int
 |[]=>0
 |x::l=>x.2.1+zj1 l
def zku(i:Int):(l:List bR.den)->(s:Int)->(l.foldl (lnV i) s)%(18446744073709551616:Int)=(s+lnZ i l)%(18446744073709551616:Int)
 |[],s=>by show s%(18446744073709551616:Int)=(s+0)%(18446744073709551616:Int);rw[ue1]
 |x::l,s=>by
  show(l.foldl (lnV i) (lnV i s x))%(18446744073709551616:Int)=(s+((if (x.1==i)=Z then x.2.1 else 0)+lnZ i l))%(18446744073709551616:Int);rw[zku i l];unfold lnV;split;have:=zk2 (s+x.2.1);generalize I6.wrap (s+x.2.1)=w at *;generalize lnZ i l=z at *;change (w+z)%(18446744073709551616:Int)=(s+((x.2.1:Int)+z))%(18446744073709551616:Int);generalize (x.2.1:Int)=a at *;omega;rw[Int.zero_add]
def enZ(i d:Int):List bp.den->Int
 |[]=>0
 |e::l=>(if (!(J (e.1<=d)))=Z then 0 else lnZ i (uC e))+enZ i d l
def zkq(i d:Int):(l:List bp.den)->(s:Int)->(l.foldl (enV i d) s)%(18446744073709551616:Int)=(s+enZ i d l)%(18446744073709551616:Int)
 |[],s=>by show s%(18446744073709551616:Int)=(s+0)%(18446744073709551616:Int);rw[ue1]
 |e::l,s=>by
  show(l.foldl (enV i d) (enV i d s e))%(18446744073709551616:Int)=(s+((if (!(J (e.1<=d)))=Z then 0 else lnZ i (uC e))+enZ i d l))%(18446744073709551616:Int);rw[zkq i d l];unfold enV;split;rw[Int.zero_add];have:=zku i (uC e) s;generalize (uC e).foldl (lnV i) s=w at *;generalize lnZ i (uC e)=y at *;generalize enZ i d l=z at *;omega
def zk4(l:List bp.den)(i d:Int):zih l i d%(18446744073709551616:Int)=enZ i d l%(18446744073709551616:Int):=by
 have:=zkq i d l 0
 rwa [Int.zero_add]at this
def zj5(g:Int->Int):Int:=g 1+g 2+g 3+g 4+g 5+g 6+g 7+g 8+g 9
def zky:(l:List bR.den)->(∀ x∈l,1<=x.1/\x.1<=9)->zj5 (λa=>lnZ a l)=zj1 l
 |[],_=>rfl
 |x::l,h=>by
  have m:=zky l λy j=>h y (ubi _ j);have i:=h x ucb;show zj5 (λa=>(if (x.1==a)=Z then x.2.1 else 0)+lnZ a l)=x.2.1+zj1 l;rw[<- m];unfold zj5;have key:∀ (k v:Int) (f:Int->Int),1<=k/\k<=9->((if (k==1)=Z then v else 0)+f 1)+((if (k==2)=Z then v else 0)+f 2)+((if (k==3)=Z then v else 0)+f 3)+((if (k==4)=Z then v else 0)+f 4)+((if (k==5)=Z then v else 0)+f 5)+((if (k==6)=Z then v else 0)+f 6)+((if (k==7)=Z then v else 0)+f 7)+((if (k==8)=Z then v else 0)+f 8)+((if (k==9)=Z then v else 0)+f 9)=v+(f 1+f 2+f 3+f 4+f 5+f 6+f 7+f 8+f 9):=by
   intro k v f q;obtain rfl|rfl|rfl|rfl|rfl|rfl|rfl|rfl|rfl:k=1\/k=2\/k=3\/k=4\/k=5\/k=6\/k=7\/k=8\/k=9:=by omega
   all_goals
    simp only[Int.reduceBEq,ub2,ufn,beq_self_eq_true,if_true];omega
  exact key x.1 x.2.1 (λa=>lnZ a l) i
def zj9(e:bp.den):Prop:=(AS.f (e,())).2.1=Z/\(AS.f (e,())).1=0
def zkr(k:Int×(List bR.den)×bp.den):(l:List bR.den)->(i:Int)->(s j:Int×Int)->0<=s.2->da (Ld k True) i l s=.inl j->(∀ x∈l,1<=x.1/\x.1<=9)/\j.1%(18446744073709551616:Int)=(s.1+zj1 l)%(18446744073709551616:Int)
 |[],_,s,j,_,h=>by
  cases h;exact⟨λ_ h=>(nomatch h),by show _=(s.1+0)%(18446744073709551616:Int);rw[ue1]⟩
 |x::l,i,s,j,h0,h=>by
  unfold da at h;have hg:(Ld k True i x s).get=if (bif bif bif bif J (x.1<=s.2)then Z else J (x.1>9)then Z else x.2.1==0 then Z else J (x.2.1 < -1000000000000000)then Z else J (x.2.1>1000000000000000))=Z then .inr ((0,Y,()),())else .inl (I6.wrap (s.1+x.2.1),x.1):=rfl
  rw[hg]at h;by_cases hb:(bif bif bif bif J (x.1<=s.2)then Z else J (x.1>9)then Z else x.2.1==0 then Z else J (x.2.1 < -1000000000000000)then Z else J (x.2.1>1000000000000000))=Z;rw[if_pos hb]at h;cases h;rw[if_neg hb]at h;simp only[NS,udq,not_or,uct]at hb;obtain⟨⟨⟨⟨H,N⟩,_⟩,_⟩,_⟩:=hb;have m:1<=x.1/\x.1<=9:=by
   have q:s.2<x.1:=Int.not_le.1 H;have t:x.1<=9:=ufg.1 N;exact⟨Int.lt_of_le_of_lt h0 q,t⟩
  obtain⟨C,F⟩:=zkr k l (i+1) _ j (by show 0<=x.1;exact ue0 (by decide) m.1) h;refine⟨λy O=>(uef.1 O).elim (λe=>by rw[e];exact m) (C y),?_⟩;have hw:=zk2 (s.1+x.2.1);show j.1%(18446744073709551616:Int)=(s.1+(x.2.1+zj1 l))%(18446744073709551616:Int);rw[F];show(I6.wrap (s.1+x.2.1)+zj1 l)%(18446744073709551616:Int)=_;generalize I6.wrap (s.1+x.2.1)=w at *;generalize zj1 l=z at *;generalize s.1=u at *;change (w+z)%(18446744073709551616:Int)=(u+((x.2.1:Int)+z))%(18446744073709551616:Int);generalize (x.2.1:Int)=a at *;omega
def zlc{q:Prop}{g:σ ⊕ ρ}{d:σ}{i:ρ}{k:σ->Fr α}{r:ρ->Fr α}:(iY p q g d i k r).get=match g with
  |.inl s=>(k s).get
  |.inr y=>(r y).get:=by cases g<;>rfl
def zk9{e:bp.den}(h:zj9 e):(∀ x∈uC e,1<=x.1/\x.1<=9)/\zj1 (uC e)%(18446744073709551616:Int)=0:=by
 obtain⟨m,q⟩:=h;rw[show AS.f (e,())=(HX (e,())).get from rfl]at m q;unfold HX at m q;rw[zlc]at m q;split at m;rename_i s hg;rw[hg]at q;obtain⟨w,u⟩:=zkr _ _ _ _ s (ue7 0) hg;refine⟨w,?_⟩;have C:s.1=0:=q;rw[C,Int.zero_add]at u;exact u.symm;rename_i y hg;exfalso;have F:∀ (l:List bR.den) (i:Int) (s:Int×Int) z,da (Ld (((uC e).length:Int),uC e,e) True) i l s=.inr z->z=((0,Y,()),()):=by
  intro l
  induction l with
  |nil=>intro i s z h;cases h
  |cons x l H=>
   intro i s z h;unfold da at h;have t:(Ld (((uC e).length:Int),uC e,e) True i x s).get=if (bif bif bif bif J (x.1<=s.2)then Z else J (x.1>9)then Z else x.2.1==0 then Z else J (x.2.1 < -1000000000000000)then Z else J (x.2.1>1000000000000000))=Z then .inr ((0,Y,()),())else .inl (I6.wrap (s.1+x.2.1),x.1):=rfl
   rw[t]at h;split at h;rename_i j;split at j;cases j;cases j;exact H _ _ _ h;rename_i j;split at j;cases j;cases h;rfl;cases j
 have:=F _ _ _ _ hg;subst this;cases m
def zkg:Ct:=⟨[.d bp],[.bool],λx=>((bif (AS.f (x.1,())).2.1 then (AS.f (x.1,())).1==0 else Y),()),λ_=>[]⟩
def zle:af prog 24 zkg:=
 conv (aS YT f24 (fr:=λx=>Jv ((bif (AS.f (x.1,())).2.1 then (AS.f (x.1,())).1==0 else Y),())) (ps:=[.d bp]) (rs:=[.bool])) _ _ (λ_ _ _ _ _ _=>⟨uT,rfl⟩)
noncomputable def zkp:List (FuncId×Ct):=[(12,zf0),(13,zf2),(15,GE),(22,GM),(24,zkg)]
noncomputable def zkn:Cx:=cx zkp []
def zke:CxOK prog zkn:=aP (cs:=zkp) aG ⟨zg7,zg1,qcg,qcr,zle,uT⟩ trivial
abbrev lzM:List MI:=[.x 5 52 bV,.r 5 5 0]
abbrev lzN:List MI:=lzM++[.x 8 71 bp,.r 8 8 0]
abbrev lzV:List (Nat×PT):=[(34,.d i64),(33,.d i64),(32,.d (.sl bp)),(1,.d i64)]
abbrev zka:Pt:=⟨81,2,⟨(43,.d i64)::(42,.d dw)::(9,.d i64)::(7,.d i64)::lzV,lzN⟩,⟨(9,.d i64)::(7,.d i64)::lzV,lzN⟩,⟨[],[]⟩⟩
abbrev kLi:Type:=(dw.den×Int×Int×Int×List bp.den×Int)×bV.den×bp.den
def zj6(k:kLi)(_b:Prop)(i:Int)(_e:Unit)(s:Int):Fr Int:=Jd (0<=i/\i<(10:Int)) (Jv (I6.wrap (s+(rx k.1.1).getD (Int.toNat i) 0)))
def zko:zka.M.X->Fr zka.Out:=FG (λx=>(x.1.1,(((x.1.2.1,x.1.2.2.2.1,x.1.2.2.2.2.1,x.1.2.2.2.2.2.1,x.1.2.2.2.2.2.2.1,x.1.2.2.2.2.2.2.2.1),x.2.1,x.2.2.1):kLi),x.1.2.2.1)) (λ_=>10) (λ_=>List.replicate 10 ()) zj6
 (λ(k:kLi) s=>((s,k.1.2.1,k.1.2.2.1,k.1.2.2.2.1,k.1.2.2.2.2.1,k.1.2.2.2.2.2,()),(k.2.1,k.2.2,())))
noncomputable def zkt:Code:=((Go.Ab.loopB (au f8 0) 0).getD .skip)
def zla:ae prog (.loop zkt) zka.M zka zko:=
 cN zke (λi (k:kLi) s=>((i,k.1.1,s,k.1.2.1,k.1.2.2.1,k.1.2.2.2.1,k.1.2.2.2.2.1,k.1.2.2.2.2.2,()),(k.2.1,k.2.2,()))) ()
abbrev zkd:Pt:=⟨81,0,⟨lzV,lzM⟩,⟨[],[]⟩,⟨[(4,.d .bool)],[]⟩⟩
def zjw(b:bV.den):List bp.den:=b.1
abbrev kLo:Type:=Int×List bp.den×Int×bV.den
def zkh(k:kLo)(i:Int)(e:bp.den):kLi:=((zic k.2.2.2 e.1,i,i,k.1,k.2.1,k.2.2.1),k.2.2.2,e)
def zkf(day:Int)(e:bp.den)(S:Int):Bool:=bif bif !((zkg.f (e,())).1)then Z else J (e.1>day)then Z else S != 0
def zkb(k:kLo)(b:Prop)(i:Int)(e:bp.den)(_s:Unit):Fr (Unit ⊕ zkd.R.X):=
 let d:=zjw k.2.2.2;let c:=List.replicate 10 ();let a:=zj6 (zkh k i e) True;Jd b (cI (InK 10 0 10) (bM a 0 c 0) (bO a 0 c 0) (λS=>
  Jd (J (i>0)=Z->zkf k.2.2.1 e S=Y->0<=I6.wrap (i-1)/\I6.wrap (i-1)<(d.length:Int))
   (Jb (bif zkf k.2.2.1 e S then Z else bif J (i>0)then J (e.1<(d.getD (I6.wrap (i-1)).toNat bp.dflt).1)else Y) (Jv (.inr ((Y,()),()))) (Jv (.inl ())))))
def zk3:zkd.M.X->Fr zkd.Out:=FK (λx=>(x.1.1,((x.1.2.1,x.1.2.2.1,x.1.2.2.2.1,x.2.1):kLo),())) (λk=>k.1) (λk=>k.2.1) zkb (λ_ _=>((),())) (λ_ y=>Rd.back y) () (aW _,bN _)
def zlb:ae prog (.loop (au f8 0)) zkd.M zkd zk3:=
 lm zke (λi (k:kLo) _=>((i,k.1,k.2.1,k.2.2.1,()),(k.2.2.2,()))) bp.dflt (Λ:=λ_=>zka.han zkn.Γ zka.M zko) (hΛ:=λ_=>kP (by kernel_rfl) (b:=zkt) (by kernel_rfl) (ae.han zke rfl zla))
def zj0(b:bV.den)(day:Int):kLo:=(((zjw b).length:Int),zjw b,day,b)
def zkj(x:ag [.d jourT,.d i64]):Fr (aa [.bool]):=
 let a:=zep x.1 x.2.1;let c:=zkb (zj0 a.1 x.2.1) True;let b:=zjw a.1;let g:=(b.length:Int);Jb (!(mX x.1 30)) (Jv (Z,())) (Jd (bJ x.1.1) (Jb (a.2.1 != 0) (Jv (bif Z then g==0 else Y,()))
  (iY (InK g 0 b.length) (eJ c 0 b ()) (da c 0 b ()) () (aW _,bN _)
   (λ_=>Jv (Z,())) (λy=>Jv y.1))))
def zk6:af prog 8 (bg [.d jourT,.d i64] [.bool] zkj):=
 cS zke zlb (fn:=f8)
structure goodB (day:Int) (l:List bp.den):Prop where
 good:∀ e∈l,zj9 e/\e.1<=day
 sort:l.Pairwise (λa b=>a.1<=b.1)
def zlf{b:bV.den}{x:bp.den}(h:(Kj b x).2.1=0):zj9 x/\∀ (m:0<(zjw b).length),((zjw b)[(zjw b).length-1]'(by omega)).1<=x.1:=by
 have key:gP (λy=>y.2.1=0->zj9 x/\∀ (m:0<(zjw b).length),((zjw b)[(zjw b).length-1]'(by omega)).1<=x.1) (BI (b,x,())):=by
  refine⟨λ_ (h:(1:Int)=0)=>absurd h (by decide),λq=>⟨λ_ (h:(13:Int)=0)=>absurd h (by decide),λt=>⟨λ_ (h:(2:Int)=0)=>absurd h (by decide),λj=>⟨λ_ (h:(4:Int)=0)=>absurd h (by decide),λi _=>⟨⟨by simpa using q,eq0 t⟩,λm=>?_⟩⟩⟩⟩⟩;have j:¬ ((zjw b).length:Int)>=2000:=ucg j;have i:(bif J (((zjw b).length:Int)>0)then J (x.1<((zjw b).getD (I6.wrap (((zjw b).length:Int)-1)).toNat bp.dflt).1)else Y)=false:=i;have hw:I6.wrap (((zjw b).length:Int)-1)=(((zjw b).length-1:Nat):Int):=by
   rw[IntWalk.i64_in _ (by omega)];omega
  rw[ud7 (by omega:((zjw b).length:Int)>0),hw,ucz,uah,uaq (by omega)]at i;exact ufg.1 (ucg i)
 exact zid key h
def zk7{b:bV.den}{x:bp.den}(hb:goodB day (zjw b))(h:(Kj b x).2.1=0)(w:x.1<=day):goodB day (zjw b++[x]):=by
 obtain⟨q,t⟩:=zlf h;refine⟨λe j=>(udp.1 j).elim (hb.good e) (λj=>by rw[uce.1 j];exact⟨q,w⟩),ubo.2 ⟨hb.sort,uay _ _,λa u c hc=>?_⟩⟩;rw[uce.1 hc];obtain⟨i,hi,rfl⟩:=List.getElem_of_mem u;have m:=t (by omega);by_cases e:i=(zjw b).length-1;subst e;exact m;exact ue0 (uan.1 hb.sort i ((zjw b).length-1) hi (by omega) (by omega)) m
def grZ(day:Int):kZ ⊕ rL.R.X->Prop
 |.inl s=>goodB day (zjw s.1)
 |.inr y=>y.1.1≠0/\y.2.1=bV.dflt
def zk0{f:aD.den}{s:kZ}(q:aq.den)(m b:Int)(i:goodB day (zjw s.1))(j:f.1<=day):gP (grZ day) (Kx (0,[],0,bV.dflt) 0 f s q m b):=
 ⟨λ_=>i,λ_=>⟨λ_=>⟨(by decide:(5:Int)≠0),rfl⟩,λ_=>⟨λh=>⟨ne0 h,rfl⟩,λh=>by
  show goodB day (zjw (Kj s.1 _).1);rw[zjo (eq0 h)];exact zk7 i (eq0 h) (by rw[zjj];exact j)⟩⟩⟩
def zkz{f:aD.den}{s:kZ}(i:goodB day (zjw s.1))(j:f.1<=day):gP (grZ day) (zir f s):=
 ⟨λ_=>i,λ_=>⟨λh=>⟨ne0 h,rfl⟩,λ_=>⟨λ_=>⟨λh=>⟨ne0 h,rfl⟩,λ_=>zk0 _ _ _ i j⟩,λ_=>zk0 _ _ _ i j⟩⟩⟩
def zkk(day:Int):(l:List aD.den)->(s:kZ)->goodB day (zjw s.1)->grZ day (goV day l s)
 |[],_,h=>h
 |f::l,s,h=>by
  unfold goV;rw[zja];split;rename_i s1 i;split at i;cases i;exact zkk day l s h;rename_i j;have:=zid (zkz (f:=f) h (by have:=j;simp only[uct]at this;exact ufg.1 this));rw[i]at this;exact zkk day l s1 this;rename_i y i;split at i;cases i;rename_i j;have:=zid (zkz (f:=f) h (by have:=j;simp only[uct]at this;exact ufg.1 this));rw[i]at this;exact this
def zks(d:Int):(l:List aD.den)->(s j:kZ)->goV d l s=.inl j->(zjw j.1).length<=(zjw s.1).length+l.length
 |[],s,j,h=>by cases h;exact Nat.le_add_right _ _
 |f::l,s,j,h=>by
  unfold goV at h;have i:=zi9 d f s;cases m:ze1 d f s with
  |inr y=>rw[m]at h;cases h
  |inl s1=>
   rw[m]at h i;have q:=zks d l s1 j h;rw[uc7];rcases i with i|⟨x,_,i⟩
   rw[i]at q;omega;have e:(zjw s1.1).length=(zjw s.1).length+1:=by rw[i];exact ub5
   omega
def zkx(d:Int):(l:List bp.den)->(∀ e∈l,zj9 e)->zj5 (λa=>enZ a d l)%(18446744073709551616:Int)=0
 |[],_=>rfl
 |e::l,h=>by
  have j:=zkx d l λy t=>h y (ubi _ t);obtain⟨m,i⟩:=zk9 (h e ucb);have q:=zky (uC e) m;rw[<- q]at i;show zj5 (λa=>(if (!(J (e.1<=d)))=Z then 0 else lnZ a (uC e))+enZ a d l)%(18446744073709551616:Int)=0;unfold zj5 at j i |-;dsimp only at j i |-;cases (!(J (e.1<=d)));simp only[ub2,ufn];generalize lnZ 1 (uC e)=u at *;generalize lnZ 2 (uC e)=w at *;generalize lnZ 3 (uC e)=C at *;generalize lnZ 4 (uC e)=F at *;generalize lnZ 5 (uC e)=H at *;generalize lnZ 6 (uC e)=N at *;generalize lnZ 7 (uC e)=O at *;generalize lnZ 8 (uC e)=P at *;generalize lnZ 9 (uC e)=Q at *;omega;simp only[if_true,Int.zero_add];exact j
def zk1(g:Int->Int):dw.den:=(0,g 1,g 2,g 3,g 4,g 5,g 6,g 7,g 8,g 9,())
def zlj(b:bV.den)(d:Int):zic b d=zk1 (λa=>zih b.1 a d):=by
 have h:zic b d=zk1 (λa=>(GK.f (b,a,d,())).1):=by kernel_rfl
 rw[h,show(λa=>(GK.f (b,a,d,())).1)=λa=>zih b.1 a d from funext λa=>ziy b a d]
def ten(t:dw.den):Int:=t.1+t.2.1+t.2.2.1+t.2.2.2.1+t.2.2.2.2.1+t.2.2.2.2.2.1+t.2.2.2.2.2.2.1+t.2.2.2.2.2.2.2.1+t.2.2.2.2.2.2.2.2.1+t.2.2.2.2.2.2.2.2.2.1
def zlg(k:kLi):bO (zj6 k True) 0 (List.replicate 10 ()) 0=I6.wrap (ten k.1.1):=by
 have h:bO (zj6 k True) 0 (List.replicate 10 ()) 0=I6.wrap (I6.wrap (I6.wrap (I6.wrap (I6.wrap (I6.wrap (I6.wrap (I6.wrap (I6.wrap (I6.wrap (0+k.1.1.1)+k.1.1.2.1)+k.1.1.2.2.1)+k.1.1.2.2.2.1)+k.1.1.2.2.2.2.1)+k.1.1.2.2.2.2.2.1)+k.1.1.2.2.2.2.2.2.1)+k.1.1.2.2.2.2.2.2.2.1)+k.1.1.2.2.2.2.2.2.2.2.1)+k.1.1.2.2.2.2.2.2.2.2.2.1):=by kernel_rfl
 rw[h];have hw:∀ a b:Int,I6.wrap (I6.wrap a+b)=I6.wrap (a+b):=by
  intro a b;rw[udd,udd,udd];omega
 simp only[hw,Int.zero_add];rfl
def zlh{k:kLi}{b:bV.den}{d:Int}(m:k.1.1=zic b d)(hb:goodB day (zjw b)):bO (zj6 k True) 0 (List.replicate 10 ()) 0=0:=by
 rw[zlg,m,zlj];refine zlk ?_;have h0:=zkx d (zjw b) λe j=>(hb.good e j).1;have hz:=λi=>zk4 (zjw b) i d;have q:=hz 1;have t:=hz 2;have u:=hz 3;have w:=hz 4;have C:=hz 5;have F:=hz 6;have H:=hz 7;have N:=hz 8;have O:=hz 9;unfold zj5 at h0;dsimp only at h0;clear hz;show((0:Int)+zih (zjw b) 1 d+zih (zjw b) 2 d+zih (zjw b) 3 d+zih (zjw b) 4 d+zih (zjw b) 5 d+zih (zjw b) 6 d+zih (zjw b) 7 d+zih (zjw b) 8 d+zih (zjw b) 9 d)%(18446744073709551616:Int)=0;omega
def zk8{e:bp.den}(h:zj9 e):(zkg.f (e,())).1=true:=by
 show(bif (AS.f (e,())).2.1 then (AS.f (e,())).1==0 else Y)=Z;rw[h.1,h.2];rfl
def zld{b:bV.den}(hb:goodB day (zjw b))(P:((zjw b).length:Int)<=9223372036854775807):eJ (zkb (zj0 b day) True) 0 (zjw b) ()/\da (zkb (zj0 b day) True) 0 (zjw b) ()=.inl ():=
 zf7 (l2:=zjw b) (d:=bp.dflt) (λi e hi N=>by
  have q:i.toNat<(zjw b).length:=by omega
  have w:e=(zjw b)[i.toNat]:=by rw[<- N,uah,uaq q];rfl
  obtain⟨C,F⟩:=hb.good e (by rw[w];exact udg _);have H:=zlh (k:=zkh (zj0 b day) i e) (b:=b) (d:=e.1) rfl hb;have t:bM (zj6 (zkh (zj0 b day) i e) True) 0 (List.replicate 10 ()) 0:=(dk (step:=zj6 (zkh (zj0 b day) i e) True) (λ_ _=>True) (List.replicate 10 ()) (λj u s O _=>by
   have:=eD O;rw[List.length_replicate]at this;exact⟨by show 0<=(j:Int)/\(j:Int)<10;omega,uT⟩) 0 trivial).1
  refine aF trivial (aF ⟨rfl,by decide,by decide,by decide⟩ (aF t ?_));show(Jd _ (Jb _ _ _)).ok/\(Jd _ (Jb _ _ _)).get=_;rw[H];have m:zkf (zj0 b day).2.2.1 e 0=false:=by
   unfold zkf;rw[zk8 C,uds (by show ¬ e.1>day;exact ufg.2 F)];rfl
  have hw:0<i->I6.wrap (i-1)=((i.toNat-1:Nat):Int):=λh=>by
   rw[IntWalk.i64_in _ (by omega)];omega
  refine aF (λh _=>?_) (aR ?_ ⟨uT,rfl⟩);have h:=ucw h;rw[hw h];show 0<=((i.toNat-1:Nat):Int)/\((i.toNat-1:Nat):Int)<((zjw b).length:Int);omega;rw[m];show(bif J (i>0)then J (e.1<((zjw b).getD (I6.wrap (i-1)).toNat bp.dflt).1)else Y)=Y;by_cases h:i>0;rw[ud7 h,hw h,ucz,uah,uaq (by omega)];refine uds (ufg.2 ?_);rw[w];exact uan.1 hb.sort (i.toNat-1) i.toNat (by omega) q (by omega);rw[uds h];rfl) (zjw b) [] 0 rfl rfl
def zk5:Ct:=⟨[.d jourT,.d i64],[.bool],λ_=>(Z,()),λ_=>[]⟩
def zero29_ok:af prog 8 zk5:=
 conv zk6 _ _ (λ_ _ x _ w _=>by
  have hw:=qh w;obtain⟨j,day,_⟩:=x;show(zkj (j,day,())).ok/\(zkj (j,day,())).get=(Z,());cases m : !(mX j 30);have q:mX j 30=true:=by simpa using m
  have C:=(qhp q).1;refine aR m (aF C ?_);have hz:=zkk day j.2.1 (DA j) ⟨λe t=>(by cases t),List.Pairwise.nil⟩;have i:=λN=>zks day j.2.1 (DA j) N;show(Jb ((zep j day).2.1 != 0) _ _).ok/\(Jb ((zep j day).2.1 != 0) _ _).get=_;rw[zgf];cases hg:goV day j.2.1 (DA j)with
  |inr y=>
   rw[hg]at hz;refine aZ (by show(y.1.1 != 0)=Z;simpa using hz.1) ⟨uT,?_⟩;show((bif Z then ((zjw y.2.1).length:Int)==0 else Y,()):Bool×Unit)=(Z,());rw[hz.2];rfl
  |inl s=>
   rw[hg]at hz;have P:=i s hg;have u:(zjw (DA j).1).length=0:=rfl;have O:List.length (α:=aD.den) j.2.1<=30:=by have:=(qhp q).2.1;omega
   have hb:((zjw s.1).length:Int)<=9223372036854775807:=by omega
   obtain⟨F,H⟩:=zld hz hb;refine aR rfl (aF ⟨rfl,ue7 _,ub3 _,hb⟩ (aF F ?_));show(Jb (dF (da (zkb (zj0 s.1 day) True) 0 (zjw s.1) ())) _ _).ok/\(Jb (dF (da (zkb (zj0 s.1 day) True) 0 (zjw s.1) ())) _ _).get=_;rw[H];exact aZ rfl ⟨uT,rfl⟩
  exact aZ m ⟨uT,rfl⟩)
end Go.Proofs.YtdokapnnagbehaaGreat
