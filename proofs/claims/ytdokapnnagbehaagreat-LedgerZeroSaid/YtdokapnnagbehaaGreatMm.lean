/-
  Parts of the proof, one behind the other.
-/
import Derived.Test.YtdokapnnagbehaaGreatMl
import Derived.Deep.MidRow
set_option linter.all false
set_option maxRecDepth 100000
set_option maxHeartbeats 4000000
open Option renaming some->U,none->V
open Bool renaming true->Z,false->Y
open Decidable renaming decide->J
open Go Go.RowKit
variable {T α σ ρ β:Type} {P:Program} {ad:Addr} {arr cs cur:Array Value} {f:FuncId} {x a y day:Int} {k:IntKind} {l:List Int} {xs vs news:List Value} {off i n b c d j B m len:Nat} {F F' K:Nat->Prop} {R g R':Nat->Value->Prop} {o:Oper} {p:Prop} {e ety t ty el:TypeId} {v u vx:Value} {w w' W' W:World}
namespace Go.Proofs.YtdokapnnagbehaaGreat
open Go Go.Ab Go.RowKit Go.Proofs Tryz
open Go.Ab.Fr renaming val->Jv,need->Jd,br->Jb
noncomputable def qeq:List (FuncId×Ct):=[(125,FV),(285,Gq),(78,wN),(268,Od),(47,A5),(281,Ox),(79,Ax),(228,A9),(229,qu),(269,(tx zjv)),(286,(tx ar)),(282,(AG zjv)),(297,(AG ar)),(210,(fA ar)),(270,FZ),(287,Gv),(280,FW)]
noncomputable def Yb:Cx:=cx qeq []
def wx:CxOK prog Yb:=aP aG ⟨N8,Qq,NA,qbn,Pz,qwu,OR,T8,OT,qwm,qwn,zc8,zda,NE,qbi,qth,qaj,uT⟩ trivial
abbrev nH(s:aq.den)(l:List zjv.den):aq.den:=(s.1,l,s.2.2.1,s.2.2.2.1,s.2.2.2.2.1,())
abbrev Ez(s:aq.den)(l:List ar.den):aq.den:=(s.1,s.2.1,l,s.2.2.2.1,s.2.2.2.2.1,())
def bD(s:aq.den):Prop:=bJ s.1/\(db s).length<=100000/\(bq s).length<=100000/\∀ a∈db s,bL a.1
abbrev j5(s:aq.den)(i:Int):zjv.den:=(db s).getD i.toNat zjv.dflt
abbrev qkp(s:aq.den)(i:Int):ar.den:=(bq s).getD i.toNat ar.dflt
abbrev bH(f:aD.den):aC.den×Int:=og (mU f) (cC f) (mV f)
abbrev aI(s:aq.den)(f:aD.den):Int:=gz s (mU f)
abbrev gI(s:aq.den)(f:aD.den):Int:=jH s (mU f)
abbrev pH(s:aq.den)(f:aD.den):aC.den×Int:=py (j5 s (aI s f)).1 (lF f)
def kx(s:aq.den)(f:aD.den):aq.den×Int:=
 bif J (aI s f>=0)then (s,8)else bif J (((List.length (db s):Nat):Int)>=2000)then (s,2)
  else (nH s (iT nW (db s) ((bH f).1,0,())),bif (bH f).2==0 then (mN (bH f).1 s.1).2 else (bH f).2)
def kw(s:aq.den)(f:aD.den):aq.den×Int:=
 bif J (aI s f<0)then (s,7)else bif (bq s).any (qq f)then (s,10)
  else (nH s ((db s).set (aI s f).toNat ((pH s f).1,(j5 s (aI s f)).2.1,())),bif (pH s f).2==0 then (mN (pH s f).1 s.1).2 else (pH s f).2)
def kB(s:aq.den)(f:aD.den):aq.den×Int:=
 bif J (aI s f<0)then (s,7)else bif J (hH f>I6.wrap (4000000000000000000-(j5 s (aI s f)).2.1))then (s,5)
  else (nH s ((db s).set (aI s f).toNat ((j5 s (aI s f)).1,I6.wrap ((j5 s (aI s f)).2.1+hH f),())),0)
abbrev lA(s:aq.den)(f:aD.den):zjv.den×Bool:=kj s (fB f).2.1
def kz(s:aq.den)(f:aD.den):aq.den×Int:=
 bif J (jH s (fB f).1>=0)then (s,8)else bif J (((List.length (bq s):Nat):Int)>=2000)then (s,2)else bif !(lA s f).2 then (s,7)
  else (Ez s (iT oR (bq s) (fB f,[],())),(qF (lA s f).1.1 s.1 (fB f)).2)
abbrev pG(s:aq.den)(f:aD.den):ar.den×Int:=o8 (qkp s (gI s f)) (mT f)
def kv(s:aq.den)(f:aD.den):aq.den×Int:=
 bif J (gI s f<0)then (s,7)else (Ez s ((bq s).set (gI s f).toNat (pG s f).1),(pG s f).2)
def fo{l:List α}{i:Int}{d:α}(h:0<=i/\i<(l.length:Int)):l.getD i.toNat d∈l:=by
 have hi:i.toNat<l.length:=by omega
 rw[uah,uaq hi];exact udg hi
def tc{s:aq.den}{id:Int}(h:¬ gz s id<0):0<=gz s id/\gz s id<((db s).length:Int):=⟨by omega,(xZ (by unfold gz at h;omega)).1⟩
def If{s:aq.den}{id:Int}(h:¬ jH s id<0):0<=jH s id/\jH s id<((bq s).length:Int):=⟨by omega,(xZ (by unfold jH at h;omega)).1⟩
def xu{s:aq.den}(i:bD s){id:Int}(h:¬ gz s id<0):bL (j5 s (gz s id)).1:=i.2.2.2 _ (fo (tc h))
def qho:bL fF:=⟨by decide,by decide,λc hc=>by cases hc⟩
def N9{s:aq.den}(i:bD s)(id:Int):bL (kj s id).1.1:=by
 unfold kj;split;rename_i h;exact xu i (by omega);exact qho
abbrev nA:Prop:=∀ y:aa [zjv],fi [zjv] y->av ([]:List Prop)
abbrev nF:Prop:=∀ y:aa [ar],fi [ar] y->av ([]:List Prop)
def Oi:Ct:=⟨gS,[aq,i64],λx=>((kx x.2.1 x.1).1,(kx x.2.1 x.1).2,()),λx=>[bD x.2.1]⟩
def Iv(s:aq.den)(f:aD.den):Fr (aa [aq,i64]):=
 let a:=iT nW (db s) ((bH f).1,0,());Jb (J (aI s f>=0)) (Jv (s,8,())) (Jb (J (((List.length (db s):Nat):Int)>=2000)) (Jv (s,2,())) (Jb ((bH f).2==0)
  (Jd (bL (bH f).1) (Jd (bJ s.1) (Jd nA (Jd ((db s).length<=100000) (Jv (nH s a,(mN (bH f).1 s.1).2,()))))))
  (Jd nA (Jd ((db s).length<=100000) (Jv (nH s a,(bH f).2,()))))))
def qfr(s:aq.den)(f:aD.den)(i:bD s):(Iv s f).ok/\(Iv s f).get=((kx s f).1,(kx s f).2,()):=by
 unfold kx;cases j:J (aI s f>=0);refine aR j ?_;cases m:J (((List.length (db s):Nat):Int)>=2000);refine aR rfl ?_;cases q:(bH f).2==0;refine aR rfl ?_;exact aF (λ_ _=>uT) (aF i.2.1 ⟨uT,rfl⟩);refine aZ rfl ?_;exact aF (NV _ _ _) (aF i.1 (aF (λ_ _=>uT) (aF i.2.1 ⟨uT,rfl⟩)));exact aZ rfl ⟨uT,rfl⟩;exact aZ j ⟨uT,rfl⟩
def qfs:af prog 267 Oi:=
 conv (aS wx f267 (fr:=λx=>Iv x.2.1 x.1) (ps:=gS)) _ _ (λ_ _ x _ _ h=>qfr x.2.1 x.1 h)
def Oh:Ct:=⟨gS,[aq,i64],λx=>((kw x.2.1 x.1).1,(kw x.2.1 x.1).2,()),λx=>[bD x.2.1]⟩
def Iu(s:aq.den)(f:aD.den):Fr (aa [aq,i64]):=
 let b:=((db s).length:Int);let a:=(db s).set (aI s f).toNat ((pH s f).1,(j5 s (aI s f)).2.1,());Jb (J (aI s f<0)) (Jv (s,7,())) (Jd nF (Jb ((bq s).any (qq f)) (Jv (s,10,())) (Jd (0<=aI s f/\aI s f<b) (Jd (bL (j5 s (aI s f)).1)
  (Jb ((pH s f).2==0)
   (Jd (bL (pH s f).1) (Jd (bJ s.1) (Jd ((db s).length<=100000) (Jd (0<=aI s f/\aI s f<b) (Jv (nH s a,(mN (pH s f).1 s.1).2,()))))))
   (Jd ((db s).length<=100000) (Jd (0<=aI s f/\aI s f<b) (Jv (nH s a,(pH s f).2,())))))))))
def qfp(s:aq.den)(f:aD.den)(i:bD s):(Iu s f).ok/\(Iu s f).get=((kw s f).1,(kw s f).2,()):=by
 unfold kw;cases j:J (aI s f<0);refine aR j ?_;have hi:=ucg j;refine aF (λ_ _=>uT) ?_;cases m:(bq s).any (qq f);refine aR rfl ?_;refine aF (tc hi) (aF (xu i hi) ?_);cases q:(pH s f).2==0;refine aR rfl ?_;exact aF i.2.1 (aF (tc hi) ⟨uT,rfl⟩);refine aZ rfl ?_;exact aF (Uq (xu i hi)) (aF i.1 (aF i.2.1 (aF (tc hi) ⟨uT,rfl⟩)));exact aZ rfl ⟨uT,rfl⟩;exact aZ j ⟨uT,rfl⟩
def qfq:af prog 279 Oh:=
 conv (aS wx f279 (fr:=λx=>Iu x.2.1 x.1) (ps:=gS)) _ _ (λ_ _ x _ _ h=>qfp x.2.1 x.1 h)
def Ol:Ct:=⟨gS,[aq,i64],λx=>((kB x.2.1 x.1).1,(kB x.2.1 x.1).2,()),λx=>[bD x.2.1]⟩
def Ix(s:aq.den)(f:aD.den):Fr (aa [aq,i64]):=
 let b:=((db s).length:Int);let a:=j5 s (aI s f);Jb (J (aI s f<0)) (Jv (s,7,())) (Jd (0<=aI s f/\aI s f<b) (Jb (J (hH f>I6.wrap (4000000000000000000-a.2.1))) (Jv (s,5,()))
  (Jd ((db s).length<=100000) (Jd (0<=aI s f/\aI s f<b) (Jv (nH s ((db s).set (aI s f).toNat (a.1,I6.wrap (a.2.1+hH f),())),0,()))))))
def qfw(s:aq.den)(f:aD.den)(j:bD s):(Ix s f).ok/\(Ix s f).get=((kB s f).1,(kB s f).2,()):=by
 unfold kB;cases i:J (aI s f<0);refine aR i ?_;have hi:=ucg i;refine aF (tc hi) ?_;cases m:J (hH f>I6.wrap (4000000000000000000-(j5 s (aI s f)).2.1));refine aR rfl ?_;exact aF j.2.1 (aF (tc hi) ⟨uT,rfl⟩);exact aZ rfl ⟨uT,rfl⟩;exact aZ i ⟨uT,rfl⟩
def qfx:af prog 283 Ol:=
 conv (aS wx f283 (fr:=λx=>Ix x.2.1 x.1) (ps:=gS)) _ _ (λ_ _ x _ _ h=>qfw x.2.1 x.1 h)
def Ok:Ct:=⟨gS,[aq,i64],λx=>((kz x.2.1 x.1).1,(kz x.2.1 x.1).2,()),λx=>[bD x.2.1]⟩
def Iw(s:aq.den)(f:aD.den):Fr (aa [aq,i64]):=
 Jb (J (jH s (fB f).1>=0)) (Jv (s,8,())) (Jb (J (((List.length (bq s):Nat):Int)>=2000)) (Jv (s,2,())) (Jb (!(lA s f).2) (Jv (s,7,()))
  (Jd (bL (lA s f).1.1) (Jd (bJ s.1) (Jd nF (Jd ((bq s).length<=100000) (Jv (Ez s (iT oR (bq s) (fB f,[],())),(qF (lA s f).1.1 s.1 (fB f)).2,()))))))))
def qfu(s:aq.den)(f:aD.den)(i:bD s):(Iw s f).ok/\(Iw s f).get=((kz s f).1,(kz s f).2,()):=by
 unfold kz;cases j:J (jH s (fB f).1>=0);refine aR j ?_;cases m:J (((List.length (bq s):Nat):Int)>=2000);refine aR rfl ?_;cases q : !(lA s f).2;refine aR rfl ?_;exact aF (N9 i _) (aF i.1 (aF (λ_ _=>uT) (aF i.2.2.1 ⟨uT,rfl⟩)));exact aZ rfl ⟨uT,rfl⟩;exact aZ rfl ⟨uT,rfl⟩;exact aZ j ⟨uT,rfl⟩
def qfv:af prog 284 Ok:=
 conv (aS wx f284 (fr:=λx=>Iw x.2.1 x.1) (ps:=gS)) _ _ (λ_ _ x _ _ h=>qfu x.2.1 x.1 h)
def Og:Ct:=⟨gS,[aq,i64],λx=>((kv x.2.1 x.1).1,(kv x.2.1 x.1).2,()),λx=>[bD x.2.1]⟩
def It(s:aq.den)(f:aD.den):Fr (aa [aq,i64]):=
 let a:=((bq s).length:Int);Jb (J (gI s f<0)) (Jv (s,7,())) (Jd (0<=gI s f/\gI s f<a) (Jd ((bq s).length<=100000) (Jd (0<=gI s f/\gI s f<a) (Jv (Ez s ((bq s).set (gI s f).toNat (pG s f).1),(pG s f).2,())))))
def qfn(s:aq.den)(f:aD.den)(j:bD s):(It s f).ok/\(It s f).get=((kv s f).1,(kv s f).2,()):=by
 unfold kv;cases i:J (gI s f<0);refine aR i ?_;have hi:=ucg i;exact aF (If hi) (aF j.2.2.1 (aF (If hi) ⟨uT,rfl⟩));exact aZ i ⟨uT,rfl⟩
def qfo:af prog 296 Og:=
 conv (aS wx f296 (fr:=λx=>It x.2.1 x.1) (ps:=gS)) _ _ (λ_ _ x _ _ h=>qfn x.2.1 x.1 h)
abbrev i6:List PT:=[.d .unit,.d aD]
def Kq(f:aD.den):aD.den:=(cC f,aU f,0,hH f,hN f,((0,0,()),(0,0,0,0,()),[],()),lF f,fB f,mT f,fD f,())
def tz:Ct:=⟨i6,[aD],λx=>(Kq x.2.1,()),λ_=>[]⟩
def qxl:af prog 261 tz:=
 conv (aS aH f261 (fr:=λx=>Jv (Kq x.2.1,())) (ps:=i6) (rs:=[aD])) _ _ (λ_ _ _ _ _ _=>⟨uT,rfl⟩)
def Kr(f:aD.den):aD.den:=(cC f,aU f,0,hH f,hN f,mV f,(0,0,0,(0,0,0,0,()),[],0,()),fB f,mT f,fD f,())
def t3:Ct:=⟨i6,[aD],λx=>(Kr x.2.1,()),λ_=>[]⟩
def qxm:af prog 262 t3:=
 conv (aS aH f262 (fr:=λx=>Jv (Kr x.2.1,())) (ps:=i6) (rs:=[aD])) _ _ (λ_ _ _ _ _ _=>⟨uT,rfl⟩)
def Ks(f:aD.den):aD.den:=(cC f,aU f,0,0,hN f,mV f,lF f,fB f,mT f,fD f,())
def t4:Ct:=⟨i6,[aD],λx=>(Ks x.2.1,()),λ_=>[]⟩
def qxn:af prog 263 t4:=
 conv (aS aH f263 (fr:=λx=>Jv (Ks x.2.1,())) (ps:=i6) (rs:=[aD])) _ _ (λ_ _ _ _ _ _=>⟨uT,rfl⟩)
def Kt(f:aD.den):aD.den:=(cC f,aU f,mU f,hH f,hN f,mV f,lF f,(0,0,0,0,0,0,()),mT f,fD f,())
def t5:Ct:=⟨i6,[aD],λx=>(Kt x.2.1,()),λ_=>[]⟩
def qxo:af prog 264 t5:=
 conv (aS aH f264 (fr:=λx=>Jv (Kt x.2.1,())) (ps:=i6) (rs:=[aD])) _ _ (λ_ _ _ _ _ _=>⟨uT,rfl⟩)
def Ku(f:aD.den):aD.den:=(cC f,aU f,0,hH f,hN f,mV f,lF f,fB f,(0,0,0,()),fD f,())
def t6:Ct:=⟨i6,[aD],λx=>(Ku x.2.1,()),λ_=>[]⟩
def qxp:af prog 265 t6:=
 conv (aS aH f265 (fr:=λx=>Jv (Ku x.2.1,())) (ps:=i6) (rs:=[aD])) _ _ (λ_ _ _ _ _ _=>⟨uT,rfl⟩)
def Kv(f:aD.den):aD.den:=(cC f,aU f,mU f,hH f,hN f,mV f,lF f,fB f,mT f,(0,0,(0,0,()),0,0,0,0,0,()),())
def t7:Ct:=⟨i6,[aD],λx=>(Kv x.2.1,()),λ_=>[]⟩
def qxq:af prog 266 t7:=
 conv (aS aH f266 (fr:=λx=>Jv (Kv x.2.1,())) (ps:=i6) (rs:=[aD])) _ _ (λ_ _ _ _ _ _=>⟨uT,rfl⟩)
def Kw(f:aD.den):aD.den:=(cC f,aU f,mU f,hH f,0,mV f,lF f,fB f,mT f,fD f,())
def t8:Ct:=⟨i6,[aD],λx=>(Kw x.2.1,()),λ_=>[]⟩
def qxr:af prog 314 t8:=
 conv (aS aH f314 (fr:=λx=>Jv (Kw x.2.1,())) (ps:=i6) (rs:=[aD])) _ _ (λ_ _ _ _ _ _=>⟨uT,rfl⟩)
noncomputable def qer:List (FuncId×Ct):=[(64,Gz),(65,Av),(66,q9),(67,ou),(68,wO),(69,tk),(70,iD),(261,tz),(262,t3),(263,t4),(264,t5),(265,t6),(266,t7),(314,t8)]
noncomputable def Yc:Cx:=cx qer []
def Yd:CxOK prog Yc:=aP aG ⟨qky,qbh,Lm,GW,Ot,Oy,vF,qxl,qxm,qxn,qxo,qxp,qxq,qxr,uT⟩ trivial
def xw(x:ag [.d aD]):Fr (aa [.bool]):=
 let c:=x.1.2.2;let h:=c.2.2.2.2;let b:=((),x.1,());let a:=Gz.f (x.1.2.1,());let g:=bif bif (cD gp a.1.1).isNone then Z else J (x.1.1<1)then Z else J (x.1.1>292194);Jd (g=Y->a.1.1=1->av ([]++([]++[])++tz.ok b)) (Jd (g=Y->a.1.1≠1->av [a.1.1=2->av ([]++([]++[])++t3.ok b),a.1.1≠2->av [a.1.1=3->av ([]++([]++[])++t4.ok b),a.1.1≠3->av [a.1.1=4->av ([]++([]++[])++t5.ok b),a.1.1≠4->av [a.1.1=5->av ([]++([]++[])++t6.ok b),a.1.1≠5->av [a.1.1=6->av ([]++([]++[])++t7.ok b),a.1.1≠6->av ((a.1.1=7)::([]++([]++[])++t8.ok b))]]]]]) (Jb (bif bif bif (cD gp a.1.1).isNone then Z else J (x.1.1<1)then Z else J (x.1.1>292194)then Z else !(Av.f ((bif a.1.1==1 then tz.f b else bif a.1.1==2 then t3.f b else bif a.1.1==3 then t4.f b else bif a.1.1==4 then t5.f b else bif a.1.1==5 then t6.f b else bif a.1.1==6 then t7.f b else t8.f b).1,())).1) (Jv (Y,())) (Jb (cD gp a.1.1==U 169) (Jv (bif bif J (c.1>=1)then J (c.1<=1000000000)else Y then (q9.f (c.2.2.2.1,())).1 else Y,())) (Jb (cD gp a.1.1==U 171) (Jv (bif bif bif J (c.1>=1)then J (c.1<=1000000000)else Y then (ou.f (h.1,())).1 else Y then h.1.1==x.1.1 else Y,())) (Jb (cD gp a.1.1==U 173) (Jv (bif bif bif J (c.1>=1)then J (c.1<=1000000000)else Y then J (c.2.1>=1)else Y then J (c.2.1<=1000000000000000)else Y,())) (Jb (cD gp a.1.1==U 174) (Jv (bif (wO.f (h.2.1,())).1 then h.2.1.2.2.2.2.1==x.1.1 else Y,())) (Jb (cD gp a.1.1==U 176) (Jv (bif bif bif J (c.1>=1)then J (c.1<=1000000000)else Y then (tk.f (h.2.2.1,())).1 else Y then h.2.2.1.1==x.1.1 else Y,())) (Jb (cD gp a.1.1==U 178) (Jv ((iD.f (h.2.2.2.1,())).1,())) (Jv (bif J (c.2.2.1>=1)then J (c.2.2.1<=x.1.1)else Y,()))))))))))
def qi0:af prog 45 (bg [.d aD] [.bool] xw):=
 aS Yd f45
def yO(f:aD.den):aD.den:=
 bif aU f==1 then Kq f else bif aU f==2 then Kr f else bif aU f==3 then Ks f else bif aU f==4 then Kt f else bif aU f==5 then Ku f else bif aU f==6 then Kv f else Kw f
def Ck(f:aD.den):Bool:=J (mU f>=1)&&J (mU f<=1000000000)
def NY(f:aD.den):Bool:=
 bif aU f==1 then Ck f&&ju (mV f)else bif aU f==2 then (Ck f&&gl (lF f))&&(lF f).1==cC f
  else bif aU f==3 then (Ck f&&J (hH f>=1))&&J (hH f<=1000000000000000)else bif aU f==4 then Oq (fB f)&&(fB f).2.2.2.2.1==cC f
  else bif aU f==5 then (Ck f&&qz (mT f))&&(mT f).1==cC f else bif aU f==6 then Dv (fD f)else J (hN f>=1)&&J (hN f<=cC f)
def gF(f:aD.den):Bool:=
 (J (1<=aU f)&&J (aU f<=7))&&((J (1<=cC f)&&J (cC f<=292194))&&(Ak (yO f)&&NY f))
def gU(a b:Bool):(bif a then b else Y)=(a&&b):=by cases a<;>rfl
def NS(a b:Bool):(bif a then Z else b)=(a || b):=by cases a<;>rfl
def Tg{k:Int}(h:1<=k/\k<=7)(i:k≠1)(j:k≠2)(m:k≠3)(q:k≠4)(t:k≠5)(u:k≠6):k=7:=by omega
def ql3{f:aD.den}(h:aU f<1\/aU f>7):(xw (f,())).ok/\(xw (f,())).get=(gF f,()):=by
 have j:=IM h;have i:gF f=false:=by
  unfold gF;rcases h with h|h
  rw[show J (1<=aU f)=Y from uds (by omega)];rfl;rw[show J (aU f<=7)=Y from uds (by omega),uea];rfl
 rw[i];have hb:(bif bif (cD gp (aU f)).isNone then Z else J (cC f<1)then Z else J (cC f>292194))=true:=by rw[j];rfl
 refine aF (λh0=>absurd (hb.symm.trans h0) (by decide)) (aF (λh0=>absurd (hb.symm.trans h0) (by decide)) (aZ ?_ ⟨uT,rfl⟩));show(bif (bif bif (cD gp (aU f)).isNone then Z else J (cC f<1)then Z else J (cC f>292194))then Z else _)=Z;rw[hb];rfl
def ql5{f:aD.den}(h:1<=aU f/\aU f<=7):(xw (f,())).ok/\(xw (f,())).get=(gF f,()):=by
 have hc:(bif bif (cD gp (aU f)).isNone then Z else J (cC f<1)then Z else J (cC f>292194))=(J (cC f<1) || J (cC f>292194)):=by
  rcases yX h with e|e|e|e|e|e|e<;>rw[e]<;>exact NS _ _
 refine aF (λ_ _=>uT) (aF (λ_=>?_) ?_);show aU f≠1->(_/\_);intro q;exact⟨λ_=>uT,λt=>⟨λ_=>uT,λu=>⟨λ_=>uT,λw=>⟨λ_=>uT,λC=>⟨λ_=>uT,λF=>Tg h q t u w C F⟩⟩⟩⟩⟩;have N:(bif aU f==1 then tz.f ((),f,())else bif aU f==2 then t3.f ((),f,())else bif aU f==3 then t4.f ((),f,())else bif aU f==4 then t5.f ((),f,())else bif aU f==5 then t6.f ((),f,())else bif aU f==6 then t7.f ((),f,())else t8.f ((),f,()))=(yO f,()):=by
  unfold yO;rcases yX h with e|e|e|e|e|e|e<;>rw[e]<;>rfl
 have H:(J (1<=aU f)&&J (aU f<=7))=true:=by rw[ud7 h.1,ud7 h.2];rfl
 have i:(bif bif bif (cD gp (aU f)).isNone then Z else J (cC f<1)then Z else J (cC f>292194)then Z else !(Av.f ((bif aU f==1 then tz.f ((),f,())else bif aU f==2 then t3.f ((),f,())else bif aU f==3 then t4.f ((),f,())else bif aU f==4 then t5.f ((),f,())else bif aU f==5 then t6.f ((),f,())else bif aU f==6 then t7.f ((),f,())else t8.f ((),f,())).1,())).1)
   = !((J (1<=cC f)&&J (cC f<=292194))&&Ak (yO f)):=by
  rw[N,hc,NS];rw[Bool.not_and,Bool.not_and,<- decide_not,<- decide_not];congr 2;exact udf.mpr (by omega);exact udf.mpr (by omega)
 cases hb:(J (1<=cC f)&&J (cC f<=292194))&&Ak (yO f);have hF:gF f=false:=by unfold gF;rw[<- ud9 (J (1<=cC f)&&_),hb,Bool.false_and,uea]
 rw[hF];exact aZ (i.trans (by rw[hb];rfl)) ⟨uT,rfl⟩
 ·have hF:gF f=NY f:=by unfold gF;rw[<- ud9 (J (1<=cC f)&&_),hb,H,uei,uei]
  rw[hF];refine aR (i.trans (by rw[hb];rfl)) ?_;obtain⟨P,k,id,j,day,Q,ch,cl,O,S,_⟩:=f;have m:=yX h;rcases m with e|e|e|e|e|e|e
  all_goals
   have e1:=e;subst e1
  exact aZ rfl ⟨uT,by rw[gU,gU];rfl⟩;exact aR rfl (aZ rfl ⟨uT,by rw[gU,gU,gU];rfl⟩);exact aR rfl (aR rfl (aZ rfl ⟨uT,by rw[gU,gU,gU];rfl⟩));exact aR rfl (aR rfl (aR rfl (aZ rfl ⟨uT,by rw[gU];rfl⟩)));exact aR rfl (aR rfl (aR rfl (aR rfl (aZ rfl ⟨uT,by rw[gU,gU,gU];rfl⟩))));exact aR rfl (aR rfl (aR rfl (aR rfl (aR rfl (aZ rfl ⟨uT,rfl⟩)))));exact aR rfl (aR rfl (aR rfl (aR rfl (aR rfl (aR rfl ⟨uT,by rw[gU];rfl⟩)))))
def On:Ct:=⟨[.d aD],[.bool],λx=>(gF x.1,()),λ_=>[]⟩
def ql4:af prog 45 On:=conv qi0 _ _ (λ_ _ x _ _ _=>by
 by_cases h:1<=aU x.1/\aU x.1<=7;exact ql5 h;exact ql3 (by omega))
section
open Go.Shelf Go.Lib
def PE:List (Int×TypeId):=[(1,200),(2,201),(3,202),(4,203),(5,204),(6,205),(7,206)]
def Jo(k:Int)(v:Value):Value:=match cD PE k with
 |some ty=>.iface ty v
 |none=>.nilIface
def Sc(v:Value):Array Value:=#[.nilIface,.iface 200 v,.iface 201 v,.iface 202 v,.iface 203 v,.iface 204 v,.iface 205 v,.iface 206 v]
def qox(k:Int)(i:1<=k/\k<=7)(v:Value)(w:World):(Instr.index 207 (.agg (Sc v)) (.int .i64 k)).run prog w=.ok (Jo k v) w:=by
 rcases yX i with rfl|rfl|rfl|rfl|rfl|rfl|rfl<;>kernel_rfl
def qo6(k:Int)(t:1<=k/\k<=7)(cs:Array Value)(C:cs.size=39)(q:cs[1]?= U (.int .i64 k))(R:Ending->World->Prop)(w:World)(hR:∀ o,R (.returned (Jo k (.agg cs))) (w.alloc o)):Calls prog 57 #[.agg cs] w R:=by
 have i:(w.alloc (.cells cs 46)).heap[w.heap.size]?= U (.cells cs 46 (0,0)):=World.alloc_heap_new w _;have u:(w.alloc (.cells cs 46)).rangeAt w.heap.size 0 cs.toList:=λj v F=>by
  rw[qD i];simpa using F
 have hc:(w.alloc (.cells cs 46)).cell? ⟨w.heap.size,1,V⟩=U (.int .i64 k):=by rw[qD i];exact q
 have hi:(prog.info? 46).map (·.size)=U cs.toList.length:=by rw[ubt,C];kernel_rfl
 have m:=qox k t (.agg cs);unfold Sc at m
 go_enter func57,ntmps57
 go_wp2_with (first|(refine wpList_load_mid rfl 46 _ rfl w.heap.size 0 rfl cs.toList _ u underlying46 rfl hi ?_)|simp only[m,hc,ube])
 exact hR _
def Ou:Ct:=⟨[.d aD],[.ic PE aD],λx=>((aU x.1,x.1),()),λx=>[1<=aU x.1/\aU x.1<=7]⟩
def qo5:af prog 57 Ou:=by
 refine⟨enters_of func57 (by kernel_rfl) rfl,λw F xs vs j u m=>?_⟩;obtain⟨f,_⟩:=xs;obtain⟨v,H,rfl,i,t⟩:=u;cases t;have i:bu w F aD f v:=i;obtain⟨cs,rfl⟩:=i.2.1.1 rfl;have C:cs.size=39:=i.1;have q:cs[1]?= U (.int .i64 (aU f)):=i.2.2.2.1.1;refine qo6 (aU f) m cs C q _ w λo=>Ui j ?_;unfold Jo;split;rename_i ty h;exact R2 h i;rename_i h;exact Tb h
end
noncomputable def Ye:Cx:=cx [(45,On)] []
def Yf:CxOK prog Ye:=aP aG ⟨ql4,uT⟩ trivial
def io(s:aq.den)(f:aD.den):Int:=bif !(gF f)then 1 else bif J (cC f<=mg s)then 12 else 0
def Gw:Ct:=⟨[.d aq,.d aD],[i64],λx=>(io x.1 x.2.1,()),λ_=>[]⟩
def qts:af prog 56 Gw:=
 conv (aS Yf f56 (fr:=λx=>Jb (!(gF x.2.1)) (Jv (1,())) (Jb (J (cC x.2.1<=mg x.1)) (Jv (12,())) (Jv (0,())))) (ps:=Gw.ps) (rs:=[i64])) _ _ (λ_ _ x _ _ _=>by
  obtain⟨s,f,_⟩:=x;show _/\_=(io s f,());unfold io;cases i : !(gF f);refine aR (by first|rfl|exact i) ?_;cases j:J (cC f<=mg s);exact aR (by first|rfl|exact j) ⟨uT,rfl⟩;exact aZ (by first|rfl|exact j) ⟨uT,rfl⟩;exact aZ (by first|rfl|exact i) ⟨uT,rfl⟩)
noncomputable def qes:List (FuncId×Ct):=[(56,Gw),(57,Ou),(267,Oi),(279,Oh),(283,Ol),(284,Ok),(296,Og),(298,Om),(313,Oj)]
noncomputable def Yg:Cx:=cx qes []
def Yh:CxOK prog Yg:=aP aG ⟨qts,qo5,qfs,qfq,qfx,qfv,qfo,qfy,qft,uT⟩ trivial
abbrev D9:aq.den:=(([],()),[],[],[],0,())
def mL(s:aq.den)(f:aD.den):aa [aq,i64]:=bif aU f==1 then ((kx s f).1,(kx s f).2,())else bif aU f==2 then ((kw s f).1,(kw s f).2,())else bif aU f==3 then ((kB s f).1,(kB s f).2,())else bif aU f==4 then ((kz s f).1,(kz s f).2,())else bif aU f==5 then ((kv s f).1,(kv s f).2,())else bif aU f==6 then ((kC s f).1,(kC s f).2,())else ((ky s f).1,(ky s f).2,())
def lD(s:aq.den)(f:aD.den):aq.den×Int:=((mL s f).1,(mL s f).2.1)
def jY(s:aq.den)(f:aD.den):aq.den×Int:=
 bif io s f != 0 then (D9,io s f)else bif (lD s f).2 != 0 then (D9,(lD s f).2)else ((lD s f).1,0)
abbrev N0:List PT:=[.d aq,.d aD]
def Gh:Ct:=⟨N0,[aq,i64],λx=>((jY x.1 x.2.1).1,(jY x.1 x.2.1).2,()),λx=>[bD x.1]⟩
def Is(s:aq.den)(f:aD.den):Fr (aa [aq,i64]):=
 Jb (io s f != 0) (Jv (D9,io s f,())) (Jd (1<=aU f/\aU f<=7) (Jd (aU f=1->av [bD s]) (Jd (aU f≠1->av [aU f=2->av [bD s],aU f≠2->av [aU f=3->av [bD s],aU f≠3->av [aU f=4->av [bD s],aU f≠4->av [aU f=5->av [bD s],aU f≠5->av [aU f=6->av ([]:List Prop),aU f≠6->av [aU f=7]]]]]])
  (Jb ((mL s f).2.1 != 0) (Jv (D9,(mL s f).2.1,())) (Jv ((mL s f).1,0,()))))))
def qtt{s:aq.den}{f:aD.den}(h:io s f=0):gF f=Z/\mg s<cC f:=by
 unfold io at h;cases i:gF f;rw[i]at h;have h:(1:Int)=0:=h;exact absurd h (by decide);rw[i]at h;refine⟨rfl,?_⟩;by_cases j:cC f<=mg s;rw[ud7 j]at h;exact absurd h (by decide);omega
def ql2{f:aD.den}(h:gF f=Z):1<=aU f/\aU f<=7:=by
 unfold gF at h;rw[uda,uda]at h;exact⟨ucw h.1.1,ucw h.1.2⟩
def qfz(s:aq.den)(f:aD.den)(i:bD s):(Is s f).ok/\(Is s f).get=((jY s f).1,(jY s f).2,()):=by
 unfold jY;cases j:io s f != 0;refine aR (by first|rfl|exact j) ?_;have h0:io s f=0:=by simpa using j
 have q:=ql2 (qtt h0).1;refine aF q (aF (λ_=>i) (aF (λt=>?_) ?_));exact⟨λ_=>i,λu=>⟨λ_=>i,λw=>⟨λ_=>i,λC=>⟨λ_=>i,λF=>⟨λ_=>uT,λH=>Tg q t u w C F H⟩⟩⟩⟩⟩;cases m:(lD s f).2 != 0;exact aR (by first|rfl|exact m) ⟨uT,rfl⟩;exact aZ (by first|rfl|exact m) ⟨uT,rfl⟩;exact aZ (by first|rfl|exact j) ⟨uT,rfl⟩
def qf0:af prog 34 Gh:=
 conv (aS Yh f34 (fr:=λx=>Is x.1 x.2.1) (ps:=N0) (rs:=[aq,i64])) _ _ (λ_ _ x _ _ h=>qfz x.1 x.2.1 h)
noncomputable def zgm:Cx:=cx [(34,Gh),(35,Gy)] []
def zfw:CxOK prog zgm:=aP aG ⟨qf0,qt7,uT⟩ trivial
abbrev ze0:Pt:=⟨41,0,⟨[(22,.d i64),(21,.d i64),(20,.d (.sl aD)),(1,.d i64)],[.x 4 59 aq,.r 4 4 0,.x 6 59 aq,.r 6 6 0]⟩,⟨[],[.x 4 59 aq,.r 4 4 0,.x 6 59 aq,.r 6 6 0]⟩,⟨[],[]⟩⟩
abbrev zfg:Type:=ag [.d i64]×cR [.x 4 59 aq,.r 4 4 0,.x 6 59 aq,.r 6 6 0]
def zes(e:aD.den)(s:zfg):Fr zfg:=
 let a:=Gh.f (s.2.2.1,e,());Jb (J (e.1>s.1.1)) (Jv s) (Jd (bD s.2.2.1) (Jb (a.2.1==0) (Jv ((s.1.1,()),s.2.1,a.1,())) (Jv s)))
def zev(x:ze0.M.X):Int×List aD.den×zfg:=(x.1.1,x.1.2.2.1,x.1.2.2.2,x.2)
def zgd(x:ze0.M.X):Prop:=x.1.2.1=(x.1.2.2.1.length:Int)
def zgj(s:zfg):ze0.E.X:=((),s.2.1,s.2.2.1,())
def zhs:ae prog (.loop (au f16 0)) ze0.M ze0 (FF zes zev zgd zgj):=
 LF zfw (λ_ _=>.n .o) aD.dflt (λx=>x.1.2.1) (λx s=>((I6.wrap (x.1.1+1),x.1.2.1,x.1.2.2.1,s.1),s.2)) (λ_ h=>h)
def zh3(y:ze0.M.X):zfg:=kJ zes ((zev y).2.1.drop (zev y).1.toNat) (zev y).2.2
def zhz(y:ze0.M.X):Prop:=pg zes ((zev y).2.1.drop (zev y).1.toNat) (zev y).2.2
def zhi(x:ag [.d jourT,.d i64]):Fr (aa [aq,i64]):=
 let a:=((0,((List.length x.1.2.1):Int),x.1.2.1,x.2.1,()),(([],()),[],[],[],0,()),(Gy.f ((x.1.1.1,()),())).1,());Jb (J (((List.length x.1.2.1):Int)>2000)) (Jv ((([],()),[],[],[],0,()),2,())) (Jd (InL (zgd a) (zev a)) (Jd (zhz a) (Jv ((zgj (zh3 a)).2.2.1,0,()))))
def zhj:af prog 16 (bg [.d jourT,.d i64] [aq,i64] zhi):=
 cS zfw zhs
def qn3{i:Int}{l:List α}{x a:α}(h:a∈kL i l [x]):a∈l\/a=x:=by
 unfold kL at h;rw[udp,udp]at h;rcases h with (h|h)|h
 exact .inl (ubp h);exact .inr (uce.1 h);exact .inl (ubq h)
def qn2(i:Int)(l:List α)(x:α):(kL i l [x]).length=l.length+1:=by
 unfold kL;rw[ub5,ub5,uc3,uc4,ua7];omega
def Ub{g:α->Int}{l:List α}{x a:α}(h:a∈iT g l x):a∈l\/a=x:=qn3 h
def Ua(g:α->Int)(l:List α)(x:α):(iT g l x).length=l.length+1:=qn2 _ l x
def SS{l:List α}{x a:α}(h:a∈l.set i x):a∈l\/a=x:=uap h
def qh0{t:b8.den}(h:bJ t):bD (ym t):=⟨h,ufc _,ufc _,λa i=>by cases i⟩
def qhw{s:aq.den}(f:aD.den)(h:bD s):bD (kx s f).1:=by
 unfold kx;cases q:J (aI s f>=0);cases j:J (((List.length (db s):Nat):Int)>=2000);have m:=ucg j;refine⟨h.1,?_,h.2.2.1,λa i=>?_⟩;show(iT nW (db s) ((bH f).1,0,())).length<=100000;rw[Ua];omega;rcases Ub i with i|i
 exact h.2.2.2 a i;rw[i];exact NV _ _ _;exact h;exact h
def PY{s:aq.den}(i:Nat)(x:zjv.den)(h:bD s)(m:bL x.1):bD (nH s ((db s).set i x)):=by
 refine⟨h.1,?_,h.2.2.1,λa j=>?_⟩;show((db s).set i x).length<=100000;rw[udl];exact h.2.1;rcases SS j with j|j
 exact h.2.2.2 a j;rw[j];exact m
def qhv{s:aq.den}(f:aD.den)(h:bD s):bD (kw s f).1:=by
 unfold kw;cases i:J (aI s f<0);cases j:(bq s).any (qq f);exact PY _ _ h (Uq (xu h (ucg i)));exact h;exact h
def qh2{s:aq.den}(f:aD.den)(h:bD s):bD (kB s f).1:=by
 unfold kB;cases i:J (aI s f<0);cases j:J (hH f>I6.wrap (4000000000000000000-(j5 s (aI s f)).2.1));exact PY _ _ h (xu h (ucg i));exact h;exact h
def qhz{s:aq.den}(f:aD.den)(h:bD s):bD (kz s f).1:=by
 unfold kz;cases m:J (jH s (fB f).1>=0);cases i:J (((List.length (bq s):Nat):Int)>=2000);have j:=ucg i;cases q : !(lA s f).2;refine⟨h.1,h.2.1,?_,h.2.2.2⟩;show(iT oR (bq s) (fB f,[],())).length<=100000;rw[Ua];omega;exact h;exact h;exact h
def qhu{s:aq.den}(f:aD.den)(h:bD s):bD (kv s f).1:=by
 unfold kv;cases i:J (gI s f<0);refine⟨h.1,h.2.1,?_,h.2.2.2⟩;show((bq s).set (gI s f).toNat (pG s f).1).length<=100000;rw[udl];exact h.2.2.1;exact h
def qh3{s:aq.den}(f:aD.den)(h:bD s):bD (kC s f).1:=by
 unfold kC;cases z9 s (fD f);cases J (((List.length (jW s):Nat):Int)>=100);cases pi (jW s) (fD f);exact⟨h.1,h.2.1,h.2.2.1,h.2.2.2⟩;exact h;exact h;exact h
def qhx{s:aq.den}(f:aD.den)(h:bD s):bD (ky s f).1:=by
 unfold ky;cases J (hN f<=mg s);exact⟨h.1,h.2.1,h.2.2.1,h.2.2.2⟩;exact h
def qhy{s:aq.den}(f:aD.den)(h:bD s):bD (lD s f).1:=by
 show bD (mL s f).1;unfold mL;cases aU f==1;cases aU f==2;cases aU f==3;cases aU f==4;cases aU f==5;cases aU f==6;exact qhx f h;exact qh3 f h;exact qhu f h;exact qhz f h;exact qh2 f h;exact qhv f h;exact qhw f h
def zfk(s:aq.den)(f:aD.den):aq.den:=bif (jY s f).2==0 then (jY s f).1 else s
def zar{s:aq.den}{f:aD.den}(h:(jY s f).2=0):io s f=0/\(lD s f).2=0/\(jY s f).1=(lD s f).1:=by
 unfold jY at h |-;cases i:io s f != 0;have h0:io s f=0:=by simpa using i
 rw[i]at h;cases j:(lD s f).2 != 0;exact⟨h0,by simpa using j,rfl⟩;rw[j]at h;have m:(lD s f).2=0:=h;rw[m]at j;exact absurd j (by decide);rw[i]at h;have m:io s f=0:=h;rw[m]at i;exact absurd i (by decide)
def zg9{s:aq.den}(f:aD.den)(h:bD s):bD (zfk s f):=by
 unfold zfk;cases i:(jY s f).2==0;exact h;show bD (jY s f).1;rw[(zar (eq_of_beq i)).2.2];exact qhy f h
def ze9(b:Int)(s:aq.den)(f:aD.den):aq.den:=bif J (cC f>b)then s else zfk s f
def zha{b:Int}{s:aq.den}(f:aD.den)(h:bD s):bD (ze9 b s f):=by
 unfold ze9;cases J (cC f>b);exact zg9 f h;exact h
def zf9(b:Int)(l:List aD.den)(s:aq.den):aq.den:=l.foldl (ze9 b) s
def ofJ(j:jourT.den)(b:Int):aq.den×Int:=bif J (((List.length (α:=aD.den) j.2.1:Nat):Int)>2000)then (D9,2)else (zf9 b j.2.1 (ym j.1),0)
def zhx(e:aD.den)(b:Int)(q s:aq.den)(m:bD s):(zes e ((b,()),q,s,())).ok/\(zes e ((b,()),q,s,())).get=((b,()),q,ze9 b s e,()):=by
 unfold ze9;cases i:J (cC e>b);refine aR (by first|rfl|exact i) (aF m ?_);unfold zfk;cases j:(jY s e).2==0;exact aR (by first|rfl|exact j) ⟨uT,rfl⟩;exact aZ (by first|rfl|exact j) ⟨uT,rfl⟩;exact aZ (by first|rfl|exact i) ⟨uT,rfl⟩
def zgh(b:Int)(q:aq.den):(l:List aD.den)->(s:aq.den)->bD s->pg zes l ((b,()),q,s,())/\kJ zes l ((b,()),q,s,())=((b,()),q,zf9 b l s,())
 |[],_,_=>⟨uT,rfl⟩
 |e::l,s,m=>by
  have i:=zhx e b q s m;have j:=zgh b q l (ze9 b s e) (zha e m);refine⟨⟨i.1,?_⟩,?_⟩;rw[i.2];exact j.1;show kJ zes l (zes e ((b,()),q,s,())).get=_;rw[i.2];exact j.2
def zfq:Ct:=⟨[.d jourT,.d i64],[aq,i64],λx=>((ofJ x.1 x.2.1).1,(ofJ x.1 x.2.1).2,()),λx=>[bJ x.1.1]⟩
def zhw:af prog 16 zfq:=conv zhj _ _ (λ_ _ x _ _ i=>by
 obtain⟨j,b,_⟩:=x;have i:bJ j.1:=i;show _/\_=((ofJ j b).1,(ofJ j b).2,());unfold ofJ;cases h:J (((List.length (α:=aD.den) j.2.1:Nat):Int)>2000);have m:=ucg h;have hg:=zgh b D9 (List.drop 0 j.2.1) (ym j.1) (qh0 i);refine aR (by first|rfl|exact h) (aF ⟨rfl,ue7 _,ub3 _,?_⟩ (aF hg.1 ⟨uT,?_⟩));show((List.length (α:=aD.den) j.2.1:Nat):Int)<=_;omega;show((kJ zes (List.drop 0 j.2.1) ((b,()),D9,ym j.1,())).2.2.1,0,())=_;rw[hg.2,uec];rfl;exact aZ (by first|rfl|exact h) ⟨uT,rfl⟩)
def qol{j:jourT.den}(h:bu w F jourT j v):((List.length (α:=aD.den) j.2.1:Nat):Int)<=9223372036854775807:=by
 have i:List.length (α:=aD.den) j.2.1<=maxLen:=(aA.wf h.2.2).2.1.1;unfold maxLen at i;omega
def qiy(x:ag [.d aD]):Fr (aa [.bool]):=
 Jv (bif J (((List.length x.1.2.2.2.2.2.1.2.2.1):Int)<=50)then J (((List.length x.1.2.2.2.2.2.2.1.2.2.2.2.1):Int)<=50)else Y,())
def qiz:af prog 53 (bg [.d aD] [.bool] qiy):=
 aS aH f53
def qU(f:aD.den):Bool:=bif J (((List.length (mV f).2.2.1:Nat):Int)<=50)then J (((List.length (lF f).2.2.2.2.1:Nat):Int)<=50)else Y
def Gn:Ct:=⟨[.d aD],[.bool],λx=>(qU x.1,()),λ_=>[]⟩
def qh4:af prog 53 Gn:=conv qiz _ _ (λ_ _ _ _ _ _=>⟨uT,rfl⟩)
noncomputable def Yi:Cx:=cx [(53,Gn)] []
def Yj:CxOK prog Yi:=aP aG ⟨qh4,uT⟩ trivial
abbrev lT:Pt:=⟨36,0,⟨[(6,.d i64)],[.x 2 27 jourT,.r 2 2 0]⟩,⟨[],[]⟩,⟨[(4,.d .bool)],[]⟩⟩
abbrev vQ:Type:=ag []×cR [.x 2 27 jourT,.r 2 2 0]
def vZ(e:aD.den)(s:vQ):Fr (vQ ⊕ lT.R.X):=
 Jb (!(Gn.f (e,())).1) (Jv (.inr ((Y,()),()))) (Jv (.inl ((),s.2.1,())))
def pR(x:lT.M.X):Int×List aD.den×vQ:=(x.1.1,x.2.1.2.1,x.1.2,x.2)
def Rc(x:lT.M.X):Prop:=True
def qvl(s:vQ):lT.E.X:=((),())
def qe0:vQ:=(aW _,bN _)
def Pj:lT.R.X:=(aW _,bN _)
def qr8:ae prog (.loop (au f26 0)) lT.M lT (FL vZ pR Rc qvl Rd.back qe0 Pj):=
 qf Yj (λ_ _=>.n .o) aD.dflt (λx=>((x.2.1.2.1.length:Nat):Int)) (λx s=>((I6.wrap (x.1.1+1),s.1),s.2)) (λ_ _=>rfl)
def qxh(y:lT.M.X):vQ ⊕ lT.R.X:=dt vZ ((pR y).2.1.drop (pR y).1.toNat) (pR y).2.2
def quz(y:lT.M.X):Prop:=jo vZ ((pR y).2.1.drop (pR y).1.toNat) (pR y).2.2
noncomputable def Yk:Cx:=cx [(52,Gl)] []
def Yl:CxOK prog Yk:=aP aG ⟨qh1,uT⟩ trivial
def qiw(x:ag [.d jourT,.d i64]):Fr (aa [.bool]):=
 let a:=((0,()),x.1,());let b:=qxh a;Jb (bif !(Gl.f ((0,0,((0,0,()),(0,0,0,0,()),[],()),[],()),(x.1.1.1,()),())).1 then Z else J (((List.length x.1.2.1):Int)>x.2.1)) (Jv (Y,())) (Jd (InL (Rc a) (pR a)) (Jd (quz a) (Jb (dF b) (Jv (Z,())) (Jv ((zej Pj b).1.1,())))))
def qix:af prog 26 (bg [.d jourT,.d i64] [.bool] qiw):=
 cS Yl qr8
def zbn{good ok:Prop}{g:σ ⊕ ρ}{v:ρ->Bool}{d:ρ}{s1:σ}{c:ρ}{b:Bool}(hg:good)(j:ok)(h:g=if b=Z then .inl s1 else .inr c)(hc:v c=Y):
  (Jd good (Jd ok (Jb (dF g) (Jv ((Z,()):aa [.bool])) (Jv (v (zej d g),()))))).ok/\(Jd good (Jd ok (Jb (dF g) (Jv ((Z,()):aa [.bool])) (Jv (v (zej d g),()))))).get=(b,()):=by
 cases b;have i:=h;subst i;exact aF hg (aF j (aR rfl ⟨uT,by show(v c,())=_;rw[hc]⟩));have i:=h;subst i;exact aF hg (aF j (aZ rfl ⟨uT,rfl⟩))
def acE(e:bn.den×bn.den):Bool:=e.1.1==e.2.1&&(e.1.2.1==e.2.2.1&&(e.1.2.2.1==e.2.2.2.1&&Z))
def clE(a b:dD.den):Bool:=a.1==b.1&&(a.2.1==b.2.1&&(a.2.2.1==b.2.2.1&&(a.2.2.2.1==b.2.2.2.1&&(a.2.2.2.2.1==b.2.2.2.2.1&&(a.2.2.2.2.2.1==b.2.2.2.2.2.1&&Z)))))
def qyf(a b:ar.den):Bool:=bif bif !(clE a.1 b.1)then Z else ((List.length (α:=bn.den) a.2.1:Nat):Int) != ((List.length (α:=bn.den) b.2.1:Nat):Int)then Y else (List.zip (α:=bn.den) (β:=bn.den) a.2.1 b.2.1).all acE
def qbv:Ct:=⟨[.d ar,.d ar],[.bool],λx=>(qyf x.1 x.2.1,()),λ_=>[]⟩
def orF{a b:Bool}(h:(bif a then Z else b)=Y):a=Y/\b=false:=by cases a<;>cases b<;>first|exact⟨rfl,rfl⟩|cases h
def mX(j:jourT.den)(n:Int):Bool:=bif bif !(mW fF j.1)then Z else J (((List.length (α:=aD.den) j.2.1:Nat):Int)>n)then Y else j.2.1.all qU
def Oo:Ct:=⟨[.d jourT,.d i64],[.bool],λx=>(mX x.1 x.2.1,()),λ_=>[]⟩
def qhq:af prog 26 Oo:=conv qix _ _ (λw F x vs m _=>by
 obtain⟨j,n,_⟩:=x;obtain⟨v,t,rfl,q,_⟩:=m;have i:=qol q;show _/\_=(mX j n,());unfold mX;cases h:(bif !(mW fF j.1)then Z else J (((List.length (α:=aD.den) j.2.1:Nat):Int)>n));refine aR h (zbn (v:=λr=>r.1.1) (s1:=((),j,())) (c:=((Y,()),())) ⟨uT,ue7 _,ub3 _,i⟩ (JM (step:=vZ) _ (λe _ s=>⟨λ_=>uT,λ_=>uT⟩) _) ?_ rfl);show dt vZ (List.drop 0 j.2.1) _=_;rw[uec,ID (step:=vZ) (I:=λ_=>True) (p:=qU) (c:=((Y,()),())) (λe s _=>?_) _ _ trivial];cases j.2.1.all qU<;>rfl
 show(Jb (!(qU e)) _ _).get=_;cases qU e<;>rfl
 exact aZ h ⟨uT,rfl⟩)
def qhp{j:jourT.den}{n:Int}(h:mX j n=Z):bJ j.1/\((List.length (α:=aD.den) j.2.1:Nat):Int)<=n/\∀ f∈j.2.1,qU f=true:=by
 unfold mX at h;cases i:(bif !(mW fF j.1)then Z else J (((List.length j.2.1:Nat):Int)>n));rw[i]at h;obtain⟨m,q⟩:=orF i;have t:mW fF j.1=true:=by simpa using m
 exact⟨(qhn t).2,by have:=ucg q;omega,uc6.mp h⟩;rw[i]at h;cases h
def qj3(x:ag [.d az,.d az]):Fr (aa [.bool]):=
 let b:=x.1.2.2.2;let a:=x.2.1.2.2.2;Jv (bif bif bif bif bif (wV.f (b.2.1,a.2.1,())).1 then x.1.1==x.2.1.1 else Y then x.1.2.1==x.2.1.2.1 else Y then x.1.2.2.1==x.2.1.2.2.1 else Y then b.1.1==a.1.1&&(b.1.2.1==a.1.2.1&&(b.1.2.2.1==a.1.2.2.1&&(b.1.2.2.2.1==a.1.2.2.2.1&&Z)))else Y then b.2.2.1==a.2.2.1 else Y,())
def qj4(x:ag [.d dm,.d dm]):Fr (aa [.bool]):=
 let b:=x.1.2.1;let a:=x.2.1;Jv (bif bif (wV.f (x.1.2.2.1,a.2.2.1,())).1 then x.1.1.1==a.1.1&&(x.1.1.2.1==a.1.2.1&&Z)else Y then b.1==a.2.1.1&&(b.2.1==a.2.1.2.1&&(b.2.2.1==a.2.1.2.2.1&&(b.2.2.2.1==a.2.1.2.2.2.1&&Z)))else Y,())
def qyi(a b:az.den):Bool:=(qj3 (a,b,())).get.1
def zav(a b:dm.den):Bool:=(qj4 (a,b,())).get.1
def shB(a b:aC.den):Bool:=bif bif bif !(zav a.2.2.1 b.2.2.1)then Z else a.1 != b.1 then Z else a.2.1 != b.2.1 then Z else ((List.length (α:=az.den) a.2.2.2.1:Nat):Int) != ((List.length (α:=az.den) b.2.2.2.1:Nat):Int)
def shF(a b:aC.den):Bool:=bif shB a b then Y else (List.zip (α:=az.den) (β:=az.den) a.2.2.2.1 b.2.2.2.1).all λe=>qyi e.1 e.2
def cSH:Ct:=⟨[.d aC,.d aC],[.bool],λx=>(shF x.1 x.2.1,()),λ_=>[]⟩
abbrev rQ:Pt:=⟨127,0,⟨[(6,.d i64)],[.x 2 59 aq,.r 2 2 0,.x 3 59 aq,.r 3 3 0]⟩,⟨[],[.x 2 59 aq,.r 2 2 0,.x 3 59 aq,.r 3 3 0]⟩,⟨[(4,.d .bool)],[]⟩⟩
abbrev vS:Type:=ag []×cR [.x 2 59 aq,.r 2 2 0,.x 3 59 aq,.r 3 3 0]
def zas(e:(zjv.den×zjv.den))(s:vS):Fr (vS ⊕ rQ.R.X):=
 Jb (bif !(cSH.f (e.1.1,e.2.1,())).1 then Z else e.1.2.1 != e.2.2.1) (Jv (.inr ((Y,()),()))) (Jv (.inl ((),s.2.1,s.2.2.1,())))
def Ly(x:rQ.M.X):Int×List (zjv.den×zjv.den)×vS:=(x.1.1,x.2.1.2.1.zip x.2.2.1.2.1,x.1.2,x.2)
def qvp(s:vS):rQ.E.X:=((),s.2.1,s.2.2.1,())
def qe3:vS:=(aW _,bN _)
def qxi(y:rQ.M.X):vS ⊕ rQ.R.X:=dt zas ((Ly y).2.1.drop (Ly y).1.toNat) (Ly y).2.2
abbrev rR:Pt:=⟨127,2,⟨[(8,.d i64)],[.x 2 59 aq,.r 2 2 0,.x 3 59 aq,.r 3 3 0]⟩,⟨[],[.x 2 59 aq,.r 2 2 0,.x 3 59 aq,.r 3 3 0]⟩,⟨[(4,.d .bool)],[]⟩⟩
abbrev vT:Type:=ag []×cR [.x 2 59 aq,.r 2 2 0,.x 3 59 aq,.r 3 3 0]
def zat(e:(ar.den×ar.den))(s:vT):Fr (vT ⊕ rR.R.X):=
 Jb (!(qbv.f (e.1,e.2,())).1) (Jv (.inr ((Y,()),()))) (Jv (.inl ((),s.2.1,s.2.2.1,())))
def Lz(x:rR.M.X):Int×List (ar.den×ar.den)×vT:=(x.1.1,x.2.1.2.2.1.zip x.2.2.1.2.2.1,x.1.2,x.2)
def qvq(s:vT):rR.E.X:=((),s.2.1,s.2.2.1,())
def qe4:vT:=(aW _,bN _)
def qxj(y:rR.M.X):vT ⊕ rR.R.X:=dt zat ((Lz y).2.1.drop (Lz y).1.toNat) (Lz y).2.2
abbrev en0(a b:aq.den):rQ.M.X:=((0,()),a,b,())
abbrev o0(a b:aq.den):rQ.E.X:=qvp (dO qe3 (qxi (en0 a b)))
abbrev en1(a b:aq.den):rR.M.X:=((0,()),(o0 a b).2.1,(o0 a b).2.2.1,())
abbrev o1(a b:aq.den):rR.E.X:=qvq (dO qe4 (qxj (en1 a b)))
noncomputable def Ym:Cx:=cx [(70,iD),(113,lx),(140,fM)] []
def Yn:CxOK prog Ym:=aP aG ⟨vF,yK,oT,uT⟩ trivial
def Qo(x:ag [.d ah,.d ay]):Fr (aa [.bool]):=
 let c:=iD.f (x.1,());let b:=lx.f (x.2.1,());let a:=fM.f (x.1.2.2.1,x.2.1.2.2.1,());Jd ((bif bif c.1 then b.1 else Y then a.1 else Y)=Z->¬x.2.1.2.2.2.1<0) (Jv (bif bif bif c.1 then b.1 else Y then a.1 else Y then I6.wrap ((BitVec.ofInt I6.bits (Int.fdiv x.1.2.2.2.2.2.2.2.1 (2 ^ min (Int.toNat x.2.1.2.2.2.1) I6.bits)) &&& BitVec.ofInt I6.bits 1).toNat:Int)==1 else Y,()))
def qkc:af prog 166 (bg [.d ah,.d ay] [.bool] Qo):=
 aS Yn f166
def zbp(t:ah.den)(l:ay.den):Bool:=(Qo (t,l,())).get.1
def ko:Ct:=⟨[.d ah,.d ay],[.bool],λx=>(zbp x.1 x.2.1,()),λ_=>[]⟩
def qww{l:ay.den}(h:yJ l=Z):0<=l.2.2.2.1/\l.2.2.2.1<=7:=by
 unfold yJ xz at h;have e:∀ (b:Bool) (x y:Fr (aa [.bool])),(Jb b x y).get=bif b then x.get else y.get:=λb x y=>by cases b<;>rfl
 simp only[e]at h;have u:∀ z:aa [.bool],(Jv z).get=z:=λ_=>rfl;simp only[u]at h;cases i:(gk.f ((0,7,()),[l.2.2.2.1],())).1;cases m:(gk.f ((1,1000000000,()),[l.1],())).1<;>cases q:(gk.f ((0,1000000000,()),[l.2.1],())).1<;>cases t:(gk.f ((1,292194,()),[l.2.2.1],())).1<;>simp only[m,q,t,i]at h<;>cases h
 have j:rf 0 7 [l.2.2.2.1]=true:=i;unfold rf at j;simpa using j
def zbq {t:ah.den} {l:ay.den} (h:(bif bif Dv t then yJ l else Y then (fM.f (t.2.2.1,l.2.2.1,())).1 else Y)=Z):Dv t=Z/\yJ l=Z/\(fM.f (t.2.2.1,l.2.2.1,())).1=true:=by
 rw[gU,gU,uda,uda]at h;exact⟨h.1.1,h.1.2,h.2⟩
def z7:af prog 166 ko:=conv qkc _ _ (λ_ _ x _ _ _=>by
 obtain⟨t,l,_⟩:=x;refine⟨⟨λh=>?_,uT⟩,rfl⟩;exact ufg.mpr (qww (zbq h).2.1).1)
abbrev dq:Ty:=.pair i64 (.pair i64 .unit)
abbrev bi:Ty:=.pair i64 (.pair ak (.pair aK .unit))
abbrev bS:Ty:=.pair i64 (.pair i64 (.pair i64 (.pair i64 (.pair i64 (.pair i64 .unit)))))
abbrev cK:Ty:=.pair bS (.pair .bool .unit)
abbrev aw:Ty:=.pair i64 (.pair bn .unit)
abbrev ep:Ty:=.pair i64 (.pair i64 (.pair i64 .unit))
abbrev co:Ty:=.pair i64 (.pair i64 (.pair i64 .unit))
abbrev bR:Ty:=.pair i64 (.pair i64 .unit)
abbrev bp:Ty:=.pair i64 (.pair i64 (.pair (.sl bR) .unit))
abbrev bV:Ty:=.pair (.sl bp) .unit
abbrev dw:Ty:=.pair i64 (.pair i64 (.pair i64 (.pair i64 (.pair i64 (.pair i64 (.pair i64 (.pair i64 (.pair i64 (.pair i64 .unit)))))))))
noncomputable def YO:Cx:=cx [(166,ko),(95,iC),(70,iD)] []
def Mz:CxOK prog YO:=aP aG ⟨z7,wL,vF,uT⟩ trivial
def BK(x:ag [.d ah,.d ay]):Fr (aa [i64,.bool]):=
 Jb (bif x.1.2.1 != 1 then Z else !(ko.f x).1) (Jv (0,Y,())) (Jv ((iC.f (x.2.1.2.2.2.2.1,x.1.2.2.2.1,())).1,Z,()))
def qjy:af prog 124 ⟨[.d ah,.d ay],[i64,.bool],λxs=>(BK xs).get,λxs=>[(BK xs).ok]⟩:=
 cf Mz (Λ:=bw) (fn:=f124) (aW [.d ah,.d ay]) (by kernel_rfl) (λc E _=>aY c 0) (λx=>by kernel_rfl)
def AT:Ct:=⟨[.d ah,.d ay],[i64,.bool],λx=>(BK x).get,λ_=>[]⟩
def O5:af prog 124 AT:=conv qjy _ _ (λ_ _ x _ _ _=>⟨by unfold BK;repeat' first|exact trivial|intro _|refine⟨?_,?_⟩|decide,rfl⟩)
def BC(x:ag [.d ah]):Fr (aa [.bool]):=
 Jv (bif (iD.f (x.1,())).1 then x.1.2.1 != 1 else Y,())
def qi8:af prog 203 ⟨[.d ah],[.bool],λxs=>(BC xs).get,λxs=>[(BC xs).ok]⟩:=
 cf Mz (Λ:=bw) (fn:=f203) (aW [.d ah]) (by kernel_rfl) (λc E _=>aY c 0) (λx=>by kernel_rfl)
def AN:Ct:=⟨[.d ah],[.bool],λx=>(BC x).get,λ_=>[]⟩
def qcd:af prog 203 AN:=conv qi8 _ _ (λ_ _ x _ _ _=>⟨uT,rfl⟩)
noncomputable def YR:Cx:=cx [(203,AN),(95,iC),(136,j6)] []
def M1:CxOK prog YR:=aP aG ⟨qcd,wL,xn,uT⟩ trivial
def BA(x:ag [.d ah,.d i64]):Fr (aa [i64]):=
 Jb (bif !(AN.f (x.1,())).1 then Z else J (x.2.1<=x.1.2.2.2.2.1)) (Jv (0,())) (Jv (if I6.wrap (x.2.1-x.1.2.2.2.2.1)<x.1.2.2.2.2.2.1 then I6.wrap (x.2.1-x.1.2.2.2.2.1)else x.1.2.2.2.2.2.1,()))
def qi6:af prog 172 ⟨[.d ah,.d i64],[i64],λxs=>(BA xs).get,λxs=>[(BA xs).ok]⟩:=
 cf M1 (Λ:=bw) (fn:=f172) (aW [.d ah,.d i64]) (by kernel_rfl) (λc E _=>aY c 0) (λx=>by kernel_rfl)
def mF:Ct:=⟨[.d ah,.d i64],[i64],λx=>(BA x).get,λ_=>[]⟩
def O2:af prog 172 mF:=conv qi6 _ _ (λ_ _ x _ _ _=>⟨by unfold BA;repeat' first|exact trivial|intro _|refine⟨?_,?_⟩|decide,rfl⟩)
def BB(x:ag [.d ah]):Fr (aa [i64]):=
 Jb (!(AN.f (x.1,())).1) (Jv (0,())) (Jv (I6.wrap (x.1.2.2.2.2.2.1*I6.wrap (1+x.1.2.2.2.2.2.2.1)),()))
def qi7:af prog 170 ⟨[.d ah],[i64],λxs=>(BB xs).get,λxs=>[(BB xs).ok]⟩:=
 cf M1 (Λ:=bw) (fn:=f170) (aW [.d ah]) (by kernel_rfl) (λc E _=>aY c 0) (λx=>by kernel_rfl)
def tB:Ct:=⟨[.d ah],[i64],λx=>(BB x).get,λ_=>[]⟩
def O3:af prog 170 tB:=conv qi7 _ _ (λ_ _ x _ _ _=>⟨by unfold BB;repeat' first|exact trivial|intro _|refine⟨?_,?_⟩|decide,rfl⟩)
abbrev vi:Pt:=⟨19,0,⟨[(9,.d i64),(8,.d i64),(7,.d aK),(0,.d i64)],[]⟩,⟨[(0,.d i64)],[]⟩,⟨[],[]⟩⟩
def KY(k:Int×(List Int))(b:Prop)(i:Int)(e:i64.den)(s:Int):Fr (Int):=
 Jd b (Jv (if e<s then e else s))
def MT:vi.M.X->Fr vi.Out:=FG (λx=>(x.1.1,(x.1.2.1,x.1.2.2.1),x.1.2.2.2.1)) (λk=>k.1) (λk=>k.2) KY (λk s=>((s,()),()))
def qry:ae prog (.loop (au f139 0)) vi.M vi MT:=
 cN aH (λi k s=>((i,k.1,k.2,s,()),())) i64.dflt
def qmh:=λk s=>bO (KY k True) 0 k.2 s
def qup:=λk s=>bM (KY k True) 0 k.2 s
def zd0(Γ:Gm):St->Option Tr:=vi.han Γ vi.M MT
def Ae:(ps:List PT)->ag ps->Prop
 |[],_=>True
 |.d t::r,x=>Wf t x.1/\Ae r x.2
 |_::r,x=>Ae r x.2
def qh:{ps:List PT} -> {x:ag ps} -> {vs:List Value}->cJ P w F ps x vs->Ae ps x
 |[],_,_,_=>trivial
 |.d _::_,_,_,⟨_,_,_,h,i⟩=>⟨aA.wf h.2.2,qh i⟩
 |.ptr _::r,x,_,⟨_,_,_,_,i⟩=>qh (ps:=r) (x:=x.2) i
 |.fn _ _::r,x,_,⟨_,_,_,_,i⟩=>qh (ps:=r) (x:=x.2) i
 |.pf _ _::r,x,_,⟨_,_,_,_,i⟩=>qh (ps:=r) (x:=x.2) i
 |.pfn _ _::r,x,_,⟨_,_,_,_,i⟩=>qh (ps:=r) (x:=x.2) i
 |.pk f::r,x,_,⟨_,_,_,_,i⟩=>qh (ps:=r) (x:=x.2) i
def bW{ps:List PT}{rs:List Ty}{fr:ag ps->Fr (aa rs)}(h:af P f ⟨ps,rs,λxs=>(fr xs).get,λxs=>[(fr xs).ok]⟩)(ok:ag ps->List Prop)(hg:∀ xs,Ae ps xs->av (ok xs)->(fr xs).ok):af P f ⟨ps,rs,λx=>(fr x).get,ok⟩:=
 conv h _ ok (λ_ _ xs _ j i=>⟨hg xs (qh j) i,rfl⟩)
def Sm{E:Env}{Λ:Nat->St->Option Tr}{c b0 b1:Code}(C:ce c=2)(m:Go.Ab.loopB c 0=U b0)(q:Go.Ab.loopB c 1=U b1)(h0:i5 P E b0 (Λ 0))(u:i5 P E b1 (Λ 1)):bP P E Λ c 0:=by
 refine jJ c 0 λi w j=>?_;have t:=Go.Ab.loopB_lt j
 match i,j,t with
 |0,j,_=>
  rw[m]at j;cases j;exact h0
 |1,j,_=>
  rw[q]at j;cases j;exact u
 |i+2,_,t=>omega
def gt(h:n<=maxLen):InK (n:Int) 0 n:=⟨rfl,ue7 _,ub3 _,by unfold maxLen at h;omega⟩
def uP{step:Int->T->σ->Fr σ}(h:∀ i e s,(step i e s).ok):(l:List T)->(i:Int)->(s:σ)->bM step i l s
 |[],_,_=>trivial
 |_::r,_,_=>⟨h _ _ _,uP h r _ _⟩
def JL{step:Int->T->σ->Fr (σ ⊕ ρ)}(h:∀ i e s,(step i e s).ok):(l:List T)->(i:Int)->(s:σ)->eJ step i l s
 |[],_,_=>trivial
 |_::r,_,_=>⟨h _ _ _,by split;exact JL h r _ _;trivial⟩
def nK{q:Prop}{g:σ}{k:σ->Fr α}(j:p)(hq:q)(i:∀ s,(k s).ok):(cI p q g k).ok:=⟨j,hq,i g⟩
def ss{q:Prop}{g:σ ⊕ ρ}{d:σ}{i:ρ}{k:σ->Fr α}{r:ρ->Fr α}(m:p)(hq:q)(j:∀ s,(k s).ok)(t:∀ y,(r y).ok):(iY p q g d i k r).ok:=⟨m,hq,λ_=>j _,λ_=>t _⟩
def HL(x:ag [.d i64,.d aK]):Fr (aa [i64]):=
 cI (InK (((List.length x.2.1):Int)) 0 (List.length x.2.1)) (qup (((List.length x.2.1):Int),x.2.1) x.1) (qmh (((List.length x.2.1):Int),x.2.1) x.1) (λs0=>Jv (if s0<0 then 0 else s0,()))
def qir:af prog 139 ⟨[.d i64,.d aK],[i64],λxs=>(HL xs).get,λxs=>[(HL xs).ok]⟩:=
 cf aH (Λ:=(λ_=>zd0 dB.Γ)) (fn:=f139) (aW [.d i64,.d aK]) (by kernel_rfl) (λc E hc=>ea hc (by kernel_rfl) (b:=au f139 0) (by kernel_rfl) (ae.han aH rfl qry)) (λx=>by kernel_rfl)
def tA:Ct:=⟨[.d i64,.d aK],[i64],λx=>(HL x).get,λ_=>[]⟩
def O1:af prog 139 tA:=bW qir _ (λx hw _=>nK (gt hw.2.1.1) (by refine uP (λ_ _ _=>?_) _ _ _;exact⟨uT,uT⟩) (λ_=>uT))
noncomputable def Y4:Cx:=cx [(139,tA),(95,iC)] []
def Ml:CxOK prog Y4:=aP aG ⟨O1,wL,uT⟩ trivial
def B6(x:ag [.d ak,.d i64]):Fr (aa [i64]):=
 Jv ((tA.f (I6.wrap (x.2.1-x.1.2.2.2.1),[x.1.2.1],())).1,())
def qiq:af prog 137 ⟨[.d ak,.d i64],[i64],λxs=>(B6 xs).get,λxs=>[(B6 xs).ok]⟩:=
 cf Ml (Λ:=bw) (fn:=f137) (aW [.d ak,.d i64]) (by kernel_rfl) (λc E _=>aY c 0) (λx=>by kernel_rfl)
def AJ:Ct:=⟨[.d ak,.d i64],[i64],λx=>(B6 x).get,λ_=>[]⟩
def qb7:af prog 137 AJ:=bW qiq _ (λx hw _=>uT)
def B7(x:ag [.d ak,.d i64]):Fr (aa [i64]):=
 Jv ((iC.f (x.2.1,x.1.2.2.2.2.1,())).1,())
def qis:af prog 138 ⟨[.d ak,.d i64],[i64],λxs=>(B7 xs).get,λxs=>[(B7 xs).ok]⟩:=
 cf Ml (Λ:=bw) (fn:=f138) (aW [.d ak,.d i64]) (by kernel_rfl) (λc E _=>aY c 0) (λx=>by kernel_rfl)
def AK:Ct:=⟨[.d ak,.d i64],[i64],λx=>(B7 x).get,λ_=>[]⟩
def qb8:af prog 138 AK:=bW qis _ (λx hw _=>uT)
abbrev vN:Ty:=.pair i64 .unit
noncomputable def ZY:FuncId->Option (Func×(Nat->St->Option Tr)):=cu [(171,(f171,bw))]
noncomputable def Y5:Cx:=cW [(166,ko),(172,mF)] [] (fU prog (cx [] []) ZY)
def Y6:CxOK prog Y5:=cZ aG ⟨z7,O2,uT⟩ trivial (gG (aP (cs:=[]) (ps:=[]) aG trivial trivial) (lk (by kernel_rfl) qe))
abbrev vr:Pt:=⟨58,1,⟨[(39,.d i64),(38,.d i64),(37,.d (.sl ay))],[.x 2 44 ah,.r 2 2 0,.o 7 3 i64,.x 35 320 vN,.r 8 35 (1000000000+171)]⟩,⟨[],[.o 7 3 i64]⟩,⟨[],[]⟩⟩
def DW(k:Int×(List ay.den)×ah.den)(b:Prop)(i:Int)(e:ay.den)(s:(List Int)×vN.den):Fr ((List Int)×vN.den):=
 Jd b (Jb ((ko.f (k.2.2,e,())).1) (Jd (0<=i/\i<(s.1.length:Int)) (Jd (Int.toNat i<s.1.length) (Jv (s.1.set (Int.toNat i) (if s.2.1<(mF.f (k.2.2,e.2.2.2.2.1,())).1 then s.2.1 else (mF.f (k.2.2,e.2.2.2.2.1,())).1),I6.wrap (s.2.1-if s.2.1<(mF.f (k.2.2,e.2.2.2.2.1,())).1 then s.2.1 else (mF.f (k.2.2,e.2.2.2.2.1,())).1),())))) (Jv (s.1,s.2.1,())))
def Nf:vr.M.X->Fr vr.Out:=FG (λx=>(x.1.1,(x.1.2.1,x.1.2.2.1,x.2.1),(x.2.2.1,x.2.2.2.1))) (λk=>k.1) (λk=>k.2.1) DW (λk s=>((),s.1,()))
def qsf:ae prog (.loop (au f122 0)) vr.M vr Nf:=
 cN Y6 (λi k s=>((i,k.1,k.2.1,()),k.2.2,s.1,s.2,())) ay.dflt
def QZ:=λk s=>bO (DW k True) 0 k.2.1 s
def Tz:=λk s=>bM (DW k True) 0 k.2.1 s
def zd8(Γ:Gm):St->Option Tr:=vr.han Γ vr.M Nf
def qnh:af prog 165 (eE ay):=
 um (cS (fn:=f165) aH (uE ay (ae.of_run aH (bs:=0) rfl rfl rfl (λ_=>aY _ 0) (λx=>by kernel_rfl))) (ps:=[.d (.sl ay),hZ ay]) (rs:=[i64]) (fr:=oQ ay))
noncomputable def Yq:Cx:=cx [(165,eE ay)] []
def Yr:CxOK prog Yq:=aP aG ⟨qnh,uT⟩ trivial
def NF:af prog 115 (fA ay):=
 conv (aS Yr f115 (fr:=λx=>Jv (J (ii (λn=>(x.2.1 (n,())).1) x.1>=0),())) (ps:=[.d (.sl ay),hZ ay]) (rs:=[.bool])) _ _
  (λ_ _ x _ _ _=>⟨uT,ufp (Cl _ x.1) rfl⟩)
def qni:af prog 58 (eE bR):=
 um (cS (fn:=f58) aH (uE bR (ae.of_run aH (bs:=0) rfl rfl rfl (λ_=>aY _ 0) (λx=>by kernel_rfl))) (ps:=[.d (.sl bR),hZ bR]) (rs:=[i64]) (fr:=oQ bR))
noncomputable def Ys:Cx:=cx [(58,eE bR)] []
def Yt:CxOK prog Ys:=aP aG ⟨qni,uT⟩ trivial
def qap:af prog 37 (fA bR):=
 conv (aS Yt f37 (fr:=λx=>Jv (J (ii (λn=>(x.2.1 (n,())).1) x.1>=0),())) (ps:=[.d (.sl bR),hZ bR]) (rs:=[.bool])) _ _
  (λ_ _ x _ _ _=>⟨uT,ufp (Cl _ x.1) rfl⟩)
def qng:af prog 80 (eE bi):=
 um (cS (fn:=f80) aH (uE bi (ae.of_run aH (bs:=0) rfl rfl rfl (λ_=>aY _ 0) (λx=>by kernel_rfl))) (ps:=[.d (.sl bi),hZ bi]) (rs:=[i64]) (fr:=oQ bi))
noncomputable def Y7:Cx:=cx [(113,lx)] []
def Y8:CxOK prog Y7:=aP aG ⟨yK,uT⟩ trivial
def B9(x:ag [.d ay]):Fr (aa [.bool]):=
 Jv (!(lx.f (x.1,())).1,())
def qi4:af prog 169 ⟨[.d ay],[.bool],λxs=>(B9 xs).get,λxs=>[(B9 xs).ok]⟩:=
 cf Y8 (Λ:=bw) (fn:=f169) (aW [.d ay]) (by kernel_rfl) (λc E _=>aY c 0) (λx=>by kernel_rfl)
def AM:Ct:=⟨[.d ay],[.bool],λx=>(B9 x).get,λ_=>[]⟩
def qcb:af prog 169 AM:=bW qi4 _ (λx hw _=>uT)
noncomputable def Mm:Cx:=cx [(70,iD),(115,fA ay),(169,AM),(170,tB)] []
def Mn:CxOK prog Mm:=aP aG ⟨vF,NF,qcb,O3,uT⟩ trivial
def xx(x:ag [.d ah,.d (.sl ay)]):Fr (aa [aK,i64]):=
 Jd ((bif !(iD.f (x.1,())).1 then Z else x.1.2.1 != 2)=Y->∀ (x:aa [ay]),fi [ay] x->av (AM.ok (x.1,()))) (Jb (bif bif !(iD.f (x.1,())).1 then Z else x.1.2.1 != 2 then Z else ((fA ay).f (x.2.1,λx=>AM.f (x.1,()),())).1) (Jv ([],1,())) (Jb (J (((List.length x.2.1):Int)>2000)) (Jv ([],2,())) (Jd (0<=((List.length x.2.1):Int)/\((List.length x.2.1):Int)<=((List.length x.2.1):Int)/\((List.length x.2.1):Int)<=(maxLen:Int)/\((List.length x.2.1):Int)*(8:Int)<=140737488355328) (cI (InK (((List.length x.2.1):Int)) 0 (List.length x.2.1)) (Tz (((List.length x.2.1):Int),x.2.1,x.1) (List.replicate (((List.length x.2.1):Int)).toNat 0,(tB.f (x.1,())).1,())) (QZ (((List.length x.2.1):Int),x.2.1,x.1) (List.replicate (((List.length x.2.1):Int)).toNat 0,(tB.f (x.1,())).1,())) (λs0=>Jv (s0.1,0,()))))))
def qi5:af prog 122 ⟨[.d ah,.d (.sl ay)],[aK,i64],λxs=>(xx xs).get,λxs=>[(xx xs).ok]⟩:=
 cf Mn (Λ:=(λ_=>zd8 Mm.Γ)) (fn:=f122) (aW [.d ah,.d (.sl ay)]) (by kernel_rfl) (λc E hc=>ea hc (by kernel_rfl) (b:=au f122 0) (by kernel_rfl) (ae.han Mn rfl qsf)) (λx=>by kernel_rfl)
def Sr(h:J ((n:Int)>2000)=Y):n<=2000:=by
 have:=ucg h;omega
def lK{l:List α}(hi:i<n)(j:l.length=n):(0<=(i:Int)/\(i:Int)<(l.length:Int))/\Int.toNat (i:Int)<l.length:=by
 rw[j,ucz];exact⟨⟨ub3 _,Int.ofNat_lt.2 hi⟩,hi⟩
def eD{l:List α}{e:α}(h:l[i]?= U e):i<l.length:=(uak.1 h).1
def qqa(t:ah.den)(l:List ay.den)(s:List Int×vN.den)(j:s.1.length=l.length):
  Tz ((l.length:Int),l,t) s/\(QZ ((l.length:Int),l,t) s).1.length=l.length:=
 dk (step:=DW ((l.length:Int),l,t) True) (λ_ (s:List Int×vN.den)=>s.1.length=l.length) l (λi e s u j=>by
  obtain⟨m,q⟩:=lK (eD u) j;exact⟨uT,λ_=>⟨m,q,(show(List.set _ _ _).length=_ by rw[udl];exact j)⟩,λ_=>j⟩) s j
def Sq(t:ah.den)(l:List ay.den):(xx (t,l,())).satP (λy=>y.1=[]\/y.1.length=l.length):=by
 unfold xx;refine⟨λ_ _ _=>uT,λ_=>.inl rfl,λ_=>⟨λ_=>.inl rfl,λh=>?_⟩⟩;have i:l.length<=2000:=Sr h;exact⟨uH (uel i (by decide)),fz (A:=λ(s:List Int×vN.den)=>s.1.length=l.length) (dI (uel i (by decide))) (qqa t l _ (by
  show(List.replicate _ _).length=_;rw[List.length_replicate,ucz])) (λs j=>.inr j)⟩
def xf:Ct:=⟨[.d ah,.d (.sl ay)],[aK,i64],λx=>(xx x).get,λ_=>[]⟩
def qcc:af prog 122 xf:=bW qi5 _ (λx _ _=>(cO (Sq x.1 x.2.1)).1)
def qqb(t:ah.den)(l:List ay.den):(xf.f (t,l,())).1=[]\/(xf.f (t,l,())).1.length=l.length:=(cO (Sq t l)).2
noncomputable def Mo:Cx:=l8 [(166,ko)] [] [(1000000000000+126,.rw 0 3)] (λ_ _ _ _=>V)
def EJ:CxOK prog Mo:=mI (cs:=[(166,ko)]) (ps:=[]) (rs:=[(1000000000000+126,.rw 0 3)]) aG ⟨z7,uT⟩ trivial ⟨uT,uT⟩ (λ_ _ _ _ _ h=>(nomatch h))
abbrev J8:Ty:=.pair i64 i64
abbrev vn:Pt:=⟨57,0,⟨[(13,.d i64),(12,.d i64),(11,.d (.sl ay))],[.x 2 44 ah,.r 2 2 0,.o 5 (ed 126 0 3) aK,.o 6 dL J8]⟩,⟨[],[.o 5 (ed 126 0 3) aK]⟩,⟨[],[]⟩⟩
def DS(k:Int×(List ay.den)×ah.den)(b:Prop)(i:Int)(e:ay.den)(s:(List (List Int))×(List J8.den)):Fr ((List (List Int))×(List J8.den)):=
 let g:=(s.1.length:Int);let c:=ip s.2 e.2.1 0-1;let a:=I6.wrap c;let d:=s.1.getD a.toNat aK.dflt;Jd b (Jb (!(ko.f (k.2.2,e,())).1) (Jv (s.1,s.2)) (Jb (bif e.2.1 != 0 then J (ip s.2 e.2.1 0>0)else Y) (Jd (0<=I6.wrap c/\I6.wrap c<g) (Jd (a.toNat<s.1.length) (Jd (List.length d + [i].length<=maxLen/\(List.length d + [i].length)*8<=140737488355328) (Jd (0<=I6.wrap c/\I6.wrap c<g) (Jd (a.toNat<s.1.length/\a.toNat=a.toNat) (Jv (s.1.set a.toNat (s.1.getD a.toNat aK.dflt++[i]),s.2))))))) (Jd (s.1.length + [[i]].length<=maxLen/\(s.1.length + [[i]].length)*24<=140737488355328) (Jd (s.2.length<maxLen) (Jv (s.1++[[i]],ec s.2 e.2.1 ((s.1++[[i]]).length:Int)))))))
def MX:vn.M.X->Fr vn.Out:=FG (λx=>(x.1.1,(x.1.2.1,x.1.2.2.1,x.2.1),(x.2.2.1,x.2.2.2.1))) (λk=>k.1) (λk=>k.2.1) DS (λk s=>((),s.1,()))
def qr7:ae prog (.loop (au f173 0)) vn.M vn MX:=
 cN EJ (λi k s=>((i,k.1,k.2.1,()),k.2.2,s.1,s.2,())) ay.dflt
def QW:=λk s=>bO (DS k True) 0 k.2.1 s
def Tu:=λk s=>bM (DS k True) 0 k.2.1 s
def zd4(Γ:Gm):St->Option Tr:=vn.han Γ vn.M MX
def HN(x:ag [.d ah,.d (.sl ay)]):Fr (aa [.sl aK]):=
 cI (InK (((List.length x.2.1):Int)) 0 (List.length x.2.1)) (Tu (((List.length x.2.1):Int),x.2.1,x.1) ([],[])) (QW (((List.length x.2.1):Int),x.2.1,x.1) ([],[])) (λs0=>Jv (s0.1,()))
def qiv:af prog 173 ⟨[.d ah,.d (.sl ay)],[.sl aK],λxs=>(HN xs).get,λxs=>[(HN xs).ok]⟩:=
 cf EJ (Λ:=(λ_=>zd4 Mo.Γ)) (fn:=f173) (aW [.d ah,.d (.sl ay)]) (by kernel_rfl) (λc E hc=>ea hc (by kernel_rfl) (b:=au f173 0) (by kernel_rfl) (ae.han EJ rfl qr7)) (λx=>by kernel_rfl)
def qt0{l:List (Int×Int)}{n:Int}:∀ p∈ec l n y,p∈l\/p=(n,y):=by
 induction l with
 |nil=>intro p i;exact .inr (uce.1 i)
 |cons x r m=>
  intro p i;unfold ec at i;cases j:x.1==n with
  |true=>
   rw[j]at i;rcases uef.1 i with h|h
   exact .inr h;exact .inl (ubi _ h)
  |false=>
   rw[j]at i;rcases uef.1 i with h|h
   exact .inl (h ▸ ucb);rcases m p h with h|h
   exact .inl (ubi _ h);exact .inr h
def qtz{l:List (Int×Int)}{n:Int}:(ec l n y).length<=l.length+1:=by
 induction l with
 |nil=>exact ue6 _
 |cons x r i=>
  unfold ec;cases j:x.1==n with
  |true=>exact Nat.le_succ _
  |false=>exact Nat.succ_le_succ i
def qtw{l:List (Int×Int)}{n:Int}(h:ip l n 0>0):∃ p∈l,p.2=ip l n 0:=by
 unfold ip at h |-;split at h;rename_i x i;exact⟨x,List.mem_of_find?_eq_some i,rfl⟩;exact absurd h (by decide)
structure EvI (n i:Nat) (s:List (List Int)×List (Int×Int)):Prop where
 len:s.1.length<=i
 at_:∀ g∈s.1,g.length<=i/\∀ k∈g,0<=k/\k<(n:Int)
 mlen:s.2.length<=i
 map:∀ p∈s.2,1<=p.2/\p.2<=(s.1.length:Int)
def EvI.up{s:List (List Int)×List (Int×Int)}(h:EvI n i s):EvI n (i+1) s:=
 ⟨Nat.le_succ_of_le h.len,λg hg=>⟨Nat.le_succ_of_le (h.at_ g hg).1,(h.at_ g hg).2⟩,Nat.le_succ_of_le h.mlen,h.map⟩
def EvI.put{s:List (List Int)×List (Int×Int)}(h:EvI n i s)(hi:i<n)(u:j<s.1.length):EvI n (i+1) (s.1.set j (s.1.getD j []++[(i:Int)]),s.2):=by
 have hg:s.1.getD j []∈s.1:=by
  rw[uah,uaq u];exact udg u
 refine⟨?_,λg t=>?_,Nat.le_succ_of_le h.mlen,λp H=>?_⟩;show(List.set _ _ _).length<=_;rw[udl];exact Nat.le_succ_of_le h.len;rcases uap t with m|m
 exact(h.up.at_ g m);subst m;obtain⟨w,C⟩:=h.at_ _ hg;refine⟨?_,λk F=>?_⟩;rw[ub5];exact Nat.succ_le_succ w;rcases udp.1 F with q|q
 exact C k q;rw[uce.1 q];omega;show _/\_<=((List.set _ _ _).length:Int);rw[udl];exact h.map p H
def EvI.new{s:List (List Int)×List (Int×Int)}{m:Int}(h:EvI n i s)(hi:i<n):EvI n (i+1) (s.1++[[(i:Int)]],ec s.2 m ((s.1++[[(i:Int)]]).length:Int)):=by
 have t:(s.1++[[(i:Int)]]).length=s.1.length+1:=by rw[ub5];rfl
 refine⟨?_,λg q=>?_,uel qtz (Nat.succ_le_succ h.mlen),λp w=>?_⟩;show(s.1++[[(i:Int)]]).length<=_;rw[t];exact Nat.succ_le_succ h.len;rcases udp.1 q with j|j
 exact h.up.at_ g j;rw[uce.1 j];refine⟨Nat.succ_le_succ (ufc _),λk u=>?_⟩;rw[uce.1 u];omega;show _/\_<=((s.1++[[(i:Int)]]).length:Int);rcases qt0 p w with j|j
 have:=h.map p j;rw[t];omega;rw[j,t];omega
def HD(t:ah.den)(l:List ay.den)(S:l.length<=1000000):
  Tu ((l.length:Int),l,t) ([],[])/\EvI l.length l.length (QW ((l.length:Int),l,t) ([],[])):=by
 have Q:=ew;refine dk (step:=DS ((l.length:Int),l,t) True) (EvI l.length) l (λi e s H m=>?_) _ ⟨ue6 _,λ_ h=>(nomatch h),ue6 _,λ_ h=>(nomatch h)⟩;have hi:=eD H;refine⟨uT,λ_=>m.up,λ_=>⟨λhc=>?_,λ_=>⟨?_,?_,m.new hi⟩⟩⟩;have q:ip s.2 e.2.1 0>0:=by
  have hc:(bif e.2.1 != 0 then J (ip s.2 e.2.1 0>0)else Y)=true:=hc;cases hb:(e.2.1 != 0)with
  |true=>rw[hb]at hc;exact ucw hc
  |false=>rw[hb]at hc;cases hc
 obtain⟨p,N,C⟩:=qtw q;have j:=m.map p N;rw[C]at j;have F:=m.len;generalize ip s.2 e.2.1 0=v at q j;change Int at v;have hw:I6.wrap (v-1)=v-1:=cz (by omega);rw[hw];have O:1<=v:=j.1;have P:v<=(s.1.length:Int):=j.2;have u:(v-1).toNat<s.1.length:=by omega
 have hg:(s.1.getD (v-1).toNat []).length<=i:=by
  have:s.1.getD (v-1).toNat []∈s.1:=by
   rw[uah,uaq u];exact udg u
  exact(m.at_ _ this).1
 have w:0<=v-1/\v-1<(s.1.length:Int):=⟨by omega,by omega⟩;refine⟨w,u,?_,w,⟨u,rfl⟩,m.put hi u⟩;show(s.1.getD (v-1).toNat []).length+1<=maxLen/\((s.1.getD (v-1).toNat []).length+1)*8<=140737488355328;omega;have F:=m.len;show s.1.length+1<=maxLen/\(s.1.length+1)*24<=140737488355328;omega;have F:=m.mlen;show s.2.length<maxLen;omega
def AL:Ct:=⟨[.d ah,.d (.sl ay)],[.sl aK],λx=>(HN x).get,λx=>[(List.length (α:=ay.den) x.2.1)<=1000000]⟩
def qca:af prog 173 AL:=bW qiv _ (λx hw i=>⟨gt hw.2.1.1,(HD x.1 x.2.1 i).1,uT⟩)
def qg7(t:ah.den)(l:List ay.den)(i:l.length<=1000000):∀ g∈(AL.f (t,l,())).1,g.length<=l.length/\∀ k∈g,0<=k/\k<(l.length:Int):=(HD t l i).2.at_
noncomputable def Y9:Cx:=cx [(113,lx)] []
def EL:CxOK prog Y9:=aP aG ⟨yK,uT⟩ trivial
abbrev vj:Pt:=⟨108,0,⟨[(31,.d i64),(30,.d i64),(29,.d (.sl ay)),(1,.d (.sl ay))],[.x 2 44 ah,.r 2 2 0]⟩,⟨[(1,.d (.sl ay))],[.x 2 44 ah,.r 2 2 0]⟩,⟨[(4,.d aK),(5,.d i64)],[]⟩⟩
def DP(k:Int×(List ay.den)×(List ay.den)×ah.den)(b:Prop)(i:Int)(e:ay.den)(s:Unit):Fr (Unit ⊕ vj.R.X):=
 Jd b (Jb (!(lx.f (e,())).1) (Jv (.inr (([],1,()),()))) (Jv (.inl ())))
def Z6:vj.M.X->Fr vj.Out:=FK (λx=>(x.1.1,(x.1.2.1,x.1.2.2.1,x.1.2.2.2.1,x.2.1),())) (λk=>k.1) (λk=>k.2.1) DP (λk s=>((k.2.2.1,()),k.2.2.2,())) (λ_ y=>Rd.back y) () (aW _,bN _)
def qr4:ae prog (.loop (au f123 0)) vj.M vj Z6:=
 lm EL (λi k s=>((i,k.1,k.2.1,k.2.2.1,()),k.2.2.2,())) ay.dflt
def qmj:=λk s=>da (DP k True) 0 k.2.1 s
def qur:=λk s=>eJ (DP k True) 0 k.2.1 s
abbrev vl:Pt:=⟨108,4,⟨[(57,.d i64),(56,.d i64),(55,.d aK),(1,.d (.sl ay)),(9,.d i64),(11,.d aK),(51,.d i64),(50,.d i64),(49,.d (.sl aK)),(13,.d i64)],[.x 2 44 ah,.r 2 2 0,.o 8 3 i64,.o 12 3 i64]⟩,⟨[(1,.d (.sl ay)),(9,.d i64),(11,.d aK),(51,.d i64),(50,.d i64),(49,.d (.sl aK)),(13,.d i64)],[.x 2 44 ah,.r 2 2 0,.o 8 3 i64,.o 12 3 i64]⟩,⟨[],[]⟩⟩
def DQ(k:Int×(List Int)×(List ay.den)×Int×(List Int)×Int×Int×(List (List Int))×ah.den×(List Int))(b:Prop)(i:Int)(e:i64.den)(s:Int×(List Int)):Fr (Int×(List Int)):=
 let d:=((List.length k.2.2.1):Int);let a:=List.getD k.2.2.1 (Int.toNat e) ay.dflt;let c:=a.2.2.2.2.1;Jd b (Jd (0<=e/\e<d) (Jd (s.2.length + [c].length<=maxLen/\(s.2.length + [c].length)*8<=140737488355328) (Jd (0<=e/\e<d) (Jv (I6.wrap (s.1+c),s.2++[c])))))
noncomputable def R9:Code:=((Go.Ab.loopB (au f123 1) 0).getD .skip)
def MV:vl.M.X->Fr vl.Out:=FG (λx=>(x.1.1,(x.1.2.1,x.1.2.2.1,x.1.2.2.2.1,x.1.2.2.2.2.1,x.1.2.2.2.2.2.1,x.1.2.2.2.2.2.2.1,x.1.2.2.2.2.2.2.2.1,x.1.2.2.2.2.2.2.2.2.1,x.2.1,x.2.2.1),(x.1.2.2.2.2.2.2.2.2.2.1,x.2.2.2.1))) (λk=>k.1) (λk=>k.2.1) DQ (λk s=>((k.2.2.1,k.2.2.2.1,k.2.2.2.2.1,k.2.2.2.2.2.1,k.2.2.2.2.2.2.1,k.2.2.2.2.2.2.2.1,s.1,()),(k.2.2.2.2.2.2.2.2.1,k.2.2.2.2.2.2.2.2.2,s.2,())))
def qr5:ae prog (.loop R9) vl.M vl MV:=
 cN EL (λi k s=>((i,k.1,k.2.1,k.2.2.1,k.2.2.2.1,k.2.2.2.2.1,k.2.2.2.2.2.1,k.2.2.2.2.2.2.1,k.2.2.2.2.2.2.2.1,s.1,()),k.2.2.2.2.2.2.2.2.1,k.2.2.2.2.2.2.2.2.2,s.2,())) i64.dflt
def QU:=λk s=>bO (DQ k True) 0 k.2.1 s
def Ts:=λk s=>bM (DQ k True) 0 k.2.1 s
def zd2(Γ:Gm):St->Option Tr:=vl.han Γ vl.M MV
abbrev vm:Pt:=⟨108,6,⟨[(93,.d i64),(92,.d i64),(91,.d aK),(1,.d (.sl ay)),(9,.d i64),(11,.d aK),(51,.d i64),(50,.d i64),(49,.d (.sl aK))],[.x 2 44 ah,.r 2 2 0,.o 8 3 i64]⟩,⟨[(1,.d (.sl ay)),(9,.d i64),(51,.d i64),(50,.d i64),(49,.d (.sl aK))],[.x 2 44 ah,.r 2 2 0,.o 8 3 i64]⟩,⟨[],[]⟩⟩
def DR(k:Int×(List Int)×(List ay.den)×Int×(List Int)×Int×Int×(List (List Int))×ah.den)(b:Prop)(i:Int)(e:i64.den)(s:(List Int)):Fr ((List Int)):=
 let d:=Int.toNat i;let c:=k.2.2.2.2.1;let a:=List.getD c d i64.dflt;Jd b (Jd (0<=i/\i<((List.length c):Int)) (Jd (0<=List.getD c d i64.dflt/\List.getD c d i64.dflt<(s.length:Int)) (Jd (Int.toNat a<s.length) (Jv (s.set (Int.toNat a) e)))))
noncomputable def RA:Code:=((Go.Ab.loopB (au f123 1) 1).getD .skip)
def MW:vm.M.X->Fr vm.Out:=FG (λx=>(x.1.1,(x.1.2.1,x.1.2.2.1,x.1.2.2.2.1,x.1.2.2.2.2.1,x.1.2.2.2.2.2.1,x.1.2.2.2.2.2.2.1,x.1.2.2.2.2.2.2.2.1,x.1.2.2.2.2.2.2.2.2.1,x.2.1),x.2.2.1)) (λk=>k.1) (λk=>k.2.1) DR (λk s=>((k.2.2.1,k.2.2.2.1,(k.2.2.2.2.2.1,k.2.2.2.2.2.2.1,k.2.2.2.2.2.2.2.1,())),(k.2.2.2.2.2.2.2.2,s,())))
def qr6:ae prog (.loop RA) vm.M vm MW:=
 cN EL (λi k s=>((i,k.1,k.2.1,k.2.2.1,k.2.2.2.1,k.2.2.2.2.1,k.2.2.2.2.2.1,k.2.2.2.2.2.2.1,k.2.2.2.2.2.2.2.1,()),k.2.2.2.2.2.2.2.2,s,())) i64.dflt
def QV:=λk s=>bO (DR k True) 0 k.2.1 s
def Tt:=λk s=>bM (DR k True) 0 k.2.1 s
def zd3(Γ:Gm):St->Option Tr:=vm.han Γ vm.M MW
noncomputable def EM:Cx:=cx [(70,iD),(113,lx),(172,mF),(170,tB),(174,wW),(173,AL)] []
def zO:CxOK prog EM:=aP aG ⟨vF,yK,O2,O3,zak,qca,uT⟩ trivial
abbrev Di:Pt:=⟨108,2,⟨[(51,.d i64),(50,.d i64),(49,.d (.sl aK)),(1,.d (.sl ay)),(9,.d i64)],[.x 2 44 ah,.r 2 2 0,.o 8 3 i64]⟩,⟨[],[.o 8 3 i64]⟩,⟨[],[]⟩⟩
def Cy(k:Int×(List (List Int))×(List ay.den)×ah.den)(i:Int)(e:List Int)(s:Int×List Int):Int×(List Int)×(List ay.den)×Int×(List Int)×Int×Int×(List (List Int))×ah.den×(List Int):=((e.length:Int),e,k.2.2.1,s.1,e,i,k.1,k.2.1,k.2.2.2,s.2)
def Aq(t:ah.den)(left sum:Int):Int:=if (mF.f (t,sum,())).1<left then (mF.f (t,sum,())).1 else left
def tK(t:ah.den)(left:Int)(r:Int×List Int):List Int:=(wW.f (Aq t left r.1,r.2,())).1
def Jh(k:Int×(List (List Int))×(List ay.den)×ah.den)(i:Int)(e:List Int)(s:Int×List Int)(r:Int×List Int):Int×(List Int)×(List ay.den)×Int×(List Int)×Int×Int×(List (List Int))×ah.den:=
 (((tK k.2.2.2 s.1 r).length:Int),tK k.2.2.2 s.1 r,k.2.2.1,I6.wrap (s.1-Aq k.2.2.2 s.1 r.1),e,i,k.1,k.2.1,k.2.2.2)
def DO(k:Int×(List (List Int))×(List ay.den)×ah.den)(b:Prop)(i:Int)(e:aK.den)(s:Int×List Int):Fr (Int×List Int):=
 Jd b (cI (InK (List.length e:Int) 0 (List.length e)) (Ts (Cy k i e s) (0,[])) (QU (Cy k i e s) (0,[])) (λr=>
  cI (InK ((tK k.2.2.2 s.1 r).length:Int) 0 (tK k.2.2.2 s.1 r).length) (Tt (Jh k i e s r) s.2) (QV (Jh k i e s r) s.2) (λo=>Jv (I6.wrap (s.1-Aq k.2.2.2 s.1 r.1),o))))
def Z5:Di.M.X->Fr Di.Out:=FG (λx=>(x.1.1,(x.1.2.1,x.1.2.2.1,x.1.2.2.2.1,x.2.1),(x.1.2.2.2.2.1,x.2.2.1))) (λk=>k.1) (λk=>k.2.1) DO (λk s=>((),s.2,()))
def qr3:ae prog (.loop (au f123 1)) Di.M Di Z5:=
 cN zO (λi k s=>((i,k.1,k.2.1,k.2.2.1,s.1,()),k.2.2.2,s.2,())) aK.dflt (Λ:=(λk=>if k=0 then zd2 EM.Γ else zd3 EM.Γ)) (hΛ:=λ_=>Sm (by kernel_rfl) (b0:=R9) (b1:=RA) (by kernel_rfl) (by kernel_rfl) (ae.han zO rfl qr5) (ae.han zO rfl qr6))
def QT:=λk s=>bO (DO k True) 0 k.2.1 s
def Tq:=λk s=>bM (DO k True) 0 k.2.1 s
def RY(t:ah.den)(l:List ay.den):Int×(List ay.den)×(List ay.den)×ah.den:=((l.length:Int),l,l,t)
def tT(t:ah.den)(l:List ay.den):List (List Int):=(AL.f (t,l,())).1
def B8(x:ag [.d ah,.d (.sl ay)]):Fr (aa [aK,i64]):=
 Jb (bif x.1.2.1 != 3 then Z else !(iD.f (x.1,())).1) (Jv ([],1,()))
  (iY (InK (List.length x.2.1:Int) 0 (List.length x.2.1)) (qur (RY x.1 x.2.1) ()) (qmj (RY x.1 x.2.1) ()) () (aW _,bN _) (λ_=>
   Jb (J ((List.length x.2.1:Int)>2000)) (Jv ([],2,()))
    (Jd (0<=((List.length x.2.1):Int)/\((List.length x.2.1):Int)<=((List.length x.2.1):Int)/\((List.length x.2.1):Int)<=(maxLen:Int)/\((List.length x.2.1):Int)*(8:Int)<=140737488355328)
     (Jd (List.length x.2.1<=1000000)
      (cI (InK ((tT x.1 x.2.1).length:Int) 0 (tT x.1 x.2.1).length) (Tq (((tT x.1 x.2.1).length:Int),tT x.1 x.2.1,x.2.1,x.1) ((tB.f (x.1,())).1,List.replicate (((List.length x.2.1):Int)).toNat 0)) (QT (((tT x.1 x.2.1).length:Int),tT x.1 x.2.1,x.2.1,x.1) ((tB.f (x.1,())).1,List.replicate (((List.length x.2.1):Int)).toNat 0))
       (λs=>Jv (s.2,0,())))))) (λy=>Jv y.1))
def qiu:af prog 123 (bg [.d ah,.d (.sl ay)] [aK,i64] B8):=
 oP zO qr4 qr3 (fn:=f123)
def qgt(k:Int×(List (List Int))×(List ay.den)×ah.den)(i:Int)(e:List Int)(s:Int×List Int)(u:e.length<=100000/\∀ x∈e,0<=x/\x<(k.2.2.1.length:Int)):
  Ts (Cy k i e s) (0,[])/\(QU (Cy k i e s) (0,[])).2.length=e.length:=
 dk (step:=DQ (Cy k i e s) True) (λj (r:Int×List Int)=>r.2.length=j) e (λj x r t q=>by
  have C:=eD t;have F:=ew;have m:=u.2 x (ubf t);have w:r.2.length<=99999:=by rw[q];omega
  refine⟨uT,m,?_,m,?_⟩;show r.2.length+1<=maxLen/\(r.2.length+1)*8<=140737488355328;omega;show(_++[_]).length=_;rw[ub5];exact ufo (· + 1) q) _ rfl
def qgu(k:Int×(List Int)×(List ay.den)×Int×(List Int)×Int×Int×(List (List Int))×ah.den)(o:List Int)(t:k.2.1.length<=k.2.2.2.2.1.length)(u:∀ x∈k.2.2.2.2.1,0<=x/\x<(o.length:Int)):
  Tt k o/\(QV k o).length=o.length:=
 dk (step:=DR k True) (λ_ (r:List Int)=>r.length=o.length) k.2.1 (λj x r w q=>by
  have m:j<k.2.2.2.2.1.length:=uca (eD w) t;have i:0<=List.getD k.2.2.2.2.1 (Int.toNat (j:Int)) i64.dflt/\List.getD k.2.2.2.2.1 (Int.toNat (j:Int)) i64.dflt<(r.length:Int):=by
   rw[ucz,uah,uaq m,q];exact u _ (udg m)
  refine⟨uT,(lK m rfl).1,i,?_,?_⟩;generalize List.getD k.2.2.2.2.1 (Int.toNat (j:Int)) i64.dflt=v at i;change Int at v;omega;show(List.set _ _ _).length=_;rw[udl];exact q) _ rfl
def qgw(k:Int×(List (List Int))×(List ay.den)×ah.den)(s:Int×List Int)(C:s.2.length=k.2.2.1.length)(hg:∀ g∈k.2.1,g.length<=100000/\∀ x∈g,0<=x/\x<(k.2.2.1.length:Int)):
  Tq k s/\(QT k s).2.length=k.2.2.1.length:=
 dk (step:=DO k True) (λ_ (r:Int×List Int)=>r.2.length=k.2.2.1.length) k.2.1 (λj e r u t=>by
  have i:=hg e (ubf u);refine⟨uT,fz (A:=λ(q:Int×List Int)=>q.2.length=List.length e) (dI (uel i.1 (by decide))) (qgt k j e r i) (λq hq=>?_)⟩;have m:(tK k.2.2.2 r.1 q).length<=List.length e:=by
   rcases zaj (Aq k.2.2.2 r.1 q.1) q.2 with h|h
   have:tK k.2.2.2 r.1 q=[]:=h;rw[this];exact ufc _;exact Nat.le_of_eq (h.trans hq)
  exact fz (A:=λ(o:List Int)=>o.length=r.2.length) (dI (uel m (uel i.1 (by decide)))) (qgu (Jh k j e r q) r.2 m (by rw[t];exact i.2)) (λo w=>w.trans t)) s C
def PF(t:ah.den)(l:List ay.den)(hw:l.length<=maxLen):(B8 (t,l,())).satP (λy=>y.1=[]\/y.1.length=l.length):=by
 unfold B8;refine⟨λ_=>.inl rfl,λ_=>E3 (A:=λ_=>True) (B:=λy=>y.1.1=[]) (gt hw) (nm (step:=DP (RY t l) True) (λ_ _=>True) (λ(y:vj.R.X)=>y.1.1=[]) l (λ_ _ _ _ _=>⟨uT,λ_=>rfl,λ_=>uT⟩) () trivial) (λ_ _=>⟨λ_=>.inl rfl,λh=>?_⟩) (λy C=>.inl C)⟩;have i:l.length<=2000:=Sr h;refine⟨uH (uel i (by decide)),uel i (by decide),?_⟩;have m:l.length<=1000000:=uel i (by decide);have j:(tT t l).length<=l.length:=(HD t l m).2.len;refine fz (A:=λ(s:Int×List Int)=>s.2.length=l.length) (dI (uel j (uel i (by decide)))) (qgw (((tT t l).length:Int),tT t l,l,t) _ ?_ (λg hg=>?_)) (λs w=>.inr w);show(List.replicate _ _).length=_;rw[List.length_replicate,ucz];obtain⟨q,u⟩:=qg7 t l m g hg;exact⟨uel q (uel i (by decide)),u⟩
def xd:Ct:=⟨[.d ah,.d (.sl ay)],[aK,i64],λx=>(B8 x).get,λ_=>[]⟩
def qb9:af prog 123 xd:=bW qiu _ (λx hw _=>(cO (PF x.1 x.2.1 hw.2.1.1)).1)
def qg6(t:ah.den)(l:List ay.den)(hw:l.length<=maxLen):(xd.f (t,l,())).1=[]\/(xd.f (t,l,())).1.length=l.length:=(cO (PF t l hw)).2
abbrev J7:Ty:=.pair i64 .bool
noncomputable def YA:Cx:=cx [(166,ko),(124,AT)] []
def EN:CxOK prog YA:=aP aG ⟨z7,O5,uT⟩ trivial
abbrev rU:Pt:=⟨21,0,⟨[(9,.d i64),(8,.d i64),(7,.d (.sl ah))],[.o 3 dL J7]⟩,⟨[],[]⟩,⟨[(2,.d .bool)],[]⟩⟩
def Ei(k:Int×(List ah.den))(b:Prop)(i:Int)(e:ah.den)(s:(List J7.den)):Fr (((List J7.den)) ⊕ rU.R.X):=
 Jd b (Jb (ip s e.1 Y) (Jv (.inr ((Z,()),()))) (Jd (s.length<maxLen) (Jv (.inl (ec s e.1 Z)))))
def Nt:rU.M.X->Fr rU.Out:=FK (λx=>(x.1.1,(x.1.2.1,x.1.2.2.1),x.2.1)) (λk=>k.1) (λk=>k.2) Ei (λk s=>((),())) (λ_ y=>Rd.back y) ([]) (aW _,bN _)
def qtd:ae prog (.loop (au f116 0)) rU.M rU Nt:=
 lm EN (λi k s=>((i,k.1,k.2,()),s,())) ah.dflt
def qmr:=λk s=>da (Ei k True) 0 k.2 s
def T5:=λk s=>eJ (Ei k True) 0 k.2 s
def zei(Γ:Gm):St->Option Tr:=rU.han Γ rU.M Nt
abbrev vE:Pt:=⟨29,0,⟨[(10,.d i64),(9,.d i64),(8,.d (.sl ah)),(5,.d i64)],[.x 3 101 ay,.r 3 3 0]⟩,⟨[(5,.d i64)],[]⟩,⟨[],[]⟩⟩
def Lf(k:Int×(List ah.den)×ay.den)(b:Prop)(i:Int)(e:ah.den)(s:Int):Fr (Int):=
 Jd b (Jb (bif e.2.1==1 then (ko.f (e,k.2.2,())).1 else Y) (Jv (I6.wrap (s+e.2.2.2.1))) (Jv s))
def Ns:vE.M.X->Fr vE.Out:=FG (λx=>(x.1.1,(x.1.2.1,x.1.2.2.1,x.2.1),x.1.2.2.2.1)) (λk=>k.1) (λk=>k.2.1) Lf (λk s=>((s,()),()))
def qtc:ae prog (.loop (au f118 0)) vE.M vE Ns:=
 cN EN (λi k s=>((i,k.1,k.2.1,s,()),k.2.2,())) ah.dflt
def qmq:=λk s=>bO (Lf k True) 0 k.2.1 s
def qux:=λk s=>bM (Lf k True) 0 k.2.1 s
def zeh(Γ:Gm):St->Option Tr:=vE.han Γ vE.M Ns
abbrev vD:Pt:=⟨47,1,⟨[(15,.d i64),(14,.d i64),(13,.d (.sl ay))],[.x 2 44 ah,.r 2 2 0,.o 5 3 i64]⟩,⟨[],[.o 5 3 i64]⟩,⟨[],[]⟩⟩
def Eh(k:Int×(List ay.den)×ah.den)(b:Prop)(i:Int)(e:ay.den)(s:(List Int)):Fr ((List Int)):=
 Jd b (Jd (0<=i/\i<(s.length:Int)) (Jd (Int.toNat i<s.length) (Jv (s.set (Int.toNat i) (AT.f (k.2.2,e,())).1))))
def Nr:vD.M.X->Fr vD.Out:=FG (λx=>(x.1.1,(x.1.2.1,x.1.2.2.1,x.2.1),x.2.2.1)) (λk=>k.1) (λk=>k.2.1) Eh (λk s=>((),s,()))
def qtb:ae prog (.loop (au f76 0)) vD.M vD Nr:=
 cN EN (λi k s=>((i,k.1,k.2.1,()),k.2.2,s,())) ay.dflt
def qmp:=λk s=>bO (Eh k True) 0 k.2.1 s
def quw:=λk s=>bM (Eh k True) 0 k.2.1 s
def zeg(Γ:Gm):St->Option Tr:=vD.han Γ vD.M Nr
noncomputable def zP:Cx:=cx [(166,ko),(124,AT),(122,xf),(123,xd),(70,iD),(113,lx)] []
def nN:CxOK prog zP:=aP aG ⟨z7,O5,qcc,qb9,vF,yK,uT⟩ trivial
def Id(x:ag [.d (.sl ah)]):Fr (aa [.bool]):=
 iY (InK (((List.length x.1):Int)) 0 (List.length x.1)) (T5 (((List.length x.1):Int),x.1) []) (qmr (((List.length x.1):Int),x.1) []) ([]) (aW _,bN _) (λ_=>Jv (Y,())) (λi=>Jv (i.1.1,()))
def qkl:af prog 116 ⟨[.d (.sl ah)],[.bool],λxs=>(Id xs).get,λxs=>[(Id xs).ok]⟩:=
 cf nN (Λ:=(λ_=>zei zP.Γ)) (fn:=f116) (aW [.d (.sl ah)]) (by kernel_rfl) (λc E hc=>ea hc (by kernel_rfl) (b:=au f116 0) (by kernel_rfl) (ae.han nN rfl qtd)) (λx=>by kernel_rfl)
def Ic(x:ag [.d (.sl ah),.d ay]):Fr (aa [.bool]):=
 cI (InK (((List.length x.1):Int)) 0 (List.length x.1)) (qux (((List.length x.1):Int),x.1,x.2.1) 0) (qmq (((List.length x.1):Int),x.1,x.2.1) 0) (λs1=>Jv (J (s1>10000),()))
def qkk:af prog 118 ⟨[.d (.sl ah),.d ay],[.bool],λxs=>(Ic xs).get,λxs=>[(Ic xs).ok]⟩:=
 cf nN (Λ:=(λ_=>zeh zP.Γ)) (fn:=f118) (aW [.d (.sl ah),.d ay]) (by kernel_rfl) (λc E hc=>ea hc (by kernel_rfl) (b:=au f118 0) (by kernel_rfl) (ae.han nN rfl qtc)) (λx=>by kernel_rfl)
def BM(x:ag [.d ah,.d (.sl ay)]):Fr (aa [aK]):=
 Jd (0<=((List.length x.2.1):Int)/\((List.length x.2.1):Int)<=((List.length x.2.1):Int)/\((List.length x.2.1):Int)<=(maxLen:Int)/\((List.length x.2.1):Int)*(8:Int)<=140737488355328) (Jb (x.1.2.1==2) (Jv ((xf.f x).1,())) (Jb (x.1.2.1==3) (Jv ((xd.f x).1,())) (cI (InK (((List.length x.2.1):Int)) 0 (List.length x.2.1)) (quw (((List.length x.2.1):Int),x.2.1,x.1) (List.replicate (((List.length x.2.1):Int)).toNat 0)) (qmp (((List.length x.2.1):Int),x.2.1,x.1) (List.replicate (((List.length x.2.1):Int)).toNat 0)) (λs2=>Jv (s2,())))))
def qkg:af prog 76 ⟨[.d ah,.d (.sl ay)],[aK],λxs=>(BM xs).get,λxs=>[(BM xs).ok]⟩:=
 cf nN (Λ:=(λ_=>zeg zP.Γ)) (fn:=f76) (aW [.d ah,.d (.sl ay)]) (by kernel_rfl) (λc E hc=>ea hc (by kernel_rfl) (b:=au f76 0) (by kernel_rfl) (ae.han nN rfl qtb)) (λx=>by kernel_rfl)
def BN(x:ag [.d ah]):Fr (aa [.bool]):=
 Jv (!(iD.f (x.1,())).1,())
def qkh:af prog 111 ⟨[.d ah],[.bool],λxs=>(BN xs).get,λxs=>[(BN xs).ok]⟩:=
 cf nN (Λ:=bw) (fn:=f111) (aW [.d ah]) (by kernel_rfl) (λc E _=>aY c 0) (λx=>by kernel_rfl)
def xg:Ct:=⟨[.d ah],[.bool],λx=>(BN x).get,λ_=>[]⟩
def qcx:af prog 111 xg:=bW qkh _ (λx hw _=>uT)
def BO(x:ag [.d ay]):Fr (aa [.bool]):=
 Jv (!(lx.f (x.1,())).1,())
def qki:af prog 112 ⟨[.d ay],[.bool],λxs=>(BO xs).get,λxs=>[(BO xs).ok]⟩:=
 cf nN (Λ:=bw) (fn:=f112) (aW [.d ay]) (by kernel_rfl) (λc E _=>aY c 0) (λx=>by kernel_rfl)
def AU:Ct:=⟨[.d ay],[.bool],λx=>(BO x).get,λ_=>[]⟩
def qcy:af prog 112 AU:=bW qki _ (λx hw _=>uT)
def zcg(l:List ah.den)(u:l.length<=1000000):T5 ((l.length:Int),l) []:=
 (nm (step:=Ei ((l.length:Int),l) True) (λi (s:List (Int×Bool))=>s.length<=i) (λ_=>True) l (λi e s j m=>by
  have hi:=eD j;have t:=ew;refine⟨uT,λ_=>uT,λ_=>⟨?_,?_⟩⟩;show s.length<maxLen;omega;show(ec s e.1 Z).length<=i+1;have:∀ (l:List (Int×Bool)) (n:Int) (y:Bool),(ec l n y).length<=l.length+1:=λl n y=>by
   induction l with
   |nil=>exact ue6 _
   |cons x r q=>
    unfold ec;cases w:x.1==n with
    |true=>exact Nat.le_succ _
    |false=>exact Nat.succ_le_succ q
  exact uel (this _ _ _) (Nat.succ_le_succ m)) [] (ue6 _)).1
def GQ:Ct:=⟨[.d (.sl ah)],[.bool],λx=>(Id x).get,λx=>[List.length (α:=ah.den) x.1<=1000000]⟩
def qc2:af prog 116 GQ:=bW qkl _ (λx hw i=>ss (gt hw.1.1) (zcg x.1 i) (λ_=>uT) (λ_=>uT))
def GP:Ct:=⟨[.d (.sl ah),.d ay],[.bool],λx=>(Ic x).get,λ_=>[]⟩
def qc1:af prog 118 GP:=bW qkk _ (λx hw _=>nK (gt hw.1.1) (by refine uP (λ_ _ _=>?_) _ _ _;exact⟨uT,λ_=>uT,λ_=>uT⟩) (λ_=>uT))
def VQ(t:ah.den)(l:List ay.den)(m:l.length<=1000000):(BM (t,l,())).satP (λy=>y.1=[]\/y.1.length=l.length):=by
 have q:l.length<=maxLen:=uel m ew;refine⟨uH m,λ_=>qqb t l,λ_=>⟨λ_=>qg6 t l q,λ_=>?_⟩⟩;refine fz (A:=λ(s:List Int)=>s.length=l.length) (gt q) (dk (step:=Eh ((l.length:Int),l,t) True) (λ_ (s:List Int)=>s.length=l.length) l (λi e s C j=>?_) _ ?_) (λs j=>.inr j);obtain⟨u,w⟩:=lK (eD C) j;exact⟨uT,u,w,(show(List.set _ _ _).length=_ by rw[udl];exact j)⟩;show(List.replicate _ _).length=_;rw[List.length_replicate,ucz]
def tE:Ct:=⟨[.d ah,.d (.sl ay)],[aK],λx=>(BM x).get,λx=>[List.length (α:=ay.den) x.2.1<=1000000]⟩
def qcw:af prog 76 tE:=bW qkg _ (λx _ i=>(cO (VQ x.1 x.2.1 i)).1)
def zbs(t:ah.den)(l:List ay.den)(i:l.length<=1000000):(tE.f (t,l,())).1=[]\/(tE.f (t,l,())).1.length=l.length:=(cO (VQ t l i)).2
noncomputable def YB:Cx:=cx [(118,GP)] []
def YC:CxOK prog YB:=aP aG ⟨qc1,uT⟩ trivial
def BP(x:ag [.d ay,.ptr (.sl ah)]):Fr (aa [.bool]):=
 Jv ((GP.f (x.2.1,x.1,())).1,())
def qkj:af prog 117 ⟨[.d ay,.ptr (.sl ah)],[.bool],λxs=>(BP xs).get,λxs=>[(BP xs).ok]⟩:=
 cf YC (Λ:=bw) (fn:=f117) (aW [.d ay,.ptr (.sl ah)]) (by kernel_rfl) (λc E _=>aY c 0) (λx=>by kernel_rfl)
def AW:Ct:=⟨[.d ay,.ptr (.sl ah)],[.bool],λx=>(BP x).get,λ_=>[]⟩
def qcz:af prog 117 AW:=bW qkj _ (λx hw _=>uT)
noncomputable def YD:Cx:=cx [(115,fA ay),(114,fA ah),(111,xg),(112,AU),(117,AW),(116,GQ)] []
def YE:CxOK prog YD:=aP aG ⟨NF,Fu,qcx,qcy,qcz,qc2,uT⟩ trivial
def SP(ts:List ah.den)(l:List ay.den):Fr (aa [i64]):=
 Jd (ts.length<=1000000) (Jb (GQ.f (ts,())).1 (Jv (8,())) (Jd (∀ (x:aa [ay]),fi [ay] x->av (AW.ok (x.1,ts,()))) (Jb ((fA ay).f (l,λx=>AW.f (x.1,ts,()),())).1 (Jv (13,())) (Jv (0,())))))
def JB(ts:List ah.den)(l:List ay.den):Fr (aa [i64]):=
 Jb (J ((ts.length:Int)>100)) (Jb (J ((ts.length:Int)>100)) (Jv (2,())) (SP ts l)) (Jb (J ((l.length:Int)>2000)) (Jv (2,())) (SP ts l))
def Ib(x:ag [.d (.sl ah),.d (.sl ay)]):Fr (aa [i64]):=
 Jd (∀ (x:aa [ah]),fi [ah] x->av (xg.ok (x.1,())))
  (Jb ((fA ah).f (x.1,λx=>xg.f (x.1,()),())).1 (Jb ((fA ah).f (x.1,λx=>xg.f (x.1,()),())).1 (Jv (1,())) (JB x.1 x.2.1))
   (Jd (∀ (x:aa [ay]),fi [ay] x->av (AU.ok (x.1,()))) (Jb ((fA ay).f (x.2.1,λx=>AU.f (x.1,()),())).1 (Jv (1,())) (JB x.1 x.2.1))))
def Nw(ts:List ah.den)(l:List ay.den)(y:aa [i64]):Prop:=y.1=0->ts.length<=100/\l.length<=2000
def SO(ts:List ah.den)(l:List ay.den):(JB ts l).satP (Nw ts l):=by
 refine⟨λh=>⟨λ_ h=>(by cases h),λi=>(by rw[h]at i;cases i)⟩,λh=>⟨λ_ h=>(by cases h),λj=>?_⟩⟩;have m:=ucg h;have q:=ucg j;refine⟨by omega,λ_ h=>(by cases h),λ_=>⟨λ_ _=>uT,λ_ h=>(by cases h),λ_ _=>⟨by omega,by omega⟩⟩⟩
def SQ(ts:List ah.den)(l:List ay.den):(Ib (ts,l,())).satP (Nw ts l):=
 ⟨λ_ _=>uT,λ_=>⟨λ_ h=>(by cases h),λ_=>SO ts l⟩,λ_=>⟨λ_ _=>uT,λ_ h=>(by cases h),λ_=>SO ts l⟩⟩
def tF:Ct:=⟨[.d (.sl ah),.d (.sl ay)],[i64],λx=>(Ib x).get,λ_=>[]⟩
def qc0:af prog 73 tF:=bW (aS YE f73 (fr:=Ib)) _ (λx _ _=>(cO (SQ x.1 x.2.1)).1)
def qtr(ts:List ah.den)(l:List ay.den)(h:(tF.f (ts,l,())).1=0):ts.length<=100/\l.length<=2000:=(cO (SQ ts l)).2 h
noncomputable def Mp:Cx:=cx [(157,mC)] []
def EP:CxOK prog Mp:=aP aG ⟨Be,uT⟩ trivial
abbrev rS:Pt:=⟨36,0,⟨[(11,.d i64),(10,.d i64),(9,.d aK),(0,.d aK),(1,.d aK)],[]⟩,⟨[(1,.d aK),(0,.d aK)],[]⟩,⟨[(4,.d i64)],[]⟩⟩
def Eb(k:Int×(List Int)×(List Int)×(List Int))(b:Prop)(i:Int)(e:i64.den)(s:Unit):Fr (Unit ⊕ rS.R.X):=
 let c:=((List.length k.2.2.2):Int);let a:=mC.f (e,List.getD k.2.2.2 (Int.toNat i) i64.dflt,());Jd b (Jb (J (i>=c)) (Jv (.inr ((1,()),()))) (Jd (0<=i/\i<c) (Jb (a.1 != 0) (Jv (.inr ((a.1,()),()))) (Jv (.inl ())))))
def Np:rS.M.X->Fr rS.Out:=FK (λx=>(x.1.1,(x.1.2.1,x.1.2.2.1,x.1.2.2.2.1,x.1.2.2.2.2.1),())) (λk=>k.1) (λk=>k.2.1) Eb (λk s=>((k.2.2.2,k.2.2.1,()),())) (λ_ y=>Rd.back y) () (aW _,bN _)
def qs2:ae prog (.loop (au f319 0)) rS.M rS Np:=
 lm EP (λi k s=>((i,k.1,k.2.1,k.2.2.1,k.2.2.2,()),())) i64.dflt
def qmo:=λk s=>da (Eb k True) 0 k.2.1 s
def quv:=λk s=>eJ (Eb k True) 0 k.2.1 s
def zef(Γ:Gm):St->Option Tr:=rS.han Γ rS.M Np
def Ia(x:ag [.d aK,.d aK]):Fr (aa [i64]):=
 iY (InK (((List.length x.1):Int)) 0 (List.length x.1)) (quv (((List.length x.1):Int),x.1,x.1,x.2.1) ()) (qmo (((List.length x.1):Int),x.1,x.1,x.2.1) ()) () (aW _,bN _) (λ_=>Jb (J (((List.length x.1):Int)<((List.length x.2.1):Int))) (Jv (-1,())) (Jv (0,()))) (λi=>Jv (i.1.1,()))
def qj5:af prog 319 ⟨[.d aK,.d aK],[i64],λxs=>(Ia xs).get,λxs=>[(Ia xs).ok]⟩:=
 cf EP (Λ:=(λ_=>zef Mp.Γ)) (fn:=f319) (aW [.d aK,.d aK]) (by kernel_rfl) (λc E hc=>ea hc (by kernel_rfl) (b:=au f319 0) (by kernel_rfl) (ae.han EP rfl qs2)) (λx=>by kernel_rfl)
def GO:Ct:=⟨[.d aK,.d aK],[i64],λx=>(Ia x).get,λ_=>[]⟩
def qcu:af prog 319 GO:=bW qj5 _ (λx hw _=>ss (gt hw.1.1) (nm (step:=Eb ((List.length x.1:Int),x.1,x.1,x.2.1) True) (λ_ _=>True) (λ_=>True) x.1 (λi e s j m=>by
 refine⟨uT,λ_=>uT,λh=>⟨⟨ub3 _,?_⟩,λ_=>uT,λ_=>uT⟩⟩;have:=ucg h;exact Int.not_le.1 this) () trivial).1 (λ_=>⟨λ_=>uT,λ_=>uT⟩) (λ_=>uT))
noncomputable def YG:Cx:=cx [(319,GO)] []
def ER:CxOK prog YG:=aP aG ⟨qcu,uT⟩ trivial
abbrev bF:Type:=List co.den
def Jw(a b:co.den):Bool:=J ((GO.f ([a.1,a.2.1,a.2.2.1],[b.1,b.2.1,b.2.2.1],())).1<0)
abbrev inR(l:bF)(i:Int):Prop:=0<=i/\i<(l.length:Int)
def gb(l:bF)(i j:Int):bF:=(l.set i.toNat (l.getD j.toNat co.dflt)).set j.toNat (l.getD i.toNat co.dflt)
def qln(l:bF)(x:ag [.d i64,.d i64]):Fr (bF×aa [.bool]):=
 let a:=(l.length:Int);Jd (0<=x.1/\x.1<a) (Jd (x.1.toNat<l.length) (Jd (0<=x.2.1/\x.2.1<a) (Jd (x.2.1.toNat<l.length) (Jv (l,Jw (l.getD x.1.toNat co.dflt) (l.getD x.2.1.toNat co.dflt),())))))
def qlo(l:bF)(x:ag [.d i64,.d i64]):Fr (bF×aa []):=
 let b:=(l.length:Int);let a:=l.set x.1.toNat (l.getD x.2.1.toNat co.dflt);Jd (0<=x.2.1/\x.2.1<b) (Jd (x.2.1.toNat<l.length) (Jd (0<=x.1/\x.1<b) (Jd (x.1.toNat<l.length) (Jd (0<=x.1/\x.1<b) (Jd (x.1.toNat<l.length)
  (Jd (0<=x.2.1/\x.2.1<(a.length:Int)) (Jd (x.2.1.toNat<a.length) (Jv (gb l x.1 x.2.1,())))))))))
def SH:Mt:=⟨252,co,[],[i64],λl _=>(l,(l.length:Int),()),λ_ _=>[]⟩
def SI:Mt:=⟨252,co,[.d i64,.d i64],[.bool],λl x=>(l,Jw (l.getD x.1.toNat co.dflt) (l.getD x.2.1.toNat co.dflt),()),λl x=>[inR l x.1,inR l x.2.1]⟩
def SJ:Mt:=⟨252,co,[.d i64,.d i64],[],λl x=>(gb l x.1 x.2.1,()),λl x=>[inR l x.1,inR l x.2.1]⟩
def rj{l:bF}{i:Int}(h:inR l i):i.toNat<l.length:=by omega
def qm4:SoundMt prog 120 SH:=
 gW (iq ER (Λ:=bw) (fn:=f120) (fr:=λl _=>Jv (l,(l.length:Int),())) (e:=252) (T:=co) (ps:=[]) (rs:=[i64]) () (by kernel_rfl) rfl rfl (λc _ _=>aY c 0) (λl x=>by kernel_rfl)) _ _ λ_ _ _ _ _ _ _ _ _=>⟨uT,rfl⟩
def qm5:SoundMt prog 315 SI:=
 gW (iq ER (Λ:=bw) (fn:=f315) (fr:=qln) (e:=252) (T:=co) (ps:=[.d i64,.d i64]) (rs:=[.bool]) (0,0,()) (by kernel_rfl) rfl rfl (λc _ _=>aY c 0) (λl x=>by kernel_rfl)) _ _ λ_ _ _ _ _ _ _ _ i=>⟨⟨i.1,rj i.1,i.2,rj i.2,uT⟩,rfl⟩
def qm8:SoundMt prog 318 SJ:=
 gW (iq ER (Λ:=bw) (fn:=f318) (fr:=qlo) (e:=252) (T:=co) (ps:=[.d i64,.d i64]) (rs:=[]) (0,0,()) (by kernel_rfl) rfl rfl (λc _ _=>aY c 0) (λl x=>by kernel_rfl)) _ _ λ_ _ l x _ _ _ _ i=>by
  have j:inR l x.1:=i.1;have m:inR l x.2.1:=i.2;refine⟨⟨m,rj m,j,rj j,j,rj j,?_,?_,uT⟩,rfl⟩;rw[udl];exact m;rw[udl];exact rj m
def lg(l:bF)(i j:Int):(gb l i j).length=l.length:=by
 unfold gb;rw[udl,udl]
def Ll{Q:co.den->Prop}{l:bF}{i j:Int}(hi:inR l i)(q:inR l j)(h:∀ x∈l,Q x):∀ x∈gb l i j,Q x:=λx m=>by
 have g:∀ k:Int,inR l k->l.getD k.toNat co.dflt∈l:=λk t=>by
  rw[uah,uaq (rj t)];exact udg _
 rcases uap m with m|rfl
 rcases uap m with m|rfl
 exact h x m;exact h _ (g j q);exact h _ (g i hi)
noncomputable def KH:Nat->FuncId->List AV->St->Option Tr:=iS (fG (cx [] []).Γ 120 SH) (iS (fG (cx [] []).Γ 315 SI) (fG (cx [] []).Γ 318 SJ))
def kq:CxOK prog (cx [] []):=aP (cs:=[]) (ps:=[]) aG trivial trivial
def Ff:gQ prog KH:=jN (gu kq.ct qm4) (jN (gu kq.ct qm5) (gu kq.ct qm8))
noncomputable def EW:Cx:=cW [] [] KH
def sC:CxOK prog EW:=cZ aG trivial trivial Ff
end Go.Proofs.YtdokapnnagbehaaGreat
