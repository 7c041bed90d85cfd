/-
  Parts of the proof, one behind the other.
-/
import Derived.Test.YtdokapnnagbehaaGreatMl
import Derived.Deep.MidRow
set_option linter.all false
set_option maxRecDepth 100000
set_option maxHeartbeats 4000000
open Option renaming some->U,none->V
open Bool renaming true->Z,false->Y
open Decidable renaming decide->J
open Go Go.RowKit
variable {T α σ ρ β:Type} {P:Program} {ad:Addr} {arr cs cur:Array Value} {f:FuncId} {x a y day:Int} {k:IntKind} {l:List Int} {xs vs news:List Value} {off i n b c d j B m len:Nat} {F F' K:Nat->Prop} {R g R':Nat->Value->Prop} {o:Oper} {p:Prop} {e ety t ty el:TypeId} {v u vx:Value} {w w' W' W:World}
namespace Go.Proofs.YtdokapnnagbehaaGreat
open Go Go.Ab Go.RowKit Go.Proofs Tryz
open Go.Ab.Fr renaming val->Jv,need->Jd,br->Jb
def Dy(t x:ah.den):ah.den:=(x.1,x.2.1,x.2.2.1,x.2.2.2.1,x.2.2.2.2.1,x.2.2.2.2.2.1,x.2.2.2.2.2.2.1,I6.wrap ((BitVec.ofInt I6.bits x.2.2.2.2.2.2.2.1 &&& BitVec.ofInt I6.bits t.2.2.2.2.2.2.2.1).toNat:Int),())
def Fs(l:List ah.den)(t:ah.den):List ah.den:=[t]++l.map (Dy t)
def pi(l:List ah.den)(t:ah.den):Bool:=bif t.2.1 != 1 then Y else (Fs l t).any λx=>yw x t (Fs l t)
def TH(t:ah.den):(l a:List ah.den)->kJ wb l ((),t,(a,()),())=((),t,(a++l.map (Dy t),()),())
 |[],a=>by rw[List.map_nil,udr];rfl
 |x::l,a=>by
  have h:=TH t l (a++[Dy t x]);rw[ucr]at h;exact h
def TI(t:ah.den):(l a:List ah.den)->a.length+l.length<=1000000->pg wb l ((),t,(a,()),())
 |[],_,_=>trivial
 |x::l,a,h=>by
  rw[uc9]at h;refine⟨⟨⟨?_,?_⟩,uT⟩,TI t l (a++[Dy t x]) (by rw[ub6,ua7];omega)⟩;show a.length+1<=maxLen;unfold maxLen;omega;show(a.length+1)*72<=140737488355328;omega
abbrev PB(l:List ah.den)(t:ah.den):v9.M.X:=((0,((List.length l:Nat):Int),l,()),t,([t],()),())
abbrev qZ(l:List ah.den)(t:ah.den):zh:=kJ wb (List.drop 0 l) ((),t,([t],()),())
noncomputable def XQ:Cx:=cx [(114,fA ah),(303,G1)] []
def XR:CxOK prog XQ:=aP aG ⟨Fu,qvs,uT⟩ trivial
abbrev Nz:List PT:=[.d (.sl ah),.d ah]
def Ow:Ct:=⟨Nz,[.bool],λx=>(pi x.1 x.2.1,()),λx=>[x.1.length<=100000]⟩
def qvu:af prog 301 Ow:=
 conv (cS XR qss (ps:=Nz) (rs:=[.bool]) (fr:=λx=>Jb (x.2.1.2.1 != 1) (Jv (Y,())) (Jd (InL (Re (PB x.1 x.2.1)) (Wo (PB x.1 x.2.1))) (Jd (pg wb (List.drop 0 x.1) ((),x.2.1,([x.2.1],()),())) (Jd (∀ y:aa [ah],fi [ah] y->av ([]:List Prop)) (Jv ((qZ x.1 x.2.1).2.2.1.1.any (λn=>yw n (qZ x.1 x.2.1).2.1 (qZ x.1 x.2.1).2.2.1.1),()))))))) _ _ (λw F x vs c h=>by
  obtain⟨l,t,_⟩:=x;have b:List.length (α:=ah.den) l<=100000:=h;show _/\_=(pi l t,());unfold pi;cases a:t.2.1 != 1
  ·refine aR a (aF ⟨rfl,ufa _,ub4 _,?_⟩ (aF (TI t (List.drop 0 l) [t] (by rw[uef,ua7];omega)) (aF (λ_ _=>uT) ⟨uT,?_⟩)));show((List.length (α:=ah.den) l:Nat):Int)<=_;omega
   ·show((qZ l t).2.2.1.1.any (λn=>yw n (qZ l t).2.1 (qZ l t).2.2.1.1),())=_;have e:qZ l t=((),t,(Fs l t,()),()):=by
     show kJ wb (List.drop 0 l) _=_;rw[uef,TH];rfl
    rw[e];rfl
  exact aZ a ⟨uT,rfl⟩)
def z9(s:aq.den)(t:ah.den):Bool:=(jW s).any λx=>x.1==t.1
def W6(s:aq.den)(l:List ah.den):aq.den:=(s.1,s.2.1,s.2.2.1,l,s.2.2.2.2.1,())
def kC(s:aq.den)(f:aD.den):aq.den×Int:=
 bif z9 s (fD f)then (s,8)else bif J (((List.length (jW s):Nat):Int)>=100)then (s,2)else bif pi (jW s) (fD f)then (s,13)
  else (W6 s (iT (λt=>t.1) (jW s) (fD f)),0)
abbrev gS:List PT:=[.d aD,.d aq]
def AE:Ct:=⟨[.d ah],[i64],λx=>(x.1.1,()),λ_=>[]⟩
def G7:Ct:=⟨[.d ah,.pk 299,.ptr aD],[.bool],λx=>(x.1.1==(fD x.2.2.1).1,()),λ_=>[]⟩
def We:af prog 299 AE:=
 conv (aS aH f299 (fr:=λx=>Jv (x.1.1,())) (ps:=AE.ps) (rs:=[i64])) _ _ (λ_ _ _ _ _ _=>⟨uT,rfl⟩)
noncomputable def XS:Cx:=cx [(299,AE)] []
def XT:CxOK prog XS:=aP aG ⟨We,uT⟩ trivial
def zb7:af prog 300 G7:=
 conv (aS XT f300 (fr:=λx=>Jv (x.1.1==(fD x.2.2.1).1,())) (ps:=G7.ps) (rs:=[.bool])) _ _ (λ_ _ _ _ _ _=>⟨uT,rfl⟩)
noncomputable def XU:Cx:=cx [(114,fA ah),(299,AE),(300,G7),(301,Ow),(302,tx ah)] []
def XV:CxOK prog XU:=aP aG ⟨Fu,We,zb7,qvu,qwo,uT⟩ trivial
def Om:Ct:=⟨gS,[aq,i64],λx=>((kC x.2.1 x.1).1,(kC x.2.1 x.1).2,()),λ_=>[]⟩
def qk5(x:ag gS):Fr (aa [aq,i64]):=
 let c:=([]:List Prop);let b:=fD x.1;let a:=jW x.2.1;Jd (∀ y:aa [ah],fi [ah] y->av c) (Jb (z9 x.2.1 b) (Jv (x.2.1,8,())) (Jb (J (((List.length a:Nat):Int)>=100)) (Jv (x.2.1,2,()))
  (Jd (a.length<=100000) (Jb (pi a b) (Jv (x.2.1,13,()))
   (Jd (∀ y:aa [ah],fi [ah] y->av c) (Jd (a.length<=100000) (Jv (W6 x.2.1 (iT (λt=>t.1) a b),0,()))))))))
def qfy:af prog 298 Om:=
 conv (aS XV f298 (fr:=qk5) (ps:=gS) (rs:=[aq,i64])) _ _ (λ_ _ x _ _ _=>by
  obtain⟨f,s,_⟩:=x;show _/\_=((kC s f).1,(kC s f).2,());unfold kC;refine aF (λ_ _=>uT) ?_;cases c:z9 s (fD f);refine aR rfl ?_;cases b:J (((List.length (jW s):Nat):Int)>=100);have a:(jW s).length<=100000:=by have:=uch b;omega
  refine aR rfl (aF a ?_);cases d:pi (jW s) (fD f);exact aR rfl (aF (λ_ _=>uT) (aF a ⟨uT,rfl⟩));exact aZ rfl ⟨uT,rfl⟩;exact aZ rfl ⟨uT,rfl⟩;exact aZ rfl ⟨uT,rfl⟩)
def ky(s:aq.den)(f:aD.den):aq.den×Int:=bif J (hN f<=mg s)then (s,12)else ((s.1,s.2.1,s.2.2.1,s.2.2.2.1,hN f,()),0)
def Oj:Ct:=⟨gS,[aq,i64],λx=>((ky x.2.1 x.1).1,(ky x.2.1 x.1).2,()),λ_=>[]⟩
def qft:af prog 313 Oj:=
 conv (aS aH f313 (fr:=λx=>Jb (J (hN x.1<=mg x.2.1)) (Jv (x.2.1,12,())) (Jv ((x.2.1.1,x.2.1.2.1,x.2.1.2.2.1,x.2.1.2.2.2.1,hN x.1,()),0,()))) (ps:=gS) (rs:=[aq,i64])) _ _ (λ_ _ x _ _ _=>by
  obtain⟨f,s,_⟩:=x;show _/\_=((ky s f).1,(ky s f).2,());unfold ky;cases a:J (hN f<=mg s);exact aR a ⟨uT,rfl⟩;exact aZ a ⟨uT,rfl⟩)
noncomputable def qeq:List (FuncId×Ct):=[(125,FV),(285,Gq),(78,wN),(268,Od),(47,A5),(281,Ox),(79,Ax),(228,A9),(229,qu),(269,(tx zjv)),(286,(tx ar)),(282,(AG zjv)),(297,(AG ar)),(210,(fA ar)),(270,FZ),(287,Gv),(280,FW)]
noncomputable def Yb:Cx:=cx qeq []
def wx:CxOK prog Yb:=aP aG ⟨N8,Qq,NA,qbn,Pz,qwu,OR,T8,OT,qwm,qwn,zc8,zda,NE,qbi,qth,qaj,uT⟩ trivial
abbrev nH(s:aq.den)(l:List zjv.den):aq.den:=(s.1,l,s.2.2.1,s.2.2.2.1,s.2.2.2.2.1,())
abbrev Ez(s:aq.den)(l:List ar.den):aq.den:=(s.1,s.2.1,l,s.2.2.2.1,s.2.2.2.2.1,())
def bD(s:aq.den):Prop:=bJ s.1/\(db s).length<=100000/\(bq s).length<=100000/\∀ a∈db s,bL a.1
abbrev j5(s:aq.den)(i:Int):zjv.den:=(db s).getD i.toNat zjv.dflt
abbrev qkp(s:aq.den)(i:Int):ar.den:=(bq s).getD i.toNat ar.dflt
abbrev bH(f:aD.den):aC.den×Int:=og (mU f) (cC f) (mV f)
abbrev aI(s:aq.den)(f:aD.den):Int:=gz s (mU f)
abbrev gI(s:aq.den)(f:aD.den):Int:=jH s (mU f)
abbrev pH(s:aq.den)(f:aD.den):aC.den×Int:=py (j5 s (aI s f)).1 (lF f)
def kx(s:aq.den)(f:aD.den):aq.den×Int:=
 bif J (aI s f>=0)then (s,8)else bif J (((List.length (db s):Nat):Int)>=2000)then (s,2)
  else (nH s (iT nW (db s) ((bH f).1,0,())),bif (bH f).2==0 then (mN (bH f).1 s.1).2 else (bH f).2)
def kw(s:aq.den)(f:aD.den):aq.den×Int:=
 bif J (aI s f<0)then (s,7)else bif (bq s).any (qq f)then (s,10)
  else (nH s ((db s).set (aI s f).toNat ((pH s f).1,(j5 s (aI s f)).2.1,())),bif (pH s f).2==0 then (mN (pH s f).1 s.1).2 else (pH s f).2)
def kB(s:aq.den)(f:aD.den):aq.den×Int:=
 bif J (aI s f<0)then (s,7)else bif J (hH f>I6.wrap (4000000000000000000-(j5 s (aI s f)).2.1))then (s,5)
  else (nH s ((db s).set (aI s f).toNat ((j5 s (aI s f)).1,I6.wrap ((j5 s (aI s f)).2.1+hH f),())),0)
abbrev lA(s:aq.den)(f:aD.den):zjv.den×Bool:=kj s (fB f).2.1
def kz(s:aq.den)(f:aD.den):aq.den×Int:=
 bif J (jH s (fB f).1>=0)then (s,8)else bif J (((List.length (bq s):Nat):Int)>=2000)then (s,2)else bif !(lA s f).2 then (s,7)
  else (Ez s (iT oR (bq s) (fB f,[],())),(qF (lA s f).1.1 s.1 (fB f)).2)
abbrev pG(s:aq.den)(f:aD.den):ar.den×Int:=o8 (qkp s (gI s f)) (mT f)
def kv(s:aq.den)(f:aD.den):aq.den×Int:=
 bif J (gI s f<0)then (s,7)else (Ez s ((bq s).set (gI s f).toNat (pG s f).1),(pG s f).2)
def fo{l:List α}{i:Int}{d:α}(h:0<=i/\i<(l.length:Int)):l.getD i.toNat d∈l:=by
 have hi:i.toNat<l.length:=by omega
 rw[uah,uaq hi];exact udi hi
def tc{s:aq.den}{id:Int}(h:¬ gz s id<0):0<=gz s id/\gz s id<((db s).length:Int):=⟨by omega,(xZ (by unfold gz at h;omega)).1⟩
def If{s:aq.den}{id:Int}(h:¬ jH s id<0):0<=jH s id/\jH s id<((bq s).length:Int):=⟨by omega,(xZ (by unfold jH at h;omega)).1⟩
def xu{s:aq.den}(a:bD s){id:Int}(h:¬ gz s id<0):bL (j5 s (gz s id)).1:=a.2.2.2 _ (fo (tc h))
def qho:bL fF:=⟨by decide,by decide,λc a=>by cases a⟩
def N9{s:aq.den}(a:bD s)(id:Int):bL (kj s id).1.1:=by
 unfold kj;split;rename_i h;exact xu a (by omega);exact qho
abbrev nA:Prop:=∀ y:aa [zjv],fi [zjv] y->av ([]:List Prop)
abbrev nF:Prop:=∀ y:aa [ar],fi [ar] y->av ([]:List Prop)
def Oi:Ct:=⟨gS,[aq,i64],λx=>((kx x.2.1 x.1).1,(kx x.2.1 x.1).2,()),λx=>[bD x.2.1]⟩
def Iv(s:aq.den)(f:aD.den):Fr (aa [aq,i64]):=
 let a:=iT nW (db s) ((bH f).1,0,());Jb (J (aI s f>=0)) (Jv (s,8,())) (Jb (J (((List.length (db s):Nat):Int)>=2000)) (Jv (s,2,())) (Jb ((bH f).2==0)
  (Jd (bL (bH f).1) (Jd (bJ s.1) (Jd nA (Jd ((db s).length<=100000) (Jv (nH s a,(mN (bH f).1 s.1).2,()))))))
  (Jd nA (Jd ((db s).length<=100000) (Jv (nH s a,(bH f).2,()))))))
def qfr(s:aq.den)(f:aD.den)(a:bD s):(Iv s f).ok/\(Iv s f).get=((kx s f).1,(kx s f).2,()):=by
 unfold kx;cases b:J (aI s f>=0);refine aR b ?_;cases c:J (((List.length (db s):Nat):Int)>=2000);refine aR rfl ?_;cases d:(bH f).2==0;refine aR rfl ?_;exact aF (λ_ _=>uT) (aF a.2.1 ⟨uT,rfl⟩);refine aZ rfl ?_;exact aF (NV _ _ _) (aF a.1 (aF (λ_ _=>uT) (aF a.2.1 ⟨uT,rfl⟩)));exact aZ rfl ⟨uT,rfl⟩;exact aZ b ⟨uT,rfl⟩
def qfs:af prog 267 Oi:=
 conv (aS wx f267 (fr:=λx=>Iv x.2.1 x.1) (ps:=gS)) _ _ (λ_ _ x _ _ h=>qfr x.2.1 x.1 h)
def Oh:Ct:=⟨gS,[aq,i64],λx=>((kw x.2.1 x.1).1,(kw x.2.1 x.1).2,()),λx=>[bD x.2.1]⟩
def Iu(s:aq.den)(f:aD.den):Fr (aa [aq,i64]):=
 let b:=((db s).length:Int);let a:=(db s).set (aI s f).toNat ((pH s f).1,(j5 s (aI s f)).2.1,());Jb (J (aI s f<0)) (Jv (s,7,())) (Jd nF (Jb ((bq s).any (qq f)) (Jv (s,10,())) (Jd (0<=aI s f/\aI s f<b) (Jd (bL (j5 s (aI s f)).1)
  (Jb ((pH s f).2==0)
   (Jd (bL (pH s f).1) (Jd (bJ s.1) (Jd ((db s).length<=100000) (Jd (0<=aI s f/\aI s f<b) (Jv (nH s a,(mN (pH s f).1 s.1).2,()))))))
   (Jd ((db s).length<=100000) (Jd (0<=aI s f/\aI s f<b) (Jv (nH s a,(pH s f).2,())))))))))
def qfp(s:aq.den)(f:aD.den)(a:bD s):(Iu s f).ok/\(Iu s f).get=((kw s f).1,(kw s f).2,()):=by
 unfold kw;cases b:J (aI s f<0);refine aR b ?_;have hi:=uch b;refine aF (λ_ _=>uT) ?_;cases c:(bq s).any (qq f);refine aR rfl ?_;refine aF (tc hi) (aF (xu a hi) ?_);cases d:(pH s f).2==0;refine aR rfl ?_;exact aF a.2.1 (aF (tc hi) ⟨uT,rfl⟩);refine aZ rfl ?_;exact aF (Uq (xu a hi)) (aF a.1 (aF a.2.1 (aF (tc hi) ⟨uT,rfl⟩)));exact aZ rfl ⟨uT,rfl⟩;exact aZ b ⟨uT,rfl⟩
def qfq:af prog 279 Oh:=
 conv (aS wx f279 (fr:=λx=>Iu x.2.1 x.1) (ps:=gS)) _ _ (λ_ _ x _ _ h=>qfp x.2.1 x.1 h)
def Ol:Ct:=⟨gS,[aq,i64],λx=>((kB x.2.1 x.1).1,(kB x.2.1 x.1).2,()),λx=>[bD x.2.1]⟩
def Ix(s:aq.den)(f:aD.den):Fr (aa [aq,i64]):=
 let b:=((db s).length:Int);let a:=j5 s (aI s f);Jb (J (aI s f<0)) (Jv (s,7,())) (Jd (0<=aI s f/\aI s f<b) (Jb (J (hH f>I6.wrap (4000000000000000000-a.2.1))) (Jv (s,5,()))
  (Jd ((db s).length<=100000) (Jd (0<=aI s f/\aI s f<b) (Jv (nH s ((db s).set (aI s f).toNat (a.1,I6.wrap (a.2.1+hH f),())),0,()))))))
def qfw(s:aq.den)(f:aD.den)(b:bD s):(Ix s f).ok/\(Ix s f).get=((kB s f).1,(kB s f).2,()):=by
 unfold kB;cases a:J (aI s f<0);refine aR a ?_;have hi:=uch a;refine aF (tc hi) ?_;cases c:J (hH f>I6.wrap (4000000000000000000-(j5 s (aI s f)).2.1));refine aR rfl ?_;exact aF b.2.1 (aF (tc hi) ⟨uT,rfl⟩);exact aZ rfl ⟨uT,rfl⟩;exact aZ a ⟨uT,rfl⟩
def qfx:af prog 283 Ol:=
 conv (aS wx f283 (fr:=λx=>Ix x.2.1 x.1) (ps:=gS)) _ _ (λ_ _ x _ _ h=>qfw x.2.1 x.1 h)
def Ok:Ct:=⟨gS,[aq,i64],λx=>((kz x.2.1 x.1).1,(kz x.2.1 x.1).2,()),λx=>[bD x.2.1]⟩
def Iw(s:aq.den)(f:aD.den):Fr (aa [aq,i64]):=
 Jb (J (jH s (fB f).1>=0)) (Jv (s,8,())) (Jb (J (((List.length (bq s):Nat):Int)>=2000)) (Jv (s,2,())) (Jb (!(lA s f).2) (Jv (s,7,()))
  (Jd (bL (lA s f).1.1) (Jd (bJ s.1) (Jd nF (Jd ((bq s).length<=100000) (Jv (Ez s (iT oR (bq s) (fB f,[],())),(qF (lA s f).1.1 s.1 (fB f)).2,()))))))))
def qfu(s:aq.den)(f:aD.den)(a:bD s):(Iw s f).ok/\(Iw s f).get=((kz s f).1,(kz s f).2,()):=by
 unfold kz;cases b:J (jH s (fB f).1>=0);refine aR b ?_;cases c:J (((List.length (bq s):Nat):Int)>=2000);refine aR rfl ?_;cases d : !(lA s f).2;refine aR rfl ?_;exact aF (N9 a _) (aF a.1 (aF (λ_ _=>uT) (aF a.2.2.1 ⟨uT,rfl⟩)));exact aZ rfl ⟨uT,rfl⟩;exact aZ rfl ⟨uT,rfl⟩;exact aZ b ⟨uT,rfl⟩
def qfv:af prog 284 Ok:=
 conv (aS wx f284 (fr:=λx=>Iw x.2.1 x.1) (ps:=gS)) _ _ (λ_ _ x _ _ h=>qfu x.2.1 x.1 h)
def Og:Ct:=⟨gS,[aq,i64],λx=>((kv x.2.1 x.1).1,(kv x.2.1 x.1).2,()),λx=>[bD x.2.1]⟩
def It(s:aq.den)(f:aD.den):Fr (aa [aq,i64]):=
 let a:=((bq s).length:Int);Jb (J (gI s f<0)) (Jv (s,7,())) (Jd (0<=gI s f/\gI s f<a) (Jd ((bq s).length<=100000) (Jd (0<=gI s f/\gI s f<a) (Jv (Ez s ((bq s).set (gI s f).toNat (pG s f).1),(pG s f).2,())))))
def qfn(s:aq.den)(f:aD.den)(b:bD s):(It s f).ok/\(It s f).get=((kv s f).1,(kv s f).2,()):=by
 unfold kv;cases a:J (gI s f<0);refine aR a ?_;have hi:=uch a;exact aF (If hi) (aF b.2.2.1 (aF (If hi) ⟨uT,rfl⟩));exact aZ a ⟨uT,rfl⟩
def qfo:af prog 296 Og:=
 conv (aS wx f296 (fr:=λx=>It x.2.1 x.1) (ps:=gS)) _ _ (λ_ _ x _ _ h=>qfn x.2.1 x.1 h)
abbrev i6:List PT:=[.d .unit,.d aD]
def Kq(f:aD.den):aD.den:=(cC f,aU f,0,hH f,hN f,((0,0,()),(0,0,0,0,()),[],()),lF f,fB f,mT f,fD f,())
def tz:Ct:=⟨i6,[aD],λx=>(Kq x.2.1,()),λ_=>[]⟩
def qxl:af prog 261 tz:=
 conv (aS aH f261 (fr:=λx=>Jv (Kq x.2.1,())) (ps:=i6) (rs:=[aD])) _ _ (λ_ _ _ _ _ _=>⟨uT,rfl⟩)
def Kr(f:aD.den):aD.den:=(cC f,aU f,0,hH f,hN f,mV f,(0,0,0,(0,0,0,0,()),[],0,()),fB f,mT f,fD f,())
def t3:Ct:=⟨i6,[aD],λx=>(Kr x.2.1,()),λ_=>[]⟩
def qxm:af prog 262 t3:=
 conv (aS aH f262 (fr:=λx=>Jv (Kr x.2.1,())) (ps:=i6) (rs:=[aD])) _ _ (λ_ _ _ _ _ _=>⟨uT,rfl⟩)
def Ks(f:aD.den):aD.den:=(cC f,aU f,0,0,hN f,mV f,lF f,fB f,mT f,fD f,())
def t4:Ct:=⟨i6,[aD],λx=>(Ks x.2.1,()),λ_=>[]⟩
def qxn:af prog 263 t4:=
 conv (aS aH f263 (fr:=λx=>Jv (Ks x.2.1,())) (ps:=i6) (rs:=[aD])) _ _ (λ_ _ _ _ _ _=>⟨uT,rfl⟩)
def Kt(f:aD.den):aD.den:=(cC f,aU f,mU f,hH f,hN f,mV f,lF f,(0,0,0,0,0,0,()),mT f,fD f,())
def t5:Ct:=⟨i6,[aD],λx=>(Kt x.2.1,()),λ_=>[]⟩
def qxo:af prog 264 t5:=
 conv (aS aH f264 (fr:=λx=>Jv (Kt x.2.1,())) (ps:=i6) (rs:=[aD])) _ _ (λ_ _ _ _ _ _=>⟨uT,rfl⟩)
def Ku(f:aD.den):aD.den:=(cC f,aU f,0,hH f,hN f,mV f,lF f,fB f,(0,0,0,()),fD f,())
def t6:Ct:=⟨i6,[aD],λx=>(Ku x.2.1,()),λ_=>[]⟩
def qxp:af prog 265 t6:=
 conv (aS aH f265 (fr:=λx=>Jv (Ku x.2.1,())) (ps:=i6) (rs:=[aD])) _ _ (λ_ _ _ _ _ _=>⟨uT,rfl⟩)
def Kv(f:aD.den):aD.den:=(cC f,aU f,mU f,hH f,hN f,mV f,lF f,fB f,mT f,(0,0,(0,0,()),0,0,0,0,0,()),())
def t7:Ct:=⟨i6,[aD],λx=>(Kv x.2.1,()),λ_=>[]⟩
def qxq:af prog 266 t7:=
 conv (aS aH f266 (fr:=λx=>Jv (Kv x.2.1,())) (ps:=i6) (rs:=[aD])) _ _ (λ_ _ _ _ _ _=>⟨uT,rfl⟩)
def Kw(f:aD.den):aD.den:=(cC f,aU f,mU f,hH f,0,mV f,lF f,fB f,mT f,fD f,())
def t8:Ct:=⟨i6,[aD],λx=>(Kw x.2.1,()),λ_=>[]⟩
def qxr:af prog 314 t8:=
 conv (aS aH f314 (fr:=λx=>Jv (Kw x.2.1,())) (ps:=i6) (rs:=[aD])) _ _ (λ_ _ _ _ _ _=>⟨uT,rfl⟩)
noncomputable def qer:List (FuncId×Ct):=[(64,Gz),(65,Av),(66,q9),(67,ou),(68,wO),(69,tk),(70,iD),(261,tz),(262,t3),(263,t4),(264,t5),(265,t6),(266,t7),(314,t8)]
noncomputable def Yc:Cx:=cx qer []
def Yd:CxOK prog Yc:=aP aG ⟨qky,qbh,Lm,GW,Ot,Oy,vF,qxl,qxm,qxn,qxo,qxp,qxq,qxr,uT⟩ trivial
def xw(x:ag [.d aD]):Fr (aa [.bool]):=
 let c:=x.1.2.2;let h:=c.2.2.2.2;let b:=((),x.1,());let a:=Gz.f (x.1.2.1,());let g:=bif bif (cD gp a.1.1).isNone then Z else J (x.1.1<1)then Z else J (x.1.1>292194);Jd (g=Y->a.1.1=1->av ([]++([]++[])++tz.ok b)) (Jd (g=Y->a.1.1≠1->av [a.1.1=2->av ([]++([]++[])++t3.ok b),a.1.1≠2->av [a.1.1=3->av ([]++([]++[])++t4.ok b),a.1.1≠3->av [a.1.1=4->av ([]++([]++[])++t5.ok b),a.1.1≠4->av [a.1.1=5->av ([]++([]++[])++t6.ok b),a.1.1≠5->av [a.1.1=6->av ([]++([]++[])++t7.ok b),a.1.1≠6->av ((a.1.1=7)::([]++([]++[])++t8.ok b))]]]]]) (Jb (bif bif bif (cD gp a.1.1).isNone then Z else J (x.1.1<1)then Z else J (x.1.1>292194)then Z else !(Av.f ((bif a.1.1==1 then tz.f b else bif a.1.1==2 then t3.f b else bif a.1.1==3 then t4.f b else bif a.1.1==4 then t5.f b else bif a.1.1==5 then t6.f b else bif a.1.1==6 then t7.f b else t8.f b).1,())).1) (Jv (Y,())) (Jb (cD gp a.1.1==U 169) (Jv (bif bif J (c.1>=1)then J (c.1<=1000000000)else Y then (q9.f (c.2.2.2.1,())).1 else Y,())) (Jb (cD gp a.1.1==U 171) (Jv (bif bif bif J (c.1>=1)then J (c.1<=1000000000)else Y then (ou.f (h.1,())).1 else Y then h.1.1==x.1.1 else Y,())) (Jb (cD gp a.1.1==U 173) (Jv (bif bif bif J (c.1>=1)then J (c.1<=1000000000)else Y then J (c.2.1>=1)else Y then J (c.2.1<=1000000000000000)else Y,())) (Jb (cD gp a.1.1==U 174) (Jv (bif (wO.f (h.2.1,())).1 then h.2.1.2.2.2.2.1==x.1.1 else Y,())) (Jb (cD gp a.1.1==U 176) (Jv (bif bif bif J (c.1>=1)then J (c.1<=1000000000)else Y then (tk.f (h.2.2.1,())).1 else Y then h.2.2.1.1==x.1.1 else Y,())) (Jb (cD gp a.1.1==U 178) (Jv ((iD.f (h.2.2.2.1,())).1,())) (Jv (bif J (c.2.2.1>=1)then J (c.2.2.1<=x.1.1)else Y,()))))))))))
def qi0:af prog 45 (bg [.d aD] [.bool] xw):=
 aS Yd f45
def yO(f:aD.den):aD.den:=
 bif aU f==1 then Kq f else bif aU f==2 then Kr f else bif aU f==3 then Ks f else bif aU f==4 then Kt f else bif aU f==5 then Ku f else bif aU f==6 then Kv f else Kw f
def Ck(f:aD.den):Bool:=J (mU f>=1)&&J (mU f<=1000000000)
def NY(f:aD.den):Bool:=
 bif aU f==1 then Ck f&&ju (mV f)else bif aU f==2 then (Ck f&&gl (lF f))&&(lF f).1==cC f
  else bif aU f==3 then (Ck f&&J (hH f>=1))&&J (hH f<=1000000000000000)else bif aU f==4 then Oq (fB f)&&(fB f).2.2.2.2.1==cC f
  else bif aU f==5 then (Ck f&&qz (mT f))&&(mT f).1==cC f else bif aU f==6 then Dv (fD f)else J (hN f>=1)&&J (hN f<=cC f)
def gF(f:aD.den):Bool:=
 (J (1<=aU f)&&J (aU f<=7))&&((J (1<=cC f)&&J (cC f<=292194))&&(Ak (yO f)&&NY f))
def gU(a b:Bool):(bif a then b else Y)=(a&&b):=by cases a<;>rfl
def NS(a b:Bool):(bif a then Z else b)=(a || b):=by cases a<;>rfl
def Tg{k:Int}(h:1<=k/\k<=7)(a:k≠1)(b:k≠2)(c:k≠3)(d:k≠4)(e:k≠5)(f:k≠6):k=7:=by omega
def ql3{f:aD.den}(h:aU f<1\/aU f>7):(xw (f,())).ok/\(xw (f,())).get=(gF f,()):=by
 have d:=IM h;have c:gF f=false:=by
  unfold gF;rcases h with h|h
  rw[show J (1<=aU f)=Y from udv (by omega)];rfl;rw[show J (aU f<=7)=Y from udv (by omega),ued];rfl
 rw[c];have b:(bif bif (cD gp (aU f)).isNone then Z else J (cC f<1)then Z else J (cC f>292194))=true:=by rw[d];rfl
 refine aF (λa=>absurd (b.symm.trans a) (by decide)) (aF (λa=>absurd (b.symm.trans a) (by decide)) (aZ ?_ ⟨uT,rfl⟩));show(bif (bif bif (cD gp (aU f)).isNone then Z else J (cC f<1)then Z else J (cC f>292194))then Z else _)=Z;rw[b];rfl
def ql5{f:aD.den}(h:1<=aU f/\aU f<=7):(xw (f,())).ok/\(xw (f,())).get=(gF f,()):=by
 have q:(bif bif (cD gp (aU f)).isNone then Z else J (cC f<1)then Z else J (cC f>292194))=(J (cC f<1) || J (cC f>292194)):=by
  rcases yX h with e|e|e|e|e|e|e<;>rw[e]<;>exact NS _ _
 refine aF (λ_ _=>uT) (aF (λ_=>?_) ?_);show aU f≠1->(_/\_);intro j;exact⟨λ_=>uT,λl=>⟨λ_=>uT,λm=>⟨λ_=>uT,λn=>⟨λ_=>uT,λo=>⟨λ_=>uT,λp=>Tg h j l m n o p⟩⟩⟩⟩⟩;have s:(bif aU f==1 then tz.f ((),f,())else bif aU f==2 then t3.f ((),f,())else bif aU f==3 then t4.f ((),f,())else bif aU f==4 then t5.f ((),f,())else bif aU f==5 then t6.f ((),f,())else bif aU f==6 then t7.f ((),f,())else t8.f ((),f,()))=(yO f,()):=by
  unfold yO;rcases yX h with e|e|e|e|e|e|e<;>rw[e]<;>rfl
 have r:(J (1<=aU f)&&J (aU f<=7))=true:=by rw[uea h.1,uea h.2];rfl
 have a:(bif bif bif (cD gp (aU f)).isNone then Z else J (cC f<1)then Z else J (cC f>292194)then Z else !(Av.f ((bif aU f==1 then tz.f ((),f,())else bif aU f==2 then t3.f ((),f,())else bif aU f==3 then t4.f ((),f,())else bif aU f==4 then t5.f ((),f,())else bif aU f==5 then t6.f ((),f,())else bif aU f==6 then t7.f ((),f,())else t8.f ((),f,())).1,())).1)
   = !((J (1<=cC f)&&J (cC f<=292194))&&Ak (yO f)):=by
  rw[s,q,NS];rw[Bool.not_and,Bool.not_and,<- decide_not,<- decide_not];congr 2;exact udh.mpr (by omega);exact udh.mpr (by omega)
 cases b:(J (1<=cC f)&&J (cC f<=292194))&&Ak (yO f);have c:gF f=false:=by unfold gF;rw[<- uec (J (1<=cC f)&&_),b,Bool.false_and,ued]
 rw[c];exact aZ (a.trans (by rw[b];rfl)) ⟨uT,rfl⟩
 ·have c:gF f=NY f:=by unfold gF;rw[<- uec (J (1<=cC f)&&_),b,r,uel,uel]
  rw[c];refine aR (a.trans (by rw[b];rfl)) ?_;obtain⟨u,k,id,d,day,w,ch,v,t,x,_⟩:=f;have g:=yX h;rcases g with e|e|e|e|e|e|e
  all_goals
   have i:=e;subst i
  exact aZ rfl ⟨uT,by rw[gU,gU];rfl⟩;exact aR rfl (aZ rfl ⟨uT,by rw[gU,gU,gU];rfl⟩);exact aR rfl (aR rfl (aZ rfl ⟨uT,by rw[gU,gU,gU];rfl⟩));exact aR rfl (aR rfl (aR rfl (aZ rfl ⟨uT,by rw[gU];rfl⟩)));exact aR rfl (aR rfl (aR rfl (aR rfl (aZ rfl ⟨uT,by rw[gU,gU,gU];rfl⟩))));exact aR rfl (aR rfl (aR rfl (aR rfl (aR rfl (aZ rfl ⟨uT,rfl⟩)))));exact aR rfl (aR rfl (aR rfl (aR rfl (aR rfl (aR rfl ⟨uT,by rw[gU];rfl⟩)))))
def On:Ct:=⟨[.d aD],[.bool],λx=>(gF x.1,()),λ_=>[]⟩
def ql4:af prog 45 On:=conv qi0 _ _ (λ_ _ x _ _ _=>by
 by_cases h:1<=aU x.1/\aU x.1<=7;exact ql5 h;exact ql3 (by omega))
section
open Go.Shelf Go.Lib
def PE:List (Int×TypeId):=[(1,200),(2,201),(3,202),(4,203),(5,204),(6,205),(7,206)]
def Jo(k:Int)(v:Value):Value:=match cD PE k with
 |some ty=>.iface ty v
 |none=>.nilIface
def Sc(v:Value):Array Value:=#[.nilIface,.iface 200 v,.iface 201 v,.iface 202 v,.iface 203 v,.iface 204 v,.iface 205 v,.iface 206 v]
def qox(k:Int)(a:1<=k/\k<=7)(v:Value)(w:World):(Instr.index 207 (.agg (Sc v)) (.int .i64 k)).run prog w=.ok (Jo k v) w:=by
 rcases yX a with rfl|rfl|rfl|rfl|rfl|rfl|rfl<;>kernel_rfl
def qo6(k:Int)(f:1<=k/\k<=7)(cs:Array Value)(h:cs.size=39)(c:cs[1]?= U (.int .i64 k))(R:Ending->World->Prop)(w:World)(d:∀ o,R (.returned (Jo k (.agg cs))) (w.alloc o)):Calls prog 57 #[.agg cs] w R:=by
 have a:(w.alloc (.cells cs 46)).heap[w.heap.size]?= U (.cells cs 46 (0,0)):=World.alloc_heap_new w _;have g:(w.alloc (.cells cs 46)).rangeAt w.heap.size 0 cs.toList:=λj v i=>by
  rw[qD a];simpa using i
 have e:(w.alloc (.cells cs 46)).cell? ⟨w.heap.size,1,V⟩=U (.int .i64 k):=by rw[qD a];exact c
 have hi:(prog.info? 46).map (·.size)=U cs.toList.length:=by rw[ubu,h];kernel_rfl
 have b:=qox k f (.agg cs);unfold Sc at b
 go_enter func57,ntmps57
 go_wp2_with (first|(refine wpList_load_mid rfl 46 _ rfl w.heap.size 0 rfl cs.toList _ g underlying46 rfl hi ?_)|simp only[b,e,ubf])
 exact d _
def Ou:Ct:=⟨[.d aD],[.ic PE aD],λx=>((aU x.1,x.1),()),λx=>[1<=aU x.1/\aU x.1<=7]⟩
def qo5:af prog 57 Ou:=by
 refine⟨enters_of func57 (by kernel_rfl) rfl,λw F xs vs b g c=>?_⟩;obtain⟨f,_⟩:=xs;obtain⟨v,j,rfl,a,e⟩:=g;cases e;have a:bu w F aD f v:=a;obtain⟨cs,rfl⟩:=a.2.1.1 rfl;have i:cs.size=39:=a.1;have d:cs[1]?= U (.int .i64 (aU f)):=a.2.2.2.1.1;refine qo6 (aU f) c cs i d _ w λo=>Ui b ?_;unfold Jo;split;rename_i ty h;exact R2 h a;rename_i h;exact Tb h
end
noncomputable def Ye:Cx:=cx [(45,On)] []
def Yf:CxOK prog Ye:=aP aG ⟨ql4,uT⟩ trivial
def io(s:aq.den)(f:aD.den):Int:=bif !(gF f)then 1 else bif J (cC f<=mg s)then 12 else 0
def Gw:Ct:=⟨[.d aq,.d aD],[i64],λx=>(io x.1 x.2.1,()),λ_=>[]⟩
def qts:af prog 56 Gw:=
 conv (aS Yf f56 (fr:=λx=>Jb (!(gF x.2.1)) (Jv (1,())) (Jb (J (cC x.2.1<=mg x.1)) (Jv (12,())) (Jv (0,())))) (ps:=Gw.ps) (rs:=[i64])) _ _ (λ_ _ x _ _ _=>by
  obtain⟨s,f,_⟩:=x;show _/\_=(io s f,());unfold io;cases a : !(gF f);refine aR (by first|rfl|exact a) ?_;cases b:J (cC f<=mg s);exact aR (by first|rfl|exact b) ⟨uT,rfl⟩;exact aZ (by first|rfl|exact b) ⟨uT,rfl⟩;exact aZ (by first|rfl|exact a) ⟨uT,rfl⟩)
noncomputable def qes:List (FuncId×Ct):=[(56,Gw),(57,Ou),(267,Oi),(279,Oh),(283,Ol),(284,Ok),(296,Og),(298,Om),(313,Oj)]
noncomputable def Yg:Cx:=cx qes []
def Yh:CxOK prog Yg:=aP aG ⟨qts,qo5,qfs,qfq,qfx,qfv,qfo,qfy,qft,uT⟩ trivial
abbrev D9:aq.den:=(([],()),[],[],[],0,())
def mL(s:aq.den)(f:aD.den):aa [aq,i64]:=bif aU f==1 then ((kx s f).1,(kx s f).2,())else bif aU f==2 then ((kw s f).1,(kw s f).2,())else bif aU f==3 then ((kB s f).1,(kB s f).2,())else bif aU f==4 then ((kz s f).1,(kz s f).2,())else bif aU f==5 then ((kv s f).1,(kv s f).2,())else bif aU f==6 then ((kC s f).1,(kC s f).2,())else ((ky s f).1,(ky s f).2,())
def lD(s:aq.den)(f:aD.den):aq.den×Int:=((mL s f).1,(mL s f).2.1)
def jY(s:aq.den)(f:aD.den):aq.den×Int:=
 bif io s f != 0 then (D9,io s f)else bif (lD s f).2 != 0 then (D9,(lD s f).2)else ((lD s f).1,0)
abbrev N0:List PT:=[.d aq,.d aD]
def Gh:Ct:=⟨N0,[aq,i64],λx=>((jY x.1 x.2.1).1,(jY x.1 x.2.1).2,()),λx=>[bD x.1]⟩
def Is(s:aq.den)(f:aD.den):Fr (aa [aq,i64]):=
 Jb (io s f != 0) (Jv (D9,io s f,())) (Jd (1<=aU f/\aU f<=7) (Jd (aU f=1->av [bD s]) (Jd (aU f≠1->av [aU f=2->av [bD s],aU f≠2->av [aU f=3->av [bD s],aU f≠3->av [aU f=4->av [bD s],aU f≠4->av [aU f=5->av [bD s],aU f≠5->av [aU f=6->av ([]:List Prop),aU f≠6->av [aU f=7]]]]]])
  (Jb ((mL s f).2.1 != 0) (Jv (D9,(mL s f).2.1,())) (Jv ((mL s f).1,0,()))))))
def qtt{s:aq.den}{f:aD.den}(h:io s f=0):gF f=Z/\mg s<cC f:=by
 unfold io at h;cases a:gF f;rw[a]at h;have h:(1:Int)=0:=h;exact absurd h (by decide);rw[a]at h;refine⟨rfl,?_⟩;by_cases b:cC f<=mg s;rw[uea b]at h;exact absurd h (by decide);omega
def ql2{f:aD.den}(h:gF f=Z):1<=aU f/\aU f<=7:=by
 unfold gF at h;rw[udc,udc]at h;exact⟨ucx h.1.1,ucx h.1.2⟩
def qfz(s:aq.den)(f:aD.den)(a:bD s):(Is s f).ok/\(Is s f).get=((jY s f).1,(jY s f).2,()):=by
 unfold jY;cases b:io s f != 0;refine aR (by first|rfl|exact b) ?_;have e:io s f=0:=by simpa using b
 have d:=ql2 (qtt e).1;refine aF d (aF (λ_=>a) (aF (λg=>?_) ?_));exact⟨λ_=>a,λh=>⟨λ_=>a,λi=>⟨λ_=>a,λj=>⟨λ_=>a,λk=>⟨λ_=>uT,λl=>Tg d g h i j k l⟩⟩⟩⟩⟩;cases c:(lD s f).2 != 0;exact aR (by first|rfl|exact c) ⟨uT,rfl⟩;exact aZ (by first|rfl|exact c) ⟨uT,rfl⟩;exact aZ (by first|rfl|exact b) ⟨uT,rfl⟩
def qf0:af prog 34 Gh:=
 conv (aS Yh f34 (fr:=λx=>Is x.1 x.2.1) (ps:=N0) (rs:=[aq,i64])) _ _ (λ_ _ x _ _ h=>qfz x.1 x.2.1 h)
noncomputable def zgm:Cx:=cx [(34,Gh),(35,Gy)] []
def zfw:CxOK prog zgm:=aP aG ⟨qf0,qt7,uT⟩ trivial
abbrev ze0:Pt:=⟨41,0,⟨[(22,.d i64),(21,.d i64),(20,.d (.sl aD)),(1,.d i64)],[.x 4 59 aq,.r 4 4 0,.x 6 59 aq,.r 6 6 0]⟩,⟨[],[.x 4 59 aq,.r 4 4 0,.x 6 59 aq,.r 6 6 0]⟩,⟨[],[]⟩⟩
abbrev zfg:Type:=ag [.d i64]×cR [.x 4 59 aq,.r 4 4 0,.x 6 59 aq,.r 6 6 0]
def zes(e:aD.den)(s:zfg):Fr zfg:=
 let a:=Gh.f (s.2.2.1,e,());Jb (J (e.1>s.1.1)) (Jv s) (Jd (bD s.2.2.1) (Jb (a.2.1==0) (Jv ((s.1.1,()),s.2.1,a.1,())) (Jv s)))
def zev(x:ze0.M.X):Int×List aD.den×zfg:=(x.1.1,x.1.2.2.1,x.1.2.2.2,x.2)
def zgd(x:ze0.M.X):Prop:=x.1.2.1=(x.1.2.2.1.length:Int)
def zgj(s:zfg):ze0.E.X:=((),s.2.1,s.2.2.1,())
def zhs:ae prog (.loop (au f16 0)) ze0.M ze0 (FF zes zev zgd zgj):=
 LF zfw (λ_ _=>.n .o) aD.dflt (λx=>x.1.2.1) (λx s=>((I6.wrap (x.1.1+1),x.1.2.1,x.1.2.2.1,s.1),s.2)) (λ_ h=>h)
def zh3(y:ze0.M.X):zfg:=kJ zes ((zev y).2.1.drop (zev y).1.toNat) (zev y).2.2
def zhz(y:ze0.M.X):Prop:=pg zes ((zev y).2.1.drop (zev y).1.toNat) (zev y).2.2
def zhi(x:ag [.d jourT,.d i64]):Fr (aa [aq,i64]):=
 let a:=((0,((List.length x.1.2.1):Int),x.1.2.1,x.2.1,()),(([],()),[],[],[],0,()),(Gy.f ((x.1.1.1,()),())).1,());Jb (J (((List.length x.1.2.1):Int)>2000)) (Jv ((([],()),[],[],[],0,()),2,())) (Jd (InL (zgd a) (zev a)) (Jd (zhz a) (Jv ((zgj (zh3 a)).2.2.1,0,()))))
def zhj:af prog 16 (bg [.d jourT,.d i64] [aq,i64] zhi):=
 cS zfw zhs
def qn3{i:Int}{l:List α}{x a:α}(h:a∈kL i l [x]):a∈l\/a=x:=by
 unfold kL at h;rw[uds,uds]at h;rcases h with (h|h)|h
 exact .inl (ubq h);exact .inr (ucf.1 h);exact .inl (ubr h)
def qn2(i:Int)(l:List α)(x:α):(kL i l [x]).length=l.length+1:=by
 unfold kL;rw[ub6,ub6,uc5,uc6,ua7];omega
def Ub{g:α->Int}{l:List α}{x a:α}(h:a∈iT g l x):a∈l\/a=x:=qn3 h
def Ua(g:α->Int)(l:List α)(x:α):(iT g l x).length=l.length+1:=qn2 _ l x
def SS{l:List α}{x a:α}(h:a∈l.set i x):a∈l\/a=x:=uap h
def qh0{t:zll.den}(h:bJ t):bD (ym t):=⟨h,uff _,uff _,λa b=>by cases b⟩
def qhw{s:aq.den}(f:aD.den)(h:bD s):bD (kx s f).1:=by
 unfold kx;cases e:J (aI s f>=0);cases c:J (((List.length (db s):Nat):Int)>=2000);have d:=uch c;refine⟨h.1,?_,h.2.2.1,λa b=>?_⟩;show(iT nW (db s) ((bH f).1,0,())).length<=100000;rw[Ua];omega;rcases Ub b with b|b
 exact h.2.2.2 a b;rw[b];exact NV _ _ _;exact h;exact h
def PY{s:aq.den}(i:Nat)(x:zjv.den)(h:bD s)(c:bL x.1):bD (nH s ((db s).set i x)):=by
 refine⟨h.1,?_,h.2.2.1,λa b=>?_⟩;show((db s).set i x).length<=100000;rw[udo];exact h.2.1;rcases SS b with b|b
 exact h.2.2.2 a b;rw[b];exact c
def qhv{s:aq.den}(f:aD.den)(h:bD s):bD (kw s f).1:=by
 unfold kw;cases a:J (aI s f<0);cases b:(bq s).any (qq f);exact PY _ _ h (Uq (xu h (uch a)));exact h;exact h
def qh2{s:aq.den}(f:aD.den)(h:bD s):bD (kB s f).1:=by
 unfold kB;cases a:J (aI s f<0);cases b:J (hH f>I6.wrap (4000000000000000000-(j5 s (aI s f)).2.1));exact PY _ _ h (xu h (uch a));exact h;exact h
def qhz{s:aq.den}(f:aD.den)(h:bD s):bD (kz s f).1:=by
 unfold kz;cases c:J (jH s (fB f).1>=0);cases a:J (((List.length (bq s):Nat):Int)>=2000);have b:=uch a;cases d : !(lA s f).2;refine⟨h.1,h.2.1,?_,h.2.2.2⟩;show(iT oR (bq s) (fB f,[],())).length<=100000;rw[Ua];omega;exact h;exact h;exact h
def qhu{s:aq.den}(f:aD.den)(h:bD s):bD (kv s f).1:=by
 unfold kv;cases a:J (gI s f<0);refine⟨h.1,h.2.1,?_,h.2.2.2⟩;show((bq s).set (gI s f).toNat (pG s f).1).length<=100000;rw[udo];exact h.2.2.1;exact h
def qh3{s:aq.den}(f:aD.den)(h:bD s):bD (kC s f).1:=by
 unfold kC;cases z9 s (fD f);cases J (((List.length (jW s):Nat):Int)>=100);cases pi (jW s) (fD f);exact⟨h.1,h.2.1,h.2.2.1,h.2.2.2⟩;exact h;exact h;exact h
def qhx{s:aq.den}(f:aD.den)(h:bD s):bD (ky s f).1:=by
 unfold ky;cases J (hN f<=mg s);exact⟨h.1,h.2.1,h.2.2.1,h.2.2.2⟩;exact h
def qhy{s:aq.den}(f:aD.den)(h:bD s):bD (lD s f).1:=by
 show bD (mL s f).1;unfold mL;cases aU f==1;cases aU f==2;cases aU f==3;cases aU f==4;cases aU f==5;cases aU f==6;exact qhx f h;exact qh3 f h;exact qhu f h;exact qhz f h;exact qh2 f h;exact qhv f h;exact qhw f h
def zfk(s:aq.den)(f:aD.den):aq.den:=bif (jY s f).2==0 then (jY s f).1 else s
def zar{s:aq.den}{f:aD.den}(h:(jY s f).2=0):io s f=0/\(lD s f).2=0/\(jY s f).1=(lD s f).1:=by
 unfold jY at h |-;cases a:io s f != 0;have d:io s f=0:=by simpa using a
 rw[a]at h;cases b:(lD s f).2 != 0;exact⟨d,by simpa using b,rfl⟩;rw[b]at h;have c:(lD s f).2=0:=h;rw[c]at b;exact absurd b (by decide);rw[a]at h;have c:io s f=0:=h;rw[c]at a;exact absurd a (by decide)
def zg9{s:aq.den}(f:aD.den)(h:bD s):bD (zfk s f):=by
 unfold zfk;cases a:(jY s f).2==0;exact h;show bD (jY s f).1;rw[(zar (ufq a)).2.2];exact qhy f h
def ze9(b:Int)(s:aq.den)(f:aD.den):aq.den:=bif J (cC f>b)then s else zfk s f
def zha{b:Int}{s:aq.den}(f:aD.den)(h:bD s):bD (ze9 b s f):=by
 unfold ze9;cases J (cC f>b);exact zg9 f h;exact h
def zf9(b:Int)(l:List aD.den)(s:aq.den):aq.den:=l.foldl (ze9 b) s
def zp5{b:Int}:(l:List aD.den) -> {s:aq.den}->bD s->bD (zf9 b l s)
 |[],_,h=>h
 |f::l,_,h=>zp5 l (zha f h)
def ofJ(j:jourT.den)(b:Int):aq.den×Int:=bif J (((List.length (α:=aD.den) j.2.1:Nat):Int)>2000)then (D9,2)else (zf9 b j.2.1 (ym j.1),0)
def zhx(e:aD.den)(b:Int)(q s:aq.den)(d:bD s):(zes e ((b,()),q,s,())).ok/\(zes e ((b,()),q,s,())).get=((b,()),q,ze9 b s e,()):=by
 unfold ze9;cases a:J (cC e>b);refine aR (by first|rfl|exact a) (aF d ?_);unfold zfk;cases c:(jY s e).2==0;exact aR (by first|rfl|exact c) ⟨uT,rfl⟩;exact aZ (by first|rfl|exact c) ⟨uT,rfl⟩;exact aZ (by first|rfl|exact a) ⟨uT,rfl⟩
def zgh(b:Int)(q:aq.den):(l:List aD.den)->(s:aq.den)->bD s->pg zes l ((b,()),q,s,())/\kJ zes l ((b,()),q,s,())=((b,()),q,zf9 b l s,())
 |[],_,_=>⟨uT,rfl⟩
 |e::l,s,d=>by
  have a:=zhx e b q s d;have c:=zgh b q l (ze9 b s e) (zha e d);refine⟨⟨a.1,?_⟩,?_⟩;rw[a.2];exact c.1;show kJ zes l (zes e ((b,()),q,s,())).get=_;rw[a.2];exact c.2
def zfq:Ct:=⟨[.d jourT,.d i64],[aq,i64],λx=>((ofJ x.1 x.2.1).1,(ofJ x.1 x.2.1).2,()),λx=>[bJ x.1.1]⟩
def zhw:af prog 16 zfq:=conv zhj _ _ (λ_ _ x _ _ a=>by
 obtain⟨j,b,_⟩:=x;have a:bJ j.1:=a;show _/\_=((ofJ j b).1,(ofJ j b).2,());unfold ofJ;cases h:J (((List.length (α:=aD.den) j.2.1:Nat):Int)>2000);have d:=uch h;have c:=zgh b D9 (List.drop 0 j.2.1) (ym j.1) (qh0 a);refine aR (by first|rfl|exact h) (aF ⟨rfl,ufa _,ub4 _,?_⟩ (aF c.1 ⟨uT,?_⟩));show((List.length (α:=aD.den) j.2.1:Nat):Int)<=_;omega;show((kJ zes (List.drop 0 j.2.1) ((b,()),D9,ym j.1,())).2.2.1,0,())=_;rw[c.2,uef];rfl;exact aZ (by first|rfl|exact h) ⟨uT,rfl⟩)
noncomputable def zgn:Cx:=cx [(71,mB ak)] []
def zfx:CxOK prog zgn:=aP aG ⟨Bc,uT⟩ trivial
def zhd(x:ag [.d aD]):Fr (aa [aD]):=
 let c:=mB ak;let a:=x.1.2.2.2.2.2;let b:=a.2.1.2.2;Jd (List.length a.1.2.2.1<=1000000) (Jd (List.length b.2.2.1<=1000000) (Jv ((x.1.1,x.1.2.1,x.1.2.2.1,x.1.2.2.2.1,x.1.2.2.2.2.1,(a.1.1,a.1.2.1,(c.f (a.1.2.2.1,())).1,()),(a.2.1.1,a.2.1.2.1,b.1,b.2.1,(c.f (b.2.2.1,())).1,b.2.2.2.1,()),a.2.2.1,a.2.2.2.1,a.2.2.2.2.1,()),())))
def zhe:af prog 46 (bg [.d aD] [aD] zhd):=
 aS zfx f46
def zhb(x:ag [.d jourT]):Fr (aa [i64]):=
 let a:=((0,((List.length x.1.2.1):Int),x.1.2.1,0,()),());Jd (InL (zgc a) (zeu a)) (Jd (zhy a) (Jv ((zgi (zh2 a)).1.1,())))
def zhc:af prog 44 (bg [.d jourT] [i64] zhb):=
 cS zfx zhr
def ze4(f:aD.den):Prop:=(mV f).2.2.1.length<=1000000/\(lF f).2.2.2.2.1.length<=1000000
def zfp:Ct:=⟨[.d aD],[aD],λx=>(x.1,()),λx=>[ze4 x.1]⟩
def zhk:af prog 46 zfp:=conv zhe _ _ (λ_ _ x _ _ h=>aF h.1 (aF h.2 ⟨uT,rfl⟩))
def zfa(d:Int)(f:aD.den):Int:=bif aU f==7 then (if d<hN f then hN f else d)else d
def zfr(l:List aD.den):Int:=l.foldl zfa 0
def zg5(e:aD.den)(d:Int):(zer e ((d,()),())).ok/\(zer e ((d,()),())).get=((zfa d e,()),()):=by
 unfold zfa;cases h:aU e==7;exact aR (by first|rfl|exact h) ⟨uT,rfl⟩;exact aZ (by first|rfl|exact h) ⟨uT,rfl⟩
def zf4:(l:List aD.den)->(d:Int)->pg zer l ((d,()),())/\kJ zer l ((d,()),())=((l.foldl zfa d,()),())
 |[],_=>⟨uT,rfl⟩
 |e::l,d=>by
  have a:=zg5 e d;have b:=zf4 l (zfa d e);refine⟨⟨a.1,?_⟩,?_⟩;rw[a.2];exact b.1;show kJ zer l (zer e ((d,()),())).get=_;rw[a.2];exact b.2
def zfo:Ct:=⟨[.d jourT],[i64],λx=>(zfr x.1.2.1,()),λ_=>[]⟩
def qol{j:jourT.den}(h:bu w F jourT j v):((List.length (α:=aD.den) j.2.1:Nat):Int)<=9223372036854775807:=by
 have a:List.length (α:=aD.den) j.2.1<=maxLen:=(aA.wf h.2.2).2.1.1;unfold maxLen at a;omega
def zg6:af prog 44 zfo:=conv zhc _ _ (λw F x vs b _=>by
 obtain⟨j,_⟩:=x;obtain⟨v,d,rfl,c,_⟩:=b;have a:=zf4 (List.drop 0 j.2.1) 0;refine aF ⟨rfl,ufa _,ub4 _,qol c⟩ (aF a.1 ⟨uT,?_⟩);show((kJ zer (List.drop 0 j.2.1) ((0,()),())).1.1,())=_;rw[a.2,uef];rfl)
noncomputable def zgo:Cx:=cx [(46,zfp),(44,zfo),(45,On)] []
def zgp:CxOK prog zgo:=aP aG ⟨zhk,zg6,ql4,uT⟩ trivial
def zft(x:ag [.d jourT,.d aD]):Fr (aa [jourT,i64]):=
 let k:=zfo.f (x.1,());let g:=(([],()),[],());let c:=zfp.f (x.2.1,());let b:=List.drop ((0:Int)).toNat x.1.2.1;let a:=((List.length x.1.2.1):Int);let h:=List.take (a-(0:Int)).toNat b;Jb (!(On.f (x.2.1,())).1) (Jv (g,1,())) (Jb (J (a>=2000)) (Jv (g,2,())) (Jd (J (a>0)=Z->0<=I6.wrap (a-1)/\I6.wrap (a-1)<a) (Jb (bif J (a>0)then J (x.2.1.1<(List.getD x.1.2.1 (I6.wrap (a-1)).toNat aD.dflt).1)else Y) (Jv (g,4,())) (Jb (bif J (x.2.1.1<=k.1)then Z else bif x.2.1.2.1==7 then J (x.2.1.2.2.2.2.1<=k.1)else Y) (Jv (g,12,())) (Jd (0<=(0:Int)/\(0:Int)<=a/\a<=a/\a=a) (Jd (ze4 x.2.1) (Jd (0 < [c.1].length/\h.length + [c.1].length<=maxLen/\(h.length + [c.1].length)*344<=140737488355328) (Jv (((x.1.1.1,()),List.take (a-(0:Int)).toNat b++[c.1],()),0,())))))))))
def zhf:af prog 19 (bg [.d jourT,.d aD] [jourT,i64] zft):=
 aS zgp f19
abbrev j00:jourT.den:=(([],()),[],())
def ze5(l:List aD.den)(f:aD.den):Bool:=match l.getLast? with
 |some g=>J (cC f<cC g)
 |none=>Y
def zfm(l:List aD.den)(f:aD.den):Bool:=bif J (cC f<=zfr l)then Z else bif aU f==7 then J (hN f<=zfr l)else Y
def zeo(j:jourT.den)(f:aD.den):jourT.den×Int:=
 bif !(gF f)then (j00,1)else bif J (((List.length (α:=aD.den) j.2.1:Nat):Int)>=2000)then (j00,2)else bif ze5 j.2.1 f then (j00,4)else bif zfm j.2.1 f then (j00,12)else ((j.1,j.2.1++[f],()),0)
def zoi:Ct:=⟨[.d jourT,.d aD],[jourT,i64],λx=>((zeo x.1 x.2.1).1,(zeo x.1 x.2.1).2,()),λx=>[ze4 x.2.1]⟩
def zge(l:List aD.den)(f:aD.den)(b:l.length<2000):(bif J (((List.length l:Nat):Int)>0)then J (cC f<(List.getD l (I6.wrap (((List.length l:Nat):Int)-1)).toNat aD.dflt).1)else Y)=ze5 l f:=by
 unfold ze5;cases l with
 |nil=>rfl
 |cons a r=>
  have c:I6.wrap (((a::r).length:Int)-1)=r.length:=by
   rw[IntWalk.i64_in _ (by simp at b |-;omega)];simp
  rw[c,uea (by simp:(((a::r).length:Nat):Int)>0),uao,uah];have:((r.length:Int)).toNat=(a::r).length-1:=by simp
  rw[this,uaq (by simp)];rfl
def zhp{l:List aD.den}(a:l.length<2000):J (((List.length l:Nat):Int)>0)=Z->0<=I6.wrap (((List.length l:Nat):Int)-1)/\I6.wrap (((List.length l:Nat):Int)-1)<((List.length l:Nat):Int):=λh=>by
 have h:=ucx h;rw[IntWalk.i64_in _ (by omega)];omega
def zhm(t:zll.den)(l:List aD.den)(f:aD.den)(g:gF f=Z->ze4 f):(zft ((t,l,()),f,())).ok/\(zft ((t,l,()),f,())).get=((zeo (t,l,()) f).1,(zeo (t,l,()) f).2,()):=by
 unfold zeo;cases a : !(gF f);refine aR a ?_;cases e:J (((List.length l:Nat):Int)>=2000);refine aR rfl ?_;have b:l.length<2000:=by have:=uch e;omega
 refine aF (zhp b) ?_;cases c:ze5 l f;refine aR ((zge l f b).trans c) ?_;cases d:zfm l f;refine aR d (aF ⟨ufa _,by omega,ufa _,rfl⟩ (aF (g (by simpa using a)) (aF ⟨Nat.one_pos,?_,?_⟩ ⟨uT,?_⟩)));show(List.take (((List.length l:Nat):Int)-0).toNat (List.drop 0 l)).length+1<=maxLen;rw[uc5,uc6];unfold maxLen;omega;show((List.take (((List.length l:Nat):Int)-0).toNat (List.drop 0 l)).length+1)*344<=140737488355328;rw[uc5,uc6];omega;show((t,List.take (((List.length l:Nat):Int)-0).toNat (List.drop 0 l)++[f],()),0,())=_;rw[uef,ua3 (by omega)];rfl;exact aZ d ⟨uT,rfl⟩;exact aZ ((zge l f b).trans c) ⟨uT,rfl⟩;exact aZ rfl ⟨uT,rfl⟩;exact aZ a ⟨uT,rfl⟩
def zu3:af prog 19 zoi:=conv zhf _ _ (λ_ _ x _ _ h=>zhm x.1.1 x.1.2.1 x.2.1 λ_=>h)
noncomputable def zr5:Cx:=cx [(19,zoi),(16,zfq),(34,Gh)] []
def zr6:CxOK prog zr5:=aP aG ⟨zu3,zhw,qf0,uT⟩ trivial
def zul(x:ag [.d jourT,.d aD]):Fr (aa [jourT,i64]):=
 let g:=zoi.f x;let b:=(([],()),[],());let a:=zfq.f (x.1,292194,());let c:=Gh.f (a.1,x.2.1,());Jd (ze4 x.2.1) (Jb (g.2.1 != 0) (Jv (b,g.2.1,())) (Jd (bJ (x.1.1.1,())) (Jb (a.2.1 != 0) (Jv (b,a.2.1,())) (Jd (bD a.1) (Jb (c.2.1 != 0) (Jv (b,c.2.1,())) (Jv (g.1,0,())))))))
def zum:af prog 14 (bg [.d jourT,.d aD] [jourT,i64] zul):=
 aS zr6 f14
def zlm(j:jourT.den)(f:aD.den):jourT.den×Int:=
 bif (zeo j f).2 != 0 then (j00,(zeo j f).2)else bif (ofJ j 292194).2 != 0 then (j00,(ofJ j 292194).2)else bif (jY (ofJ j 292194).1 f).2 != 0 then (j00,(jY (ofJ j 292194).1 f).2)else ((zeo j f).1,0)
def zp6{j:jourT.den}(b:Int)(h:bJ j.1):bD (ofJ j b).1:=by
 unfold ofJ;cases J (((List.length (α:=aD.den) j.2.1:Nat):Int)>2000);exact zp5 _ (qh0 h);exact⟨⟨uff _,λv d=>by cases d⟩,uff _,uff _,λa c=>by cases c⟩
def zmd:Ct:=⟨[.d jourT,.d aD],[jourT,i64],λx=>((zlm x.1 x.2.1).1,(zlm x.1 x.2.1).2,()),λx=>[ze4 x.2.1,bJ x.1.1]⟩
def zob:af prog 14 zmd:=conv zum _ _ (λ_ _ x _ _ h=>by
 obtain⟨j,f,_⟩:=x;obtain⟨e,d⟩:ze4 f/\bJ j.1:=h;show _/\_=((zlm j f).1,(zlm j f).2,());unfold zlm;refine aF e ?_;cases a:(zeo j f).2 != 0;refine aR (by first|rfl|exact a) (aF d ?_);cases b:(ofJ j 292194).2 != 0;refine aR (by first|rfl|exact b) (aF (zp6 _ d) ?_);cases c:(jY (ofJ j 292194).1 f).2 != 0;exact aR (by first|rfl|exact c) ⟨uT,rfl⟩;exact aZ (by first|rfl|exact c) ⟨uT,rfl⟩;exact aZ (by first|rfl|exact b) ⟨uT,rfl⟩;exact aZ (by first|rfl|exact a) ⟨uT,rfl⟩)
def qiy(x:ag [.d aD]):Fr (aa [.bool]):=
 Jv (bif J (((List.length x.1.2.2.2.2.2.1.2.2.1):Int)<=50)then J (((List.length x.1.2.2.2.2.2.2.1.2.2.2.2.1):Int)<=50)else Y,())
def qiz:af prog 53 (bg [.d aD] [.bool] qiy):=
 aS aH f53
def qU(f:aD.den):Bool:=bif J (((List.length (mV f).2.2.1:Nat):Int)<=50)then J (((List.length (lF f).2.2.2.2.1:Nat):Int)<=50)else Y
def Gn:Ct:=⟨[.d aD],[.bool],λx=>(qU x.1,()),λ_=>[]⟩
def qh4:af prog 53 Gn:=conv qiz _ _ (λ_ _ _ _ _ _=>⟨uT,rfl⟩)
noncomputable def Yi:Cx:=cx [(53,Gn)] []
def Yj:CxOK prog Yi:=aP aG ⟨qh4,uT⟩ trivial
abbrev lT:Pt:=⟨36,0,⟨[(6,.d i64)],[.x 2 27 jourT,.r 2 2 0]⟩,⟨[],[]⟩,⟨[(4,.d .bool)],[]⟩⟩
abbrev vQ:Type:=ag []×cR [.x 2 27 jourT,.r 2 2 0]
def vZ(e:aD.den)(s:vQ):Fr (vQ ⊕ lT.R.X):=
 Jb (!(Gn.f (e,())).1) (Jv (.inr ((Y,()),()))) (Jv (.inl ((),s.2.1,())))
def pR(x:lT.M.X):Int×List aD.den×vQ:=(x.1.1,x.2.1.2.1,x.1.2,x.2)
def Rc(x:lT.M.X):Prop:=True
def qvl(s:vQ):lT.E.X:=((),())
def qe0:vQ:=(aW _,bN _)
def Pj:lT.R.X:=(aW _,bN _)
def qr8:ae prog (.loop (au f26 0)) lT.M lT (FL vZ pR Rc qvl Rd.back qe0 Pj):=
 qf Yj (λ_ _=>.n .o) aD.dflt (λx=>((x.2.1.2.1.length:Nat):Int)) (λx s=>((I6.wrap (x.1.1+1),s.1),s.2)) (λ_ _=>rfl)
def qxh(y:lT.M.X):vQ ⊕ lT.R.X:=dt vZ ((pR y).2.1.drop (pR y).1.toNat) (pR y).2.2
def quz(y:lT.M.X):Prop:=jo vZ ((pR y).2.1.drop (pR y).1.toNat) (pR y).2.2
noncomputable def Yk:Cx:=cx [(52,Gl)] []
def Yl:CxOK prog Yk:=aP aG ⟨qh1,uT⟩ trivial
def qiw(x:ag [.d jourT,.d i64]):Fr (aa [.bool]):=
 let a:=((0,()),x.1,());let b:=qxh a;Jb (bif !(Gl.f ((0,0,((0,0,()),(0,0,0,0,()),[],()),[],()),(x.1.1.1,()),())).1 then Z else J (((List.length x.1.2.1):Int)>x.2.1)) (Jv (Y,())) (Jd (InL (Rc a) (pR a)) (Jd (quz a) (Jb (dF b) (Jv (Z,())) (Jv ((zej Pj b).1.1,())))))
def qix:af prog 26 (bg [.d jourT,.d i64] [.bool] qiw):=
 cS Yl qr8
def zbn{a ok:Prop}{g:σ ⊕ ρ}{v:ρ->Bool}{d:ρ}{s1:σ}{c:ρ}{b:Bool}(f:a)(i:ok)(h:g=if b=Z then .inl s1 else .inr c)(j:v c=Y):
  (Jd a (Jd ok (Jb (dF g) (Jv ((Z,()):aa [.bool])) (Jv (v (zej d g),()))))).ok/\(Jd a (Jd ok (Jb (dF g) (Jv ((Z,()):aa [.bool])) (Jv (v (zej d g),()))))).get=(b,()):=by
 cases b;have e:=h;subst e;exact aF f (aF i (aR rfl ⟨uT,by show(v c,())=_;rw[j]⟩));have e:=h;subst e;exact aF f (aF i (aZ rfl ⟨uT,rfl⟩))
def acE(e:bn.den×bn.den):Bool:=e.1.1==e.2.1&&(e.1.2.1==e.2.2.1&&(e.1.2.2.1==e.2.2.2.1&&Z))
def clE(a b:dD.den):Bool:=a.1==b.1&&(a.2.1==b.2.1&&(a.2.2.1==b.2.2.1&&(a.2.2.2.1==b.2.2.2.1&&(a.2.2.2.2.1==b.2.2.2.2.1&&(a.2.2.2.2.2.1==b.2.2.2.2.2.1&&Z)))))
def qyf(a b:ar.den):Bool:=bif bif !(clE a.1 b.1)then Z else ((List.length (α:=bn.den) a.2.1:Nat):Int) != ((List.length (α:=bn.den) b.2.1:Nat):Int)then Y else (List.zip (α:=bn.den) (β:=bn.den) a.2.1 b.2.1).all acE
def qbv:Ct:=⟨[.d ar,.d ar],[.bool],λx=>(qyf x.1 x.2.1,()),λ_=>[]⟩
def orF{a b:Bool}(h:(bif a then Z else b)=Y):a=Y/\b=false:=by cases a<;>cases b<;>first|exact⟨rfl,rfl⟩|cases h
def mX(j:jourT.den)(n:Int):Bool:=bif bif !(mW fF j.1)then Z else J (((List.length (α:=aD.den) j.2.1:Nat):Int)>n)then Y else j.2.1.all qU
def Oo:Ct:=⟨[.d jourT,.d i64],[.bool],λx=>(mX x.1 x.2.1,()),λ_=>[]⟩
def qhq:af prog 26 Oo:=conv qix _ _ (λw F x vs b _=>by
 obtain⟨j,n,_⟩:=x;obtain⟨v,f,rfl,d,_⟩:=b;have a:=qol d;show _/\_=(mX j n,());unfold mX;cases h:(bif !(mW fF j.1)then Z else J (((List.length (α:=aD.den) j.2.1:Nat):Int)>n));refine aR h (zbn (v:=λr=>r.1.1) (s1:=((),j,())) (c:=((Y,()),())) ⟨uT,ufa _,ub4 _,a⟩ (JM (step:=vZ) _ (λe _ s=>⟨λ_=>uT,λ_=>uT⟩) _) ?_ rfl);show dt vZ (List.drop 0 j.2.1) _=_;rw[uef,ID (step:=vZ) (I:=λ_=>True) (p:=qU) (c:=((Y,()),())) (λe s _=>?_) _ _ trivial];cases j.2.1.all qU<;>rfl
 show(Jb (!(qU e)) _ _).get=_;cases qU e<;>rfl
 exact aZ h ⟨uT,rfl⟩)
def qhp{j:jourT.den}{n:Int}(h:mX j n=Z):bJ j.1/\((List.length (α:=aD.den) j.2.1:Nat):Int)<=n/\∀ f∈j.2.1,qU f=true:=by
 unfold mX at h;cases a:(bif !(mW fF j.1)then Z else J (((List.length j.2.1:Nat):Int)>n));rw[a]at h;obtain⟨b,c⟩:=orF a;have d:mW fF j.1=true:=by simpa using b
 exact⟨(qhn d).2,by have:=uch c;omega,uc8.mp h⟩;rw[a]at h;cases h
def qj3(x:ag [.d az,.d az]):Fr (aa [.bool]):=
 let b:=x.1.2.2.2;let a:=x.2.1.2.2.2;Jv (bif bif bif bif bif (wV.f (b.2.1,a.2.1,())).1 then x.1.1==x.2.1.1 else Y then x.1.2.1==x.2.1.2.1 else Y then x.1.2.2.1==x.2.1.2.2.1 else Y then b.1.1==a.1.1&&(b.1.2.1==a.1.2.1&&(b.1.2.2.1==a.1.2.2.1&&(b.1.2.2.2.1==a.1.2.2.2.1&&Z)))else Y then b.2.2.1==a.2.2.1 else Y,())
def qj4(x:ag [.d dm,.d dm]):Fr (aa [.bool]):=
 let b:=x.1.2.1;let a:=x.2.1;Jv (bif bif (wV.f (x.1.2.2.1,a.2.2.1,())).1 then x.1.1.1==a.1.1&&(x.1.1.2.1==a.1.2.1&&Z)else Y then b.1==a.2.1.1&&(b.2.1==a.2.1.2.1&&(b.2.2.1==a.2.1.2.2.1&&(b.2.2.2.1==a.2.1.2.2.2.1&&Z)))else Y,())
def qyi(a b:az.den):Bool:=(qj3 (a,b,())).get.1
def zav(a b:dm.den):Bool:=(qj4 (a,b,())).get.1
def shB(a b:aC.den):Bool:=bif bif bif !(zav a.2.2.1 b.2.2.1)then Z else a.1 != b.1 then Z else a.2.1 != b.2.1 then Z else ((List.length (α:=az.den) a.2.2.2.1:Nat):Int) != ((List.length (α:=az.den) b.2.2.2.1:Nat):Int)
def shF(a b:aC.den):Bool:=bif shB a b then Y else (List.zip (α:=az.den) (β:=az.den) a.2.2.2.1 b.2.2.2.1).all λe=>qyi e.1 e.2
def cSH:Ct:=⟨[.d aC,.d aC],[.bool],λx=>(shF x.1 x.2.1,()),λ_=>[]⟩
abbrev rQ:Pt:=⟨127,0,⟨[(6,.d i64)],[.x 2 59 aq,.r 2 2 0,.x 3 59 aq,.r 3 3 0]⟩,⟨[],[.x 2 59 aq,.r 2 2 0,.x 3 59 aq,.r 3 3 0]⟩,⟨[(4,.d .bool)],[]⟩⟩
abbrev vS:Type:=ag []×cR [.x 2 59 aq,.r 2 2 0,.x 3 59 aq,.r 3 3 0]
def zas(e:(zjv.den×zjv.den))(s:vS):Fr (vS ⊕ rQ.R.X):=
 Jb (bif !(cSH.f (e.1.1,e.2.1,())).1 then Z else e.1.2.1 != e.2.2.1) (Jv (.inr ((Y,()),()))) (Jv (.inl ((),s.2.1,s.2.2.1,())))
def Ly(x:rQ.M.X):Int×List (zjv.den×zjv.den)×vS:=(x.1.1,x.2.1.2.1.zip x.2.2.1.2.1,x.1.2,x.2)
def qvp(s:vS):rQ.E.X:=((),s.2.1,s.2.2.1,())
def qe3:vS:=(aW _,bN _)
def qxi(y:rQ.M.X):vS ⊕ rQ.R.X:=dt zas ((Ly y).2.1.drop (Ly y).1.toNat) (Ly y).2.2
abbrev rR:Pt:=⟨127,2,⟨[(8,.d i64)],[.x 2 59 aq,.r 2 2 0,.x 3 59 aq,.r 3 3 0]⟩,⟨[],[.x 2 59 aq,.r 2 2 0,.x 3 59 aq,.r 3 3 0]⟩,⟨[(4,.d .bool)],[]⟩⟩
abbrev vT:Type:=ag []×cR [.x 2 59 aq,.r 2 2 0,.x 3 59 aq,.r 3 3 0]
def zat(e:(ar.den×ar.den))(s:vT):Fr (vT ⊕ rR.R.X):=
 Jb (!(qbv.f (e.1,e.2,())).1) (Jv (.inr ((Y,()),()))) (Jv (.inl ((),s.2.1,s.2.2.1,())))
def Lz(x:rR.M.X):Int×List (ar.den×ar.den)×vT:=(x.1.1,x.2.1.2.2.1.zip x.2.2.1.2.2.1,x.1.2,x.2)
def qvq(s:vT):rR.E.X:=((),s.2.1,s.2.2.1,())
def qe4:vT:=(aW _,bN _)
def qxj(y:rR.M.X):vT ⊕ rR.R.X:=dt zat ((Lz y).2.1.drop (Lz y).1.toNat) (Lz y).2.2
abbrev en0(a b:aq.den):rQ.M.X:=((0,()),a,b,())
abbrev o0(a b:aq.den):rQ.E.X:=qvp (dO qe3 (qxi (en0 a b)))
abbrev en1(a b:aq.den):rR.M.X:=((0,()),(o0 a b).2.1,(o0 a b).2.2.1,())
abbrev o1(a b:aq.den):rR.E.X:=qvq (dO qe4 (qxj (en1 a b)))
def zn4{j:jourT.den}{b:Int}(h:((List.length (α:=aD.den) j.2.1:Nat):Int)<=2000):ofJ j b=(zf9 b j.2.1 (ym j.1),0):=by
 unfold ofJ;rw[show J (((List.length (α:=aD.den) j.2.1:Nat):Int)>2000)=Y from udv (by omega)];rfl
def zh1{j:jourT.den}{f:aD.den}(h:(zeo j f).2=0):gF f=Z/\(zeo j f).1=(j.1,j.2.1++[f],())/\ze5 j.2.1 f=Y/\zfm j.2.1 f=Y/\((List.length (α:=aD.den) j.2.1:Nat):Int)<2000:=by
 unfold zeo at h |-;cases b:gF f;rw[b]at h;have h:(1:Int)=0:=h;exact absurd h (by decide);rw[b]at h;cases a:J (((List.length (α:=aD.den) j.2.1:Nat):Int)>=2000);rw[a]at h;cases c:ze5 j.2.1 f;rw[c]at h;cases d:zfm j.2.1 f;exact⟨rfl,rfl,rfl,rfl,by have:=uch a;omega⟩;rw[d]at h;have h:(12:Int)=0:=h;exact absurd h (by decide);rw[c]at h;have h:(4:Int)=0:=h;exact absurd h (by decide);rw[a]at h;have h:(2:Int)=0:=h;exact absurd h (by decide)
def zmr{j:jourT.den}{f:aD.den}(h:(zlm j f).2=0):(zeo j f).2=0/\(ofJ j 292194).2=0/\(jY (ofJ j 292194).1 f).2=0/\(zlm j f).1=(j.1,j.2.1++[f],()):=by
 unfold zlm at h |-;cases a:(zeo j f).2 != 0;have d:(zeo j f).2=0:=by simpa using a
 rw[a]at h;cases b:(ofJ j 292194).2 != 0;have e:(ofJ j 292194).2=0:=by simpa using b
 rw[b]at h;cases c:(jY (ofJ j 292194).1 f).2 != 0;exact⟨d,e,by simpa using c,(zh1 d).2.1⟩;rw[c]at h;have h:(jY (ofJ j 292194).1 f).2=0:=h;rw[h]at c;exact absurd c (by decide);rw[b]at h;have h:(ofJ j 292194).2=0:=h;rw[h]at b;exact absurd b (by decide);rw[a]at h;have h:(zeo j f).2=0:=h;rw[h]at a;exact absurd a (by decide)
def znt{f:aD.den}(h:gF f=Z):1<=cC f/\cC f<=292194:=by
 unfold gF at h;simp only[udc,ucu]at h;exact h.2.1
def zuy(b:Int)(l:List aD.den)(f:aD.den)(s:aq.den):zf9 b (l++[f]) s=ze9 b (zf9 b l s) f:=by
 unfold zf9;rw[List.foldl_append];rfl
def zrz{b:Int}{s:aq.den}{f:aD.den}(h:cC f>b):ze9 b s f=s:=by
 unfold ze9;rw[uea h];rfl
def zph{b:Int}{s:aq.den}{f:aD.den}(h:cC f<=b):ze9 b s f=zfk s f:=by
 unfold ze9;rw[udv (by omega)];rfl
noncomputable def Ym:Cx:=cx [(70,iD),(113,lx),(140,fM)] []
def Yn:CxOK prog Ym:=aP aG ⟨vF,yK,oT,uT⟩ trivial
def Qo(x:ag [.d ah,.d ay]):Fr (aa [.bool]):=
 let c:=iD.f (x.1,());let b:=lx.f (x.2.1,());let a:=fM.f (x.1.2.2.1,x.2.1.2.2.1,());Jd ((bif bif c.1 then b.1 else Y then a.1 else Y)=Z->¬x.2.1.2.2.2.1<0) (Jv (bif bif bif c.1 then b.1 else Y then a.1 else Y then I6.wrap ((BitVec.ofInt I6.bits (Int.fdiv x.1.2.2.2.2.2.2.2.1 (2 ^ min (Int.toNat x.2.1.2.2.2.1) I6.bits)) &&& BitVec.ofInt I6.bits 1).toNat:Int)==1 else Y,()))
def qkc:af prog 166 (bg [.d ah,.d ay] [.bool] Qo):=
 aS Yn f166
def zbp(t:ah.den)(l:ay.den):Bool:=(Qo (t,l,())).get.1
def ko:Ct:=⟨[.d ah,.d ay],[.bool],λx=>(zbp x.1 x.2.1,()),λ_=>[]⟩
def qww{l:ay.den}(h:yJ l=Z):0<=l.2.2.2.1/\l.2.2.2.1<=7:=by
 unfold yJ xz at h;have e:∀ (b:Bool) (x y:Fr (aa [.bool])),(Jb b x y).get=bif b then x.get else y.get:=λb x y=>by cases b<;>rfl
 simp only[e]at h;have j:∀ z:aa [.bool],(Jv z).get=z:=λ_=>rfl;simp only[j]at h;cases a:(gk.f ((0,7,()),[l.2.2.2.1],())).1;cases d:(gk.f ((1,1000000000,()),[l.1],())).1<;>cases g:(gk.f ((0,1000000000,()),[l.2.1],())).1<;>cases i:(gk.f ((1,292194,()),[l.2.2.1],())).1<;>simp only[d,g,i,a]at h<;>cases h
 have c:rf 0 7 [l.2.2.2.1]=true:=a;unfold rf at c;simpa using c
def zbq {t:ah.den} {l:ay.den} (h:(bif bif Dv t then yJ l else Y then (fM.f (t.2.2.1,l.2.2.1,())).1 else Y)=Z):Dv t=Z/\yJ l=Z/\(fM.f (t.2.2.1,l.2.2.1,())).1=true:=by
 rw[gU,gU,udc,udc]at h;exact⟨h.1.1,h.1.2,h.2⟩
def z7:af prog 166 ko:=conv qkc _ _ (λ_ _ x _ _ _=>by
 obtain⟨t,l,_⟩:=x;refine⟨⟨λh=>?_,uT⟩,rfl⟩;exact ufk.mpr (qww (zbq h).2.1).1)
def znb{f:aD.den}(h:gF f=Z):NY f=true:=by
 unfold gF at h;rw[udc,udc,udc]at h;have a:=h.2.2;rw[udc]at a;exact a.2
def znu{f:aD.den}(h:gF f=Z)(b:aU f=7):1<=hN f/\hN f<=cC f:=by
 have a:=znb h;unfold NY at a;rw[b]at a;have a:(J (hN f>=1)&&J (hN f<=cC f))=true:=a;rw[udc]at a;exact⟨ucx a.1,ucx a.2⟩
def znq(s:aq.den)(f:aD.den):lD s f=(bif aU f==1 then kx s f else bif aU f==2 then kw s f else bif aU f==3 then kB s f else bif aU f==4 then kz s f else bif aU f==5 then kv s f else bif aU f==6 then kC s f else ky s f):=by
 show((mL s f).1,(mL s f).2.1)=_;unfold mL;cases aU f==1;cases aU f==2;cases aU f==3;cases aU f==4;cases aU f==5;cases aU f==6<;>rfl
 rfl;rfl;rfl;rfl;rfl
def ztp(s:aq.den)(f:aD.den):mg (kx s f).1=mg s:=by
 unfold kx;cases J (aI s f>=0);cases J (((List.length (db s):Nat):Int)>=2000)<;>rfl
 rfl
def zto(s:aq.den)(f:aD.den):mg (kw s f).1=mg s:=by
 unfold kw;cases J (aI s f<0);cases (bq s).any (qq f)<;>rfl
 rfl
def zts(s:aq.den)(f:aD.den):mg (kB s f).1=mg s:=by
 unfold kB;cases J (aI s f<0);cases J (hH f>I6.wrap (4000000000000000000-(j5 s (aI s f)).2.1))<;>rfl
 rfl
def ztq(s:aq.den)(f:aD.den):mg (kz s f).1=mg s:=by
 unfold kz;cases J (jH s (fB f).1>=0);cases J (((List.length (bq s):Nat):Int)>=2000);cases !(lA s f).2<;>rfl
 rfl;rfl
def ztn(s:aq.den)(f:aD.den):mg (kv s f).1=mg s:=by
 unfold kv;cases J (gI s f<0)<;>rfl
def ztt(s:aq.den)(f:aD.den):mg (kC s f).1=mg s:=by
 unfold kC;cases z9 s (fD f);cases J (((List.length (jW s):Nat):Int)>=100);cases pi (jW s) (fD f)<;>rfl
 rfl;rfl
def ztr{s:aq.den}{f:aD.den}(a:gF f=Z)(b:aU f≠7):mg (lD s f).1=mg s:=by
 rw[znq];rcases yX (ql2 a)with k|k|k|k|k|k|k<;>rw[k]
 exact ztp s f;exact zto s f;exact zts s f;exact ztq s f;exact ztn s f;exact ztt s f;exact absurd k b
def zpt{s:aq.den}{f:aD.den}(a:aU f=7):lD s f=ky s f:=by
 rw[znq,a];rfl
def zq1(s:aq.den)(f:aD.den):mg (zfk s f)=mg s\/(aU f=7/\mg (zfk s f)=hN f/\mg s<hN f/\hN f<=cC f):=by
 unfold zfk;cases g:(jY s f).2==0;exact .inl rfl;obtain⟨h,a,c⟩:=zar (ufq g);have e:=(qtt h).1;show mg (jY s f).1=mg s\/_;by_cases b:aU f=7;refine .inr ⟨b,?_⟩;show mg (jY s f).1=hN f/\_;rw[c];rw[zpt b]at a |-;unfold ky at a |-;cases d:J (hN f<=mg s);exact⟨rfl,by have:=uch d;omega,(znu e b).2⟩;rw[d]at a;have a:(12:Int)=0:=a;exact absurd a (by decide);rw[c];exact .inl (ztr e b)
def zn3(s:aq.den)(f:aD.den):mg s<=mg (zfk s f):=by
 rcases zq1 s f with h|⟨_,a,b,_⟩
 rw[h];exact ufa _;rw[a];exact uet b
def zvz{s:aq.den}{f:aD.den}(d:gF f=Z)(e:aU f=7):hN f<=mg (zfk s f):=by
 have g:=(znu d e).2;by_cases b:cC f<=mg s;exact ue3 (ue3 g b) (zn3 s f);by_cases c:hN f<=mg s;exact ue3 c (zn3 s f);have h:io s f=0:=by
  unfold io;rw[d,udv b];rfl
 have a:lD s f=((s.1,s.2.1,s.2.2.1,s.2.2.2.1,hN f,()),0):=by
  rw[zpt e];unfold ky;rw[udv c];rfl
 have i:jY s f=((s.1,s.2.1,s.2.2.1,s.2.2.2.1,hN f,()),0):=by
  unfold jY;rw[h,a];rfl
 unfold zfk;rw[i];exact ufa _
def zps{early a:Int}(g:early<=a):(l:List aD.den)->(s t:aq.den)->mg t<=mg s->mg (zf9 early l t)<=mg (zf9 a l s)
 |[],_,_,h=>h
 |f::l,s,t,h=>by
  refine zps g l (ze9 a s f) (ze9 early t f) ?_;by_cases d:cC f<=early;rw[zph d,zph (ue3 d g)];rcases zq1 t f with b|⟨j,b,k,m⟩
  rw[b];exact ue3 h (zn3 s f);rw[b];have i:gF f=true:=by
   unfold zfk at b;cases e:(jY t f).2==0;rw[e]at b;have b:mg t=hN f:=b;omega;exact(qtt (zar (ufq e)).1).1
  exact zvz i j;rw[zrz (by omega)];by_cases c:cC f<=a;rw[zph c];exact ue3 h (zn3 s f);rw[zrz (by omega)];exact h
abbrev dq:Ty:=.pair i64 (.pair i64 .unit)
abbrev bi:Ty:=.pair i64 (.pair ak (.pair aK .unit))
abbrev bS:Ty:=.pair i64 (.pair i64 (.pair i64 (.pair i64 (.pair i64 (.pair i64 .unit)))))
abbrev cK:Ty:=.pair bS (.pair .bool .unit)
abbrev aw:Ty:=.pair i64 (.pair bn .unit)
abbrev ep:Ty:=.pair i64 (.pair i64 (.pair i64 .unit))
abbrev co:Ty:=.pair i64 (.pair i64 (.pair i64 .unit))
abbrev bR:Ty:=.pair i64 (.pair i64 .unit)
abbrev be:Ty:=.pair i64 (.pair i64 (.pair (.sl bR) .unit))
abbrev bV:Ty:=.pair (.sl be) .unit
abbrev dw:Ty:=.pair i64 (.pair i64 (.pair i64 (.pair i64 (.pair i64 (.pair i64 (.pair i64 (.pair i64 (.pair i64 (.pair i64 .unit)))))))))
noncomputable def YO:Cx:=cx [(166,ko),(95,iC),(70,iD)] []
def Mz:CxOK prog YO:=aP aG ⟨z7,wL,vF,uT⟩ trivial
def BK(x:ag [.d ah,.d ay]):Fr (aa [i64,.bool]):=
 Jb (bif x.1.2.1 != 1 then Z else !(ko.f x).1) (Jv (0,Y,())) (Jv ((iC.f (x.2.1.2.2.2.2.1,x.1.2.2.2.1,())).1,Z,()))
def qjy:af prog 124 ⟨[.d ah,.d ay],[i64,.bool],λxs=>(BK xs).get,λxs=>[(BK xs).ok]⟩:=
 cf Mz (Λ:=bw) (fn:=f124) (aW [.d ah,.d ay]) (by kernel_rfl) (λc E _=>aY c 0) (λx=>by kernel_rfl)
def AT:Ct:=⟨[.d ah,.d ay],[i64,.bool],λx=>(BK x).get,λ_=>[]⟩
def O5:af prog 124 AT:=conv qjy _ _ (λ_ _ x _ _ _=>⟨by unfold BK;repeat' first|exact trivial|intro _|refine⟨?_,?_⟩|decide,rfl⟩)
def BC(x:ag [.d ah]):Fr (aa [.bool]):=
 Jv (bif (iD.f (x.1,())).1 then x.1.2.1 != 1 else Y,())
def qi8:af prog 203 ⟨[.d ah],[.bool],λxs=>(BC xs).get,λxs=>[(BC xs).ok]⟩:=
 cf Mz (Λ:=bw) (fn:=f203) (aW [.d ah]) (by kernel_rfl) (λc E _=>aY c 0) (λx=>by kernel_rfl)
def AN:Ct:=⟨[.d ah],[.bool],λx=>(BC x).get,λ_=>[]⟩
def qcd:af prog 203 AN:=conv qi8 _ _ (λ_ _ x _ _ _=>⟨uT,rfl⟩)
noncomputable def YR:Cx:=cx [(203,AN),(95,iC),(136,j6)] []
def M1:CxOK prog YR:=aP aG ⟨qcd,wL,xn,uT⟩ trivial
def BA(x:ag [.d ah,.d i64]):Fr (aa [i64]):=
 Jb (bif !(AN.f (x.1,())).1 then Z else J (x.2.1<=x.1.2.2.2.2.1)) (Jv (0,())) (Jv (if I6.wrap (x.2.1-x.1.2.2.2.2.1)<x.1.2.2.2.2.2.1 then I6.wrap (x.2.1-x.1.2.2.2.2.1)else x.1.2.2.2.2.2.1,()))
def qi6:af prog 172 ⟨[.d ah,.d i64],[i64],λxs=>(BA xs).get,λxs=>[(BA xs).ok]⟩:=
 cf M1 (Λ:=bw) (fn:=f172) (aW [.d ah,.d i64]) (by kernel_rfl) (λc E _=>aY c 0) (λx=>by kernel_rfl)
def mF:Ct:=⟨[.d ah,.d i64],[i64],λx=>(BA x).get,λ_=>[]⟩
def O2:af prog 172 mF:=conv qi6 _ _ (λ_ _ x _ _ _=>⟨by unfold BA;repeat' first|exact trivial|intro _|refine⟨?_,?_⟩|decide,rfl⟩)
def BB(x:ag [.d ah]):Fr (aa [i64]):=
 Jb (!(AN.f (x.1,())).1) (Jv (0,())) (Jv (I6.wrap (x.1.2.2.2.2.2.1*I6.wrap (1+x.1.2.2.2.2.2.2.1)),()))
def qi7:af prog 170 ⟨[.d ah],[i64],λxs=>(BB xs).get,λxs=>[(BB xs).ok]⟩:=
 cf M1 (Λ:=bw) (fn:=f170) (aW [.d ah]) (by kernel_rfl) (λc E _=>aY c 0) (λx=>by kernel_rfl)
def tB:Ct:=⟨[.d ah],[i64],λx=>(BB x).get,λ_=>[]⟩
def O3:af prog 170 tB:=conv qi7 _ _ (λ_ _ x _ _ _=>⟨by unfold BB;repeat' first|exact trivial|intro _|refine⟨?_,?_⟩|decide,rfl⟩)
abbrev vi:Pt:=⟨19,0,⟨[(9,.d i64),(8,.d i64),(7,.d aK),(0,.d i64)],[]⟩,⟨[(0,.d i64)],[]⟩,⟨[],[]⟩⟩
def KY(k:Int×(List Int))(b:Prop)(i:Int)(e:i64.den)(s:Int):Fr (Int):=
 Jd b (Jv (if e<s then e else s))
def MT:vi.M.X->Fr vi.Out:=FG (λx=>(x.1.1,(x.1.2.1,x.1.2.2.1),x.1.2.2.2.1)) (λk=>k.1) (λk=>k.2) KY (λk s=>((s,()),()))
def qry:ae prog (.loop (au f139 0)) vi.M vi MT:=
 cN aH (λi k s=>((i,k.1,k.2,s,()),())) i64.dflt
def qmh:=λk s=>bO (KY k True) 0 k.2 s
def qup:=λk s=>bM (KY k True) 0 k.2 s
def zd0(Γ:Gm):St->Option Tr:=vi.han Γ vi.M MT
def Ae:(ps:List PT)->ag ps->Prop
 |[],_=>True
 |.d t::r,x=>Wf t x.1/\Ae r x.2
 |_::r,x=>Ae r x.2
def qh:{ps:List PT} -> {x:ag ps} -> {vs:List Value}->cJ P w F ps x vs->Ae ps x
 |[],_,_,_=>trivial
 |.d _::_,_,_,⟨_,_,_,h,a⟩=>⟨aA.wf h.2.2,qh a⟩
 |.ptr _::r,x,_,⟨_,_,_,_,a⟩=>qh (ps:=r) (x:=x.2) a
 |.fn _ _::r,x,_,⟨_,_,_,_,a⟩=>qh (ps:=r) (x:=x.2) a
 |.pf _ _::r,x,_,⟨_,_,_,_,a⟩=>qh (ps:=r) (x:=x.2) a
 |.pfn _ _::r,x,_,⟨_,_,_,_,a⟩=>qh (ps:=r) (x:=x.2) a
 |.pk f::r,x,_,⟨_,_,_,_,a⟩=>qh (ps:=r) (x:=x.2) a
def bW{ps:List PT}{rs:List Ty}{fr:ag ps->Fr (aa rs)}(h:af P f ⟨ps,rs,λxs=>(fr xs).get,λxs=>[(fr xs).ok]⟩)(ok:ag ps->List Prop)(b:∀ xs,Ae ps xs->av (ok xs)->(fr xs).ok):af P f ⟨ps,rs,λx=>(fr x).get,ok⟩:=
 conv h _ ok (λ_ _ xs _ c a=>⟨b xs (qh c) a,rfl⟩)
def Sm{E:Env}{Λ:Nat->St->Option Tr}{c b0 b1:Code}(j:ce c=2)(b:Go.Ab.loopB c 0=U b0)(d:Go.Ab.loopB c 1=U b1)(f:i5 P E b0 (Λ 0))(g:i5 P E b1 (Λ 1)):bP P E Λ c 0:=by
 refine jJ c 0 λi h a=>?_;have e:=Go.Ab.loopB_lt a
 match i,a,e with
 |0,a,_=>
  rw[b]at a;cases a;exact f
 |1,a,_=>
  rw[d]at a;cases a;exact g
 |i+2,_,e=>omega
def gt(h:n<=maxLen):InK (n:Int) 0 n:=⟨rfl,ufa _,ub4 _,by unfold maxLen at h;omega⟩
def uP{step:Int->T->σ->Fr σ}(h:∀ i e s,(step i e s).ok):(l:List T)->(i:Int)->(s:σ)->bM step i l s
 |[],_,_=>trivial
 |_::r,_,_=>⟨h _ _ _,uP h r _ _⟩
def JL{step:Int->T->σ->Fr (σ ⊕ ρ)}(h:∀ i e s,(step i e s).ok):(l:List T)->(i:Int)->(s:σ)->eJ step i l s
 |[],_,_=>trivial
 |_::r,_,_=>⟨h _ _ _,by split;exact JL h r _ _;trivial⟩
def nK{q:Prop}{g:σ}{k:σ->Fr α}(b:p)(c:q)(a:∀ s,(k s).ok):(cI p q g k).ok:=⟨b,c,a g⟩
def ss{q:Prop}{g:σ ⊕ ρ}{d:σ}{a:ρ}{k:σ->Fr α}{r:ρ->Fr α}(c:p)(e:q)(b:∀ s,(k s).ok)(f:∀ y,(r y).ok):(iY p q g d a k r).ok:=⟨c,e,λ_=>b _,λ_=>f _⟩
def HL(x:ag [.d i64,.d aK]):Fr (aa [i64]):=
 cI (InK (((List.length x.2.1):Int)) 0 (List.length x.2.1)) (qup (((List.length x.2.1):Int),x.2.1) x.1) (qmh (((List.length x.2.1):Int),x.2.1) x.1) (λa=>Jv (if a<0 then 0 else a,()))
def qir:af prog 139 ⟨[.d i64,.d aK],[i64],λxs=>(HL xs).get,λxs=>[(HL xs).ok]⟩:=
 cf aH (Λ:=(λ_=>zd0 dB.Γ)) (fn:=f139) (aW [.d i64,.d aK]) (by kernel_rfl) (λc E a=>zlp a (by kernel_rfl) (b:=au f139 0) (by kernel_rfl) (ae.han aH rfl qry)) (λx=>by kernel_rfl)
def tA:Ct:=⟨[.d i64,.d aK],[i64],λx=>(HL x).get,λ_=>[]⟩
def O1:af prog 139 tA:=bW qir _ (λx a _=>nK (gt a.2.1.1) (by refine uP (λ_ _ _=>?_) _ _ _;exact⟨uT,uT⟩) (λ_=>uT))
noncomputable def Y4:Cx:=cx [(139,tA),(95,iC)] []
def Ml:CxOK prog Y4:=aP aG ⟨O1,wL,uT⟩ trivial
def B6(x:ag [.d ak,.d i64]):Fr (aa [i64]):=
 Jv ((tA.f (I6.wrap (x.2.1-x.1.2.2.2.1),[x.1.2.1],())).1,())
def qiq:af prog 137 ⟨[.d ak,.d i64],[i64],λxs=>(B6 xs).get,λxs=>[(B6 xs).ok]⟩:=
 cf Ml (Λ:=bw) (fn:=f137) (aW [.d ak,.d i64]) (by kernel_rfl) (λc E _=>aY c 0) (λx=>by kernel_rfl)
def AJ:Ct:=⟨[.d ak,.d i64],[i64],λx=>(B6 x).get,λ_=>[]⟩
def qb7:af prog 137 AJ:=bW qiq _ (λx a _=>uT)
def B7(x:ag [.d ak,.d i64]):Fr (aa [i64]):=
 Jv ((iC.f (x.2.1,x.1.2.2.2.2.1,())).1,())
def qis:af prog 138 ⟨[.d ak,.d i64],[i64],λxs=>(B7 xs).get,λxs=>[(B7 xs).ok]⟩:=
 cf Ml (Λ:=bw) (fn:=f138) (aW [.d ak,.d i64]) (by kernel_rfl) (λc E _=>aY c 0) (λx=>by kernel_rfl)
def AK:Ct:=⟨[.d ak,.d i64],[i64],λx=>(B7 x).get,λ_=>[]⟩
def qb8:af prog 138 AK:=bW qis _ (λx a _=>uT)
abbrev vN:Ty:=.pair i64 .unit
noncomputable def ZY:FuncId->Option (Func×(Nat->St->Option Tr)):=cu [(171,(f171,bw))]
noncomputable def Y5:Cx:=cW [(166,ko),(172,mF)] [] (fU prog (cx [] []) ZY)
def Y6:CxOK prog Y5:=cZ aG ⟨z7,O2,uT⟩ trivial (gG (aP (cs:=[]) (ps:=[]) aG trivial trivial) (lk (by kernel_rfl) qe))
abbrev vr:Pt:=⟨58,1,⟨[(39,.d i64),(38,.d i64),(37,.d (.sl ay))],[.x 2 44 ah,.r 2 2 0,.o 7 3 i64,.x 35 320 vN,.r 8 35 (1000000000+171)]⟩,⟨[],[.o 7 3 i64]⟩,⟨[],[]⟩⟩
def DW(k:Int×(List ay.den)×ah.den)(b:Prop)(i:Int)(e:ay.den)(s:(List Int)×vN.den):Fr ((List Int)×vN.den):=
 Jd b (Jb ((ko.f (k.2.2,e,())).1) (Jd (0<=i/\i<(s.1.length:Int)) (Jd (Int.toNat i<s.1.length) (Jv (s.1.set (Int.toNat i) (if s.2.1<(mF.f (k.2.2,e.2.2.2.2.1,())).1 then s.2.1 else (mF.f (k.2.2,e.2.2.2.2.1,())).1),I6.wrap (s.2.1-if s.2.1<(mF.f (k.2.2,e.2.2.2.2.1,())).1 then s.2.1 else (mF.f (k.2.2,e.2.2.2.2.1,())).1),())))) (Jv (s.1,s.2.1,())))
def Nf:vr.M.X->Fr vr.Out:=FG (λx=>(x.1.1,(x.1.2.1,x.1.2.2.1,x.2.1),(x.2.2.1,x.2.2.2.1))) (λk=>k.1) (λk=>k.2.1) DW (λk s=>((),s.1,()))
def qsf:ae prog (.loop (au f122 0)) vr.M vr Nf:=
 cN Y6 (λi k s=>((i,k.1,k.2.1,()),k.2.2,s.1,s.2,())) ay.dflt
def QZ:=λk s=>bO (DW k True) 0 k.2.1 s
def Tz:=λk s=>bM (DW k True) 0 k.2.1 s
def zd8(Γ:Gm):St->Option Tr:=vr.han Γ vr.M Nf
def qnh:af prog 165 (eE ay):=
 um (cS (fn:=f165) aH (uE ay (ae.of_run aH (bs:=0) rfl rfl rfl (λ_=>aY _ 0) (λx=>by kernel_rfl))) (ps:=[.d (.sl ay),hZ ay]) (rs:=[i64]) (fr:=oQ ay))
noncomputable def Yq:Cx:=cx [(165,eE ay)] []
def Yr:CxOK prog Yq:=aP aG ⟨qnh,uT⟩ trivial
def NF:af prog 115 (fA ay):=
 conv (aS Yr f115 (fr:=λx=>Jv (J (ii (λn=>(x.2.1 (n,())).1) x.1>=0),())) (ps:=[.d (.sl ay),hZ ay]) (rs:=[.bool])) _ _
  (λ_ _ x _ _ _=>⟨uT,ufu (Cl _ x.1) rfl⟩)
def qni:af prog 58 (eE bR):=
 um (cS (fn:=f58) aH (uE bR (ae.of_run aH (bs:=0) rfl rfl rfl (λ_=>aY _ 0) (λx=>by kernel_rfl))) (ps:=[.d (.sl bR),hZ bR]) (rs:=[i64]) (fr:=oQ bR))
noncomputable def Ys:Cx:=cx [(58,eE bR)] []
def Yt:CxOK prog Ys:=aP aG ⟨qni,uT⟩ trivial
def qap:af prog 37 (fA bR):=
 conv (aS Yt f37 (fr:=λx=>Jv (J (ii (λn=>(x.2.1 (n,())).1) x.1>=0),())) (ps:=[.d (.sl bR),hZ bR]) (rs:=[.bool])) _ _
  (λ_ _ x _ _ _=>⟨uT,ufu (Cl _ x.1) rfl⟩)
def qng:af prog 80 (eE bi):=
 um (cS (fn:=f80) aH (uE bi (ae.of_run aH (bs:=0) rfl rfl rfl (λ_=>aY _ 0) (λx=>by kernel_rfl))) (ps:=[.d (.sl bi),hZ bi]) (rs:=[i64]) (fr:=oQ bi))
noncomputable def Y7:Cx:=cx [(113,lx)] []
def Y8:CxOK prog Y7:=aP aG ⟨yK,uT⟩ trivial
def B9(x:ag [.d ay]):Fr (aa [.bool]):=
 Jv (!(lx.f (x.1,())).1,())
def qi4:af prog 169 ⟨[.d ay],[.bool],λxs=>(B9 xs).get,λxs=>[(B9 xs).ok]⟩:=
 cf Y8 (Λ:=bw) (fn:=f169) (aW [.d ay]) (by kernel_rfl) (λc E _=>aY c 0) (λx=>by kernel_rfl)
def AM:Ct:=⟨[.d ay],[.bool],λx=>(B9 x).get,λ_=>[]⟩
def qcb:af prog 169 AM:=bW qi4 _ (λx a _=>uT)
noncomputable def Mm:Cx:=cx [(70,iD),(115,fA ay),(169,AM),(170,tB)] []
def Mn:CxOK prog Mm:=aP aG ⟨vF,NF,qcb,O3,uT⟩ trivial
def xx(x:ag [.d ah,.d (.sl ay)]):Fr (aa [aK,i64]):=
 Jd ((bif !(iD.f (x.1,())).1 then Z else x.1.2.1 != 2)=Y->∀ (x:aa [ay]),fi [ay] x->av (AM.ok (x.1,()))) (Jb (bif bif !(iD.f (x.1,())).1 then Z else x.1.2.1 != 2 then Z else ((fA ay).f (x.2.1,λx=>AM.f (x.1,()),())).1) (Jv ([],1,())) (Jb (J (((List.length x.2.1):Int)>2000)) (Jv ([],2,())) (Jd (0<=((List.length x.2.1):Int)/\((List.length x.2.1):Int)<=((List.length x.2.1):Int)/\((List.length x.2.1):Int)<=(maxLen:Int)/\((List.length x.2.1):Int)*(8:Int)<=140737488355328) (cI (InK (((List.length x.2.1):Int)) 0 (List.length x.2.1)) (Tz (((List.length x.2.1):Int),x.2.1,x.1) (List.replicate (((List.length x.2.1):Int)).toNat 0,(tB.f (x.1,())).1,())) (QZ (((List.length x.2.1):Int),x.2.1,x.1) (List.replicate (((List.length x.2.1):Int)).toNat 0,(tB.f (x.1,())).1,())) (λa=>Jv (a.1,0,()))))))
def qi5:af prog 122 ⟨[.d ah,.d (.sl ay)],[aK,i64],λxs=>(xx xs).get,λxs=>[(xx xs).ok]⟩:=
 cf Mn (Λ:=(λ_=>zd8 Mm.Γ)) (fn:=f122) (aW [.d ah,.d (.sl ay)]) (by kernel_rfl) (λc E a=>zlp a (by kernel_rfl) (b:=au f122 0) (by kernel_rfl) (ae.han Mn rfl qsf)) (λx=>by kernel_rfl)
def Sr(h:J ((n:Int)>2000)=Y):n<=2000:=by
 have:=uch h;omega
def lK{l:List α}(hi:i<n)(a:l.length=n):(0<=(i:Int)/\(i:Int)<(l.length:Int))/\Int.toNat (i:Int)<l.length:=by
 rw[a,uc0];exact⟨⟨ub4 _,Int.ofNat_lt.2 hi⟩,hi⟩
def eD{l:List α}{e:α}(h:l[i]?= U e):i<l.length:=(uak.1 h).1
def qqa(t:ah.den)(l:List ay.den)(s:List Int×vN.den)(a:s.1.length=l.length):
  Tz ((l.length:Int),l,t) s/\(QZ ((l.length:Int),l,t) s).1.length=l.length:=
 dk (step:=DW ((l.length:Int),l,t) True) (λ_ (s:List Int×vN.den)=>s.1.length=l.length) l (λi e s d a=>by
  obtain⟨b,c⟩:=lK (eD d) a;exact⟨uT,λ_=>⟨b,c,(show(List.set _ _ _).length=_ by rw[udo];exact a)⟩,λ_=>a⟩) s a
def Sq(t:ah.den)(l:List ay.den):(xx (t,l,())).satP (λy=>y.1=[]\/y.1.length=l.length):=by
 unfold xx;refine⟨λ_ _ _=>uT,λ_=>.inl rfl,λ_=>⟨λ_=>.inl rfl,λh=>?_⟩⟩;have a:l.length<=2000:=Sr h;exact⟨uH (ueo a (by decide)),fz (A:=λ(s:List Int×vN.den)=>s.1.length=l.length) (dI (ueo a (by decide))) (qqa t l _ (by
  show(List.replicate _ _).length=_;rw[ubc,uc0])) (λs b=>.inr b)⟩
def xf:Ct:=⟨[.d ah,.d (.sl ay)],[aK,i64],λx=>(xx x).get,λ_=>[]⟩
def qcc:af prog 122 xf:=bW qi5 _ (λx _ _=>(cO (Sq x.1 x.2.1)).1)
def qqb(t:ah.den)(l:List ay.den):(xf.f (t,l,())).1=[]\/(xf.f (t,l,())).1.length=l.length:=(cO (Sq t l)).2
noncomputable def Mo:Cx:=l8 [(166,ko)] [] [(1000000000000+126,.rw 0 3)] (λ_ _ _ _=>V)
def EJ:CxOK prog Mo:=mI (cs:=[(166,ko)]) (ps:=[]) (rs:=[(1000000000000+126,.rw 0 3)]) aG ⟨z7,uT⟩ trivial ⟨uT,uT⟩ (λ_ _ _ _ _ h=>(nomatch h))
abbrev J8:Ty:=.pair i64 i64
abbrev vn:Pt:=⟨57,0,⟨[(13,.d i64),(12,.d i64),(11,.d (.sl ay))],[.x 2 44 ah,.r 2 2 0,.o 5 (ed 126 0 3) aK,.o 6 dL J8]⟩,⟨[],[.o 5 (ed 126 0 3) aK]⟩,⟨[],[]⟩⟩
def DS(k:Int×(List ay.den)×ah.den)(b:Prop)(i:Int)(e:ay.den)(s:(List (List Int))×(List J8.den)):Fr ((List (List Int))×(List J8.den)):=
 let g:=(s.1.length:Int);let c:=ip s.2 e.2.1 0-1;let a:=I6.wrap c;let d:=s.1.getD a.toNat aK.dflt;Jd b (Jb (!(ko.f (k.2.2,e,())).1) (Jv (s.1,s.2)) (Jb (bif e.2.1 != 0 then J (ip s.2 e.2.1 0>0)else Y) (Jd (0<=I6.wrap c/\I6.wrap c<g) (Jd (a.toNat<s.1.length) (Jd (List.length d + [i].length<=maxLen/\(List.length d + [i].length)*8<=140737488355328) (Jd (0<=I6.wrap c/\I6.wrap c<g) (Jd (a.toNat<s.1.length/\a.toNat=a.toNat) (Jv (s.1.set a.toNat (s.1.getD a.toNat aK.dflt++[i]),s.2))))))) (Jd (s.1.length + [[i]].length<=maxLen/\(s.1.length + [[i]].length)*24<=140737488355328) (Jd (s.2.length<maxLen) (Jv (s.1++[[i]],ec s.2 e.2.1 ((s.1++[[i]]).length:Int)))))))
def MX:vn.M.X->Fr vn.Out:=FG (λx=>(x.1.1,(x.1.2.1,x.1.2.2.1,x.2.1),(x.2.2.1,x.2.2.2.1))) (λk=>k.1) (λk=>k.2.1) DS (λk s=>((),s.1,()))
def qr7:ae prog (.loop (au f173 0)) vn.M vn MX:=
 cN EJ (λi k s=>((i,k.1,k.2.1,()),k.2.2,s.1,s.2,())) ay.dflt
def QW:=λk s=>bO (DS k True) 0 k.2.1 s
def Tu:=λk s=>bM (DS k True) 0 k.2.1 s
def zd4(Γ:Gm):St->Option Tr:=vn.han Γ vn.M MX
def HN(x:ag [.d ah,.d (.sl ay)]):Fr (aa [.sl aK]):=
 cI (InK (((List.length x.2.1):Int)) 0 (List.length x.2.1)) (Tu (((List.length x.2.1):Int),x.2.1,x.1) ([],[])) (QW (((List.length x.2.1):Int),x.2.1,x.1) ([],[])) (λa=>Jv (a.1,()))
def qiv:af prog 173 ⟨[.d ah,.d (.sl ay)],[.sl aK],λxs=>(HN xs).get,λxs=>[(HN xs).ok]⟩:=
 cf EJ (Λ:=(λ_=>zd4 Mo.Γ)) (fn:=f173) (aW [.d ah,.d (.sl ay)]) (by kernel_rfl) (λc E a=>zlp a (by kernel_rfl) (b:=au f173 0) (by kernel_rfl) (ae.han EJ rfl qr7)) (λx=>by kernel_rfl)
def qt0{l:List (Int×Int)}{n:Int}:∀ p∈ec l n y,p∈l\/p=(n,y):=by
 induction l with
 |nil=>intro p a;exact .inr (ucf.1 a)
 |cons x r c=>
  intro p a;unfold ec at a;cases b:x.1==n with
  |true=>
   rw[b]at a;rcases uei.1 a with h|h
   exact .inr h;exact .inl (ubj _ h)
  |false=>
   rw[b]at a;rcases uei.1 a with h|h
   exact .inl (h ▸ ucc);rcases c p h with h|h
   exact .inl (ubj _ h);exact .inr h
def qtz{l:List (Int×Int)}{n:Int}:(ec l n y).length<=l.length+1:=by
 induction l with
 |nil=>exact ue9 _
 |cons x r a=>
  unfold ec;cases b:x.1==n with
  |true=>exact Nat.le_succ _
  |false=>exact udj a
def qtw{l:List (Int×Int)}{n:Int}(h:ip l n 0>0):∃ p∈l,p.2=ip l n 0:=by
 unfold ip at h |-;split at h;rename_i x a;exact⟨x,List.mem_of_find?_eq_some a,rfl⟩;exact absurd h (by decide)
structure EvI (n i:Nat) (s:List (List Int)×List (Int×Int)):Prop where
 len:s.1.length<=i
 at_:∀ g∈s.1,g.length<=i/\∀ k∈g,0<=k/\k<(n:Int)
 mlen:s.2.length<=i
 map:∀ p∈s.2,1<=p.2/\p.2<=(s.1.length:Int)
def EvI.up{s:List (List Int)×List (Int×Int)}(h:EvI n i s):EvI n (i+1) s:=
 ⟨uc3 h.len,λg a=>⟨uc3 (h.at_ g a).1,(h.at_ g a).2⟩,uc3 h.mlen,h.map⟩
def EvI.put{s:List (List Int)×List (Int×Int)}(h:EvI n i s)(hi:i<n)(d:j<s.1.length):EvI n (i+1) (s.1.set j (s.1.getD j []++[(i:Int)]),s.2):=by
 have l:s.1.getD j []∈s.1:=by
  rw[uah,uaq d];exact udi d
 refine⟨?_,λg c=>?_,uc3 h.mlen,λp o=>?_⟩;show(List.set _ _ _).length<=_;rw[udo];exact uc3 h.len;rcases uap c with a|a
 exact(h.up.at_ g a);subst a;obtain⟨e,f⟩:=h.at_ _ l;refine⟨?_,λk m=>?_⟩;rw[ub6];exact udj e;rcases uds.1 m with b|b
 exact f k b;rw[ucf.1 b];omega;show _/\_<=((List.set _ _ _).length:Int);rw[udo];exact h.map p o
def EvI.new{s:List (List Int)×List (Int×Int)}{m:Int}(h:EvI n i s)(hi:i<n):EvI n (i+1) (s.1++[[(i:Int)]],ec s.2 m ((s.1++[[(i:Int)]]).length:Int)):=by
 have c:(s.1++[[(i:Int)]]).length=s.1.length+1:=by rw[ub6];rfl
 refine⟨?_,λg b=>?_,ueo qtz (udj h.mlen),λp e=>?_⟩;show(s.1++[[(i:Int)]]).length<=_;rw[c];exact udj h.len;rcases uds.1 b with a|a
 exact h.up.at_ g a;rw[ucf.1 a];refine⟨udj (uff _),λk d=>?_⟩;rw[ucf.1 d];omega;show _/\_<=((s.1++[[(i:Int)]]).length:Int);rcases qt0 p e with a|a
 have:=h.map p a;rw[c];omega;rw[a,c];omega
def HD(t:ah.den)(l:List ay.den)(y:l.length<=1000000):
  Tu ((l.length:Int),l,t) ([],[])/\EvI l.length l.length (QW ((l.length:Int),l,t) ([],[])):=by
 have x:=ew;refine dk (step:=DS ((l.length:Int),l,t) True) (EvI l.length) l (λi e s n b=>?_) _ ⟨ue9 _,λ_ h=>(nomatch h),ue9 _,λ_ h=>(nomatch h)⟩;have hi:=eD n;refine⟨uT,λ_=>b.up,λ_=>⟨λc=>?_,λ_=>⟨?_,?_,b.new hi⟩⟩⟩;have d:ip s.2 e.2.1 0>0:=by
  have c:(bif e.2.1 != 0 then J (ip s.2 e.2.1 0>0)else Y)=true:=c;cases k:(e.2.1 != 0)with
  |true=>rw[k]at c;exact ucx c
  |false=>rw[k]at c;cases c
 obtain⟨p,o,j⟩:=qtw d;have a:=b.map p o;rw[j]at a;have m:=b.len;generalize ip s.2 e.2.1 0=v at d a;change Int at v;have u:I6.wrap (v-1)=v-1:=cz (by omega);rw[u];have q:1<=v:=a.1;have r:v<=(s.1.length:Int):=a.2;have f:(v-1).toNat<s.1.length:=by omega
 have w:(s.1.getD (v-1).toNat []).length<=i:=by
  have:s.1.getD (v-1).toNat []∈s.1:=by
   rw[uah,uaq f];exact udi f
  exact(b.at_ _ this).1
 have g:0<=v-1/\v-1<(s.1.length:Int):=⟨by omega,by omega⟩;refine⟨g,f,?_,g,⟨f,rfl⟩,b.put hi f⟩;show(s.1.getD (v-1).toNat []).length+1<=maxLen/\((s.1.getD (v-1).toNat []).length+1)*8<=140737488355328;omega;have m:=b.len;show s.1.length+1<=maxLen/\(s.1.length+1)*24<=140737488355328;omega;have m:=b.mlen;show s.2.length<maxLen;omega
def AL:Ct:=⟨[.d ah,.d (.sl ay)],[.sl aK],λx=>(HN x).get,λx=>[(List.length (α:=ay.den) x.2.1)<=1000000]⟩
def qca:af prog 173 AL:=bW qiv _ (λx b a=>⟨gt b.2.1.1,(HD x.1 x.2.1 a).1,uT⟩)
def qg7(t:ah.den)(l:List ay.den)(a:l.length<=1000000):∀ g∈(AL.f (t,l,())).1,g.length<=l.length/\∀ k∈g,0<=k/\k<(l.length:Int):=(HD t l a).2.at_
noncomputable def Y9:Cx:=cx [(113,lx)] []
def EL:CxOK prog Y9:=aP aG ⟨yK,uT⟩ trivial
abbrev vj:Pt:=⟨108,0,⟨[(31,.d i64),(30,.d i64),(29,.d (.sl ay)),(1,.d (.sl ay))],[.x 2 44 ah,.r 2 2 0]⟩,⟨[(1,.d (.sl ay))],[.x 2 44 ah,.r 2 2 0]⟩,⟨[(4,.d aK),(5,.d i64)],[]⟩⟩
def DP(k:Int×(List ay.den)×(List ay.den)×ah.den)(b:Prop)(i:Int)(e:ay.den)(s:Unit):Fr (Unit ⊕ vj.R.X):=
 Jd b (Jb (!(lx.f (e,())).1) (Jv (.inr (([],1,()),()))) (Jv (.inl ())))
def Z6:vj.M.X->Fr vj.Out:=FK (λx=>(x.1.1,(x.1.2.1,x.1.2.2.1,x.1.2.2.2.1,x.2.1),())) (λk=>k.1) (λk=>k.2.1) DP (λk s=>((k.2.2.1,()),k.2.2.2,())) (λ_ y=>Rd.back y) () (aW _,bN _)
def qr4:ae prog (.loop (au f123 0)) vj.M vj Z6:=
 lm EL (λi k s=>((i,k.1,k.2.1,k.2.2.1,()),k.2.2.2,())) ay.dflt
def qmj:=λk s=>da (DP k True) 0 k.2.1 s
def qur:=λk s=>eJ (DP k True) 0 k.2.1 s
abbrev vl:Pt:=⟨108,4,⟨[(57,.d i64),(56,.d i64),(55,.d aK),(1,.d (.sl ay)),(9,.d i64),(11,.d aK),(51,.d i64),(50,.d i64),(49,.d (.sl aK)),(13,.d i64)],[.x 2 44 ah,.r 2 2 0,.o 8 3 i64,.o 12 3 i64]⟩,⟨[(1,.d (.sl ay)),(9,.d i64),(11,.d aK),(51,.d i64),(50,.d i64),(49,.d (.sl aK)),(13,.d i64)],[.x 2 44 ah,.r 2 2 0,.o 8 3 i64,.o 12 3 i64]⟩,⟨[],[]⟩⟩
def DQ(k:Int×(List Int)×(List ay.den)×Int×(List Int)×Int×Int×(List (List Int))×ah.den×(List Int))(b:Prop)(i:Int)(e:i64.den)(s:Int×(List Int)):Fr (Int×(List Int)):=
 let d:=((List.length k.2.2.1):Int);let a:=List.getD k.2.2.1 (Int.toNat e) ay.dflt;let c:=a.2.2.2.2.1;Jd b (Jd (0<=e/\e<d) (Jd (s.2.length + [c].length<=maxLen/\(s.2.length + [c].length)*8<=140737488355328) (Jd (0<=e/\e<d) (Jv (I6.wrap (s.1+c),s.2++[c])))))
noncomputable def R9:Code:=((Go.Ab.loopB (au f123 1) 0).getD .skip)
def MV:vl.M.X->Fr vl.Out:=FG (λx=>(x.1.1,(x.1.2.1,x.1.2.2.1,x.1.2.2.2.1,x.1.2.2.2.2.1,x.1.2.2.2.2.2.1,x.1.2.2.2.2.2.2.1,x.1.2.2.2.2.2.2.2.1,x.1.2.2.2.2.2.2.2.2.1,x.2.1,x.2.2.1),(x.1.2.2.2.2.2.2.2.2.2.1,x.2.2.2.1))) (λk=>k.1) (λk=>k.2.1) DQ (λk s=>((k.2.2.1,k.2.2.2.1,k.2.2.2.2.1,k.2.2.2.2.2.1,k.2.2.2.2.2.2.1,k.2.2.2.2.2.2.2.1,s.1,()),(k.2.2.2.2.2.2.2.2.1,k.2.2.2.2.2.2.2.2.2,s.2,())))
def qr5:ae prog (.loop R9) vl.M vl MV:=
 cN EL (λi k s=>((i,k.1,k.2.1,k.2.2.1,k.2.2.2.1,k.2.2.2.2.1,k.2.2.2.2.2.1,k.2.2.2.2.2.2.1,k.2.2.2.2.2.2.2.1,s.1,()),k.2.2.2.2.2.2.2.2.1,k.2.2.2.2.2.2.2.2.2,s.2,())) i64.dflt
def QU:=λk s=>bO (DQ k True) 0 k.2.1 s
def Ts:=λk s=>bM (DQ k True) 0 k.2.1 s
def zd2(Γ:Gm):St->Option Tr:=vl.han Γ vl.M MV
abbrev vm:Pt:=⟨108,6,⟨[(93,.d i64),(92,.d i64),(91,.d aK),(1,.d (.sl ay)),(9,.d i64),(11,.d aK),(51,.d i64),(50,.d i64),(49,.d (.sl aK))],[.x 2 44 ah,.r 2 2 0,.o 8 3 i64]⟩,⟨[(1,.d (.sl ay)),(9,.d i64),(51,.d i64),(50,.d i64),(49,.d (.sl aK))],[.x 2 44 ah,.r 2 2 0,.o 8 3 i64]⟩,⟨[],[]⟩⟩
def DR(k:Int×(List Int)×(List ay.den)×Int×(List Int)×Int×Int×(List (List Int))×ah.den)(b:Prop)(i:Int)(e:i64.den)(s:(List Int)):Fr ((List Int)):=
 let d:=Int.toNat i;let c:=k.2.2.2.2.1;let a:=List.getD c d i64.dflt;Jd b (Jd (0<=i/\i<((List.length c):Int)) (Jd (0<=List.getD c d i64.dflt/\List.getD c d i64.dflt<(s.length:Int)) (Jd (Int.toNat a<s.length) (Jv (s.set (Int.toNat a) e)))))
noncomputable def RA:Code:=((Go.Ab.loopB (au f123 1) 1).getD .skip)
def MW:vm.M.X->Fr vm.Out:=FG (λx=>(x.1.1,(x.1.2.1,x.1.2.2.1,x.1.2.2.2.1,x.1.2.2.2.2.1,x.1.2.2.2.2.2.1,x.1.2.2.2.2.2.2.1,x.1.2.2.2.2.2.2.2.1,x.1.2.2.2.2.2.2.2.2.1,x.2.1),x.2.2.1)) (λk=>k.1) (λk=>k.2.1) DR (λk s=>((k.2.2.1,k.2.2.2.1,(k.2.2.2.2.2.1,k.2.2.2.2.2.2.1,k.2.2.2.2.2.2.2.1,())),(k.2.2.2.2.2.2.2.2,s,())))
def qr6:ae prog (.loop RA) vm.M vm MW:=
 cN EL (λi k s=>((i,k.1,k.2.1,k.2.2.1,k.2.2.2.1,k.2.2.2.2.1,k.2.2.2.2.2.1,k.2.2.2.2.2.2.1,k.2.2.2.2.2.2.2.1,()),k.2.2.2.2.2.2.2.2,s,())) i64.dflt
def QV:=λk s=>bO (DR k True) 0 k.2.1 s
def Tt:=λk s=>bM (DR k True) 0 k.2.1 s
def zd3(Γ:Gm):St->Option Tr:=vm.han Γ vm.M MW
noncomputable def EM:Cx:=cx [(70,iD),(113,lx),(172,mF),(170,tB),(174,wW),(173,AL)] []
def zO:CxOK prog EM:=aP aG ⟨vF,yK,O2,O3,zak,qca,uT⟩ trivial
abbrev Di:Pt:=⟨108,2,⟨[(51,.d i64),(50,.d i64),(49,.d (.sl aK)),(1,.d (.sl ay)),(9,.d i64)],[.x 2 44 ah,.r 2 2 0,.o 8 3 i64]⟩,⟨[],[.o 8 3 i64]⟩,⟨[],[]⟩⟩
def Cy(k:Int×(List (List Int))×(List ay.den)×ah.den)(i:Int)(e:List Int)(s:Int×List Int):Int×(List Int)×(List ay.den)×Int×(List Int)×Int×Int×(List (List Int))×ah.den×(List Int):=((e.length:Int),e,k.2.2.1,s.1,e,i,k.1,k.2.1,k.2.2.2,s.2)
def Aq(t:ah.den)(left a:Int):Int:=if (mF.f (t,a,())).1<left then (mF.f (t,a,())).1 else left
def tK(t:ah.den)(left:Int)(r:Int×List Int):List Int:=(wW.f (Aq t left r.1,r.2,())).1
def Jh(k:Int×(List (List Int))×(List ay.den)×ah.den)(i:Int)(e:List Int)(s:Int×List Int)(r:Int×List Int):Int×(List Int)×(List ay.den)×Int×(List Int)×Int×Int×(List (List Int))×ah.den:=
 (((tK k.2.2.2 s.1 r).length:Int),tK k.2.2.2 s.1 r,k.2.2.1,I6.wrap (s.1-Aq k.2.2.2 s.1 r.1),e,i,k.1,k.2.1,k.2.2.2)
def DO(k:Int×(List (List Int))×(List ay.den)×ah.den)(b:Prop)(i:Int)(e:aK.den)(s:Int×List Int):Fr (Int×List Int):=
 Jd b (cI (InK (List.length e:Int) 0 (List.length e)) (Ts (Cy k i e s) (0,[])) (QU (Cy k i e s) (0,[])) (λr=>
  cI (InK ((tK k.2.2.2 s.1 r).length:Int) 0 (tK k.2.2.2 s.1 r).length) (Tt (Jh k i e s r) s.2) (QV (Jh k i e s r) s.2) (λo=>Jv (I6.wrap (s.1-Aq k.2.2.2 s.1 r.1),o))))
def Z5:Di.M.X->Fr Di.Out:=FG (λx=>(x.1.1,(x.1.2.1,x.1.2.2.1,x.1.2.2.2.1,x.2.1),(x.1.2.2.2.2.1,x.2.2.1))) (λk=>k.1) (λk=>k.2.1) DO (λk s=>((),s.2,()))
def qr3:ae prog (.loop (au f123 1)) Di.M Di Z5:=
 cN zO (λi k s=>((i,k.1,k.2.1,k.2.2.1,s.1,()),k.2.2.2,s.2,())) aK.dflt (Λ:=(λk=>if k=0 then zd2 EM.Γ else zd3 EM.Γ)) (hΛ:=λ_=>Sm (by kernel_rfl) (b0:=R9) (b1:=RA) (by kernel_rfl) (by kernel_rfl) (ae.han zO rfl qr5) (ae.han zO rfl qr6))
def QT:=λk s=>bO (DO k True) 0 k.2.1 s
def Tq:=λk s=>bM (DO k True) 0 k.2.1 s
end Go.Proofs.YtdokapnnagbehaaGreat
