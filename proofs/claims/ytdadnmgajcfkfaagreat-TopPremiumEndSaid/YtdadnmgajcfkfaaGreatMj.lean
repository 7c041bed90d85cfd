/-
  Parts of the proof, one behind the other.
-/
import Derived.Test.YtdadnmgajcfkfaaGreatMi
import Derived.Deep.RegionLaw
import Derived.LoopN
set_option linter.all false
set_option maxRecDepth 100000
set_option maxHeartbeats 4000000
noncomputable section
open Option renaming some->U,none->V
open Bool renaming true->Z,false->Y
open Decidable renaming decide->J
open List renaming replicate->Lrp
open BitVec renaming ofInt->Bvo
open Go Go.RowKit
variable {T α σ ρ β:Type} {P:Program} {ad:Addr} {arr cs cur:Array Value} {f:FuncId} {x a y day:Int} {k:IntKind} {l:List Int} {xs vs news:List Value} {off i n b c d B m len:Nat} {F F' K:Nat->Prop} {R g R':Nat->Value->Prop} {o:Oper} {p:Prop} {e ety t ty el:TypeId} {v u vx:Value} {w w' W' W:World}
namespace Go.Proofs.YtdadnmgajcfkfaaGreat
open Go Go.Ab Go.RowKit Go.Proofs Tryz
open Go.Ab.Fr renaming val->Jv,need->Jd,br->Jb
structure RI (s:ak.q):Prop where
 due:∀ a∈bW s,(fT a.1 s.1).2=0
 accs:Up ev (bW s)
 paid:∀ a∈bW s,0<=a.2.1/\a.2.1<=4000000000000000000
 pol:∀ g∈aJ s,∃ a∈bW s,ev a=g.1.2.1
 fils:Up kK (aJ s)
 tres:Up (λt:ah.q=>t.1) (bT s)
 clo:0<=kg s
 tl:(bT s).length<=100
def zlh(t:bh.q):RI (hZ t):=⟨λa h=>(by cases h),List.Pairwise.nil,λa h=>(by cases h),λg h=>(by cases h),List.Pairwise.nil,List.Pairwise.nil,ufc _,ufh _⟩
def zgy{s:ak.q}{id:Int}(h:¬ dw s id>=0):∀ a∈bW s,ev a≠id:=λa b=>by have:=Gp (g:=λa=>ev a==id) (l:=bW s) (by unfold dw at h;omega) a b;simpa using this
def zgx{s:ak.q}{id:Int}(h:¬ eS s id>=0):∀ g∈aJ s,kK g≠id:=λa b=>by have:=Gp (g:=λa=>kK a==id) (l:=aJ s) (by unfold eS at h;omega) a b;simpa using this
def tc{s:ak.q}{id:Int}(h:¬ dw s id<0):(bW s)[(dw s id).toNat]?= U (gc s (dw s id))/\ev (gc s (dw s id))=id:=by
 obtain⟨f,x,c,d⟩:=pY (g:=λa=>ev a==id) (l:=bW s) (by unfold dw at h;omega);have b:(bW s)[(dw s id).toNat]?= U x:=c;have e:gc s (dw s id)=x:=by show(bW s).getD (dw s id).toNat bn.j=x;rw[uah,b];rfl
 rw[e];exact⟨b,ufr d⟩
def UX{s:ak.q}{id:Int}(h:¬ eS s id<0):(aJ s)[(eS s id).toNat]?= U (FH s (eS s id))/\kK (FH s (eS s id))=id:=by
 obtain⟨f,x,c,d⟩:=pY (g:=λa=>kK a==id) (l:=aJ s) (by unfold eS at h;omega);have b:(aJ s)[(eS s id).toNat]?= U x:=c;have e:FH s (eS s id)=x:=by show(aJ s).getD (eS s id).toNat aq.j=x;rw[uah,b];rfl
 rw[e];exact⟨b,ufr d⟩
def Ye{g:α->Int}{l:List α}{x y:α}(h:y∈l\/y=x):y∈gt g l x:=by
 show y∈je _ l [x];generalize (if gr g l x<0 then (l.length:Int)else gr g l x)=i;unfold je;rw[udt,udt];rcases h with h|h
 rw[<- uba i.toNat l,udt]at h;rcases h with h|h
 exact .inl (.inl h);exact .inr h;exact .inl (.inr (ucf.2 h))
def qma{id a:Int}{t:dF.q}(h:(mH id a t).2=0):(mH id a t).1.1=id:=by unfold mH at h |-;cases b:wD id a t;rfl;rw[b]at h;have h:(1:Int)=0:=h;exact absurd h (by decide)
def ZD{h:aD.q}{c:ay.q}(e:(kV h c).2=0):(kV h c).1.1=h.1:=by unfold kV at e |-;split at e;rename_i a;rw[ufw a];split at e;exact absurd e (by decide);rename_i b;rw[ufx b];split at e;exact absurd e (by decide);rename_i d;rw[ufx d];rfl;exact absurd e (by decide)
def T3{g:aq.q}{a:ba.q}(e:(eX g a).2=0):(eX g a).1.1=g.1:=by unfold eX at e |-;cases b : !(lc a);rw[b]at e;cases c:J (((List.length (α:=ba.q) g.2.1:Nat):Int)>=2000);rw[c]at e;cases d:J (a.1<qb g);rw[d]at e;cases f:(m9 g).2.2.2.2.2.1==(a.2.1==5);rw[f]at e;cases h:A8 g a;rfl;rw[h]at e;have e:(5:Int)=0:=e;exact absurd e (by decide);rw[f]at e;have e:(10:Int)=0:=e;exact absurd e (by decide);rw[d]at e;have e:(4:Int)=0:=e;exact absurd e (by decide);rw[c]at e;have e:(2:Int)=0:=e;exact absurd e (by decide);rw[b]at e;have e:(1:Int)=0:=e;exact absurd e (by decide)
def J4{b:Int}(h:(bif a==0 then b else a)=0):a=0/\b=0:=by cases c:a==0;rw[c]at h;have h:a=0:=h;rw[h]at c;exact absurd c (by decide);rw[c]at h;exact⟨ufr c,h⟩
def zle{s:ak.q}{f:ae.q}(h:RI s)(e:(fB s f).2=0):RI (fB s f).1:=by
 unfold fB at e |-;cases c:J (aI s f>=0);rw[c]at e;cases i:J (((List.length (bW s):Nat):Int)>=2000);rw[i]at e;have e:(bif (bH f).2==0 then (fT (bH f).1 s.1).2 else (bH f).2)=0:=e;obtain⟨k,l⟩:=J4 e;have d:ev ((bH f).1,0,())=iw f:=qma k;have n:=zgy (uch c);refine⟨λa b=>?_,PX h.accs (λy p=>by rw[d];exact n y p),λa b=>?_,λg m=>?_,h.fils,h.tres,h.clo,h.tl⟩;rcases o9 b with b|rfl
 exact h.due a b;exact l;rcases o9 b with b|rfl
 exact h.paid a b;exact⟨ufc _,(by decide:(0:Int)<=4000000000000000000)⟩;obtain⟨a,b,o⟩:=h.pol g m;exact⟨a,Ye (.inl b),o⟩;rw[i]at e;have e:(2:Int)=0:=e;exact absurd e (by decide);rw[c]at e;have e:(8:Int)=0:=e;exact absurd e (by decide)
def qaa{s:ak.q}(h:RI s){b x:bn.q}(m:(bW s)[i]?= U b)(f:ev x=ev b)(p:(fT x.1 s.1).2=0)(u:0<=x.2.1/\x.2.1<=4000000000000000000):RI (mE s ((bW s).set i x)):=by
 refine⟨λa c=>?_,qdm h.accs (λy o=>by rw[m]at o;cases o;exact f),λa c=>?_,λg r=>?_,h.fils,h.tres,h.clo,h.tl⟩;rcases qd c with c|rfl
 exact h.due a c;exact p;rcases qd c with c|rfl
 exact h.paid a c;exact u;obtain⟨a,c,d⟩:=h.pol g r;obtain⟨k,n⟩:=ubs c;have t:=(uak.1 m).1;by_cases l:k=i;subst l;rw[m]at n;cases n;exact⟨x,ubg (ua0 t),f.trans d⟩;exact⟨a,ubg ((ubi (λe=>l e.symm)).trans n),d⟩
def zld{s:ak.q}{f:ae.q}(h:RI s)(e:(fA s f).2=0):RI (fA s f).1:=by unfold fA at e |-;cases a:J (aI s f<0);rw[a]at e;cases c:(aJ s).any (lO f);rw[c]at e;have e:(bif (pH s f).2==0 then (fT (pH s f).1 s.1).2 else (pH s f).2)=0:=e;obtain⟨d,g⟩:=J4 e;obtain⟨b,k⟩:=tc (uch a);have i:=h.paid _ (ubg b);exact qaa h b (ZD d) g i;rw[c]at e;have e:(10:Int)=0:=e;exact absurd e (by decide);rw[a]at e;have e:(7:Int)=0:=e;exact absurd e (by decide)
def zi5{m:Int}(b:0<=a/\a<=4000000000000000000)(c:1<=m/\m<=1000000000000000)(h:¬ m>I6.wrap (4000000000000000000-a)):0<=I6.wrap (a+m)/\I6.wrap (a+m)<=4000000000000000000:=by rw[IntWalk.i64_in _ (by omega)]at h;rw[IntWalk.i64_in _ (by omega)];omega
def zli{s:ak.q}{f:ae.q}(h:RI s)(i:1<=ej f/\ej f<=1000000000000000)(e:(fD s f).2=0):RI (fD s f).1:=by unfold fD at e |-;cases b:J (aI s f<0);rw[b]at e;cases d:J (ej f>I6.wrap (4000000000000000000-(gc s (aI s f)).2.1));obtain⟨c,l⟩:=tc (uch b);have a:=ubg c;have g:=h.due _ a;have k:=zi5 (h.paid _ a) i (uch d);exact qaa h c rfl g k;rw[d]at e;have e:(5:Int)=0:=e;exact absurd e (by decide);rw[b]at e;have e:(7:Int)=0:=e;exact absurd e (by decide)
def zlg{s:ak.q}{f:ae.q}(h:RI s)(e:(fl s f).2=0):RI (fl s f).1:=by
 unfold fl at e |-;cases a:J (eS s (dk f).1>=0);rw[a]at e;cases d:J (((List.length (aJ s):Nat):Int)>=2000);rw[d]at e;cases b : !(lA s f).2;have n:=zgx (uch a);have l:¬ dw s (dk f).2.1<0:=λm=>by
  have:(lA s f).2=false:=by show(gO s (dk f).2.1).2=Y;unfold gO;rw[ufx (by omega)]
  rw[this]at b;cases b
 obtain⟨i,k⟩:=tc l;refine⟨h.due,h.accs,h.paid,λg c=>?_,PX h.fils (λy o=>n y o),h.tres,h.clo,h.tl⟩;rcases o9 c with c|rfl
 exact h.pol g c;exact⟨_,ubg i,k⟩;rw[b]at e;have e:(7:Int)=0:=e;exact absurd e (by decide);rw[d]at e;have e:(2:Int)=0:=e;exact absurd e (by decide);rw[a]at e;have e:(8:Int)=0:=e;exact absurd e (by decide)
def zlc{s:ak.q}{f:ae.q}(h:RI s)(e:(eY s f).2=0):RI (eY s f).1:=by
 unfold eY at e |-;cases c:J (gI s f<0);rw[c]at e;have e:(pG s f).2=0:=e;have d:=T3 e;obtain⟨b,k⟩:=UX (uch c);refine⟨h.due,h.accs,h.paid,λg a=>?_,qdm h.fils (λy i=>by rw[b]at i;cases i;exact ufu (·.1) d),h.tres,h.clo,h.tl⟩;rcases qd a with a|rfl
 exact h.pol g a;rw[d];exact h.pol _ (ubg b);exact h
def zlj{s:ak.q}{f:ae.q}(h:RI s)(e:(fE s f).2=0):RI (fE s f).1:=by unfold fE at e |-;cases a:oZ s (dB f);rw[a]at e;cases b:J (((List.length (bT s):Nat):Int)>=100);cases g:jV (bT s) (dB f);refine⟨h.due,h.accs,h.paid,h.pol,h.fils,PX h.tres (λy d=>?_),h.clo,?_⟩;unfold oZ at a;rw[List.any_eq_false]at a;have:=a y d;simpa using this;have c:=uch b;show(gt (λt:ah.q=>t.1) (bT s) (dB f)).length<=100;rw[Cy];omega;exact h;exact h;exact h
def zlf{s:ak.q}{f:ae.q}(h:RI s)(a:1<=dA f):RI (gi s f).1:=by unfold gi;cases b:J (dA f<=kg s);exact⟨h.due,h.accs,h.paid,h.pol,h.fils,h.tres,ue5 (by decide) a,h.tl⟩;exact h
def BF{f:ae.q}(h:cG f=Z):pp f=true:=by unfold cG at h;rw[udc,udc,udc]at h;have a:=h.2.2;rw[udc]at a;exact a.2
def qx0{f:ae.q}(h:cG f=Z)(b:aM f=3):1<=ej f/\ej f<=1000000000000000:=by have a:=BF h;unfold pp at a;rw[b]at a;have a:((md f&&J (ej f>=1))&&J (ej f<=1000000000000000))=true:=a;rw[udc,udc]at a;exact⟨ucx a.1.2,ucx a.2⟩
def V4{f:ae.q}(h:cG f=Z)(b:aM f=7):1<=dA f/\dA f<=bF f:=by have a:=BF h;unfold pp at a;rw[b]at a;have a:(J (dA f>=1)&&J (dA f<=bF f))=true:=a;rw[udc]at a;exact⟨ucx a.1,ucx a.2⟩
def TU(s:ak.q)(f:ae.q):gU s f=(bif aM f==1 then fB s f else bif aM f==2 then fA s f else bif aM f==3 then fD s f else bif aM f==4 then fl s f else bif aM f==5 then eY s f else bif aM f==6 then fE s f else gi s f):=by
 show((kB s f).1,(kB s f).2.1)=_;unfold kB;cases aM f==1;cases aM f==2;cases aM f==3;cases aM f==4;cases aM f==5;cases aM f==6<;>rfl
 rfl;rfl;rfl;rfl;rfl
def zy6{s:ak.q}{f:ae.q}(h:RI s)(a:cG f=Z)(e:(gU s f).2=0):RI (gU s f).1:=by
 have b:=BG a;rw[TU]at e |-;rcases qs b with k|k|k|k|k|k|k<;>rw[k]at e |-
 exact zle h e;exact zld h e;exact zli h (qx0 a k) e;exact zlg h e;exact zlc h e;exact zlj h e;exact zlf h (V4 a k).1
def zy7{b:Int}{s:ak.q}(f:ae.q)(h:RI s):RI (lD b s f):=by unfold lD;cases J (bF f>b);show RI (l5 s f);unfold l5;cases a:(dq s f).2==0;exact h;obtain⟨c,d,e⟩:=Dp (ufr a);show RI (dq s f).1;rw[e];exact zy6 h (NQ c).1 d;exact h
def zur{b:Int}:(l:List ae.q) -> {s:ak.q}->RI s->RI (kF b l s)
 |[],_,h=>h
 |f::l,_,h=>zur l (zy7 f h)
def zxe(s:ak.q)(f:ae.q):kg (fB s f).1=kg s:=by
 unfold fB;cases J (aI s f>=0);cases J (((List.length (bW s):Nat):Int)>=2000)<;>rfl
 rfl
def zxd(s:ak.q)(f:ae.q):kg (fA s f).1=kg s:=by
 unfold fA;cases J (aI s f<0);cases (aJ s).any (lO f)<;>rfl
 rfl
def zxh(s:ak.q)(f:ae.q):kg (fD s f).1=kg s:=by
 unfold fD;cases J (aI s f<0);cases J (ej f>I6.wrap (4000000000000000000-(gc s (aI s f)).2.1))<;>rfl
 rfl
def zxf(s:ak.q)(f:ae.q):kg (fl s f).1=kg s:=by
 unfold fl;cases J (eS s (dk f).1>=0);cases J (((List.length (aJ s):Nat):Int)>=2000);cases !(lA s f).2<;>rfl
 rfl;rfl
def zxc(s:ak.q)(f:ae.q):kg (eY s f).1=kg s:=by unfold eY;cases J (gI s f<0)<;>rfl
def zxi(s:ak.q)(f:ae.q):kg (fE s f).1=kg s:=by
 unfold fE;cases oZ s (dB f);cases J (((List.length (bT s):Nat):Int)>=100);cases jV (bT s) (dB f)<;>rfl
 rfl;rfl
def zxg{s:ak.q}{f:ae.q}(a:cG f=Z)(b:aM f≠7):kg (gU s f).1=kg s:=by
 rw[TU];rcases qs (BG a)with k|k|k|k|k|k|k<;>rw[k]
 exact zxe s f;exact zxd s f;exact zxh s f;exact zxf s f;exact zxc s f;exact zxi s f;exact absurd k b
def zvh{s:ak.q}{f:ae.q}(a:aM f=7):gU s f=gi s f:=by rw[TU,a];rfl
def zun(s:ak.q)(f:ae.q):kg (l5 s f)=kg s\/(aM f=7/\kg (l5 s f)=dA f/\kg s<dA f/\dA f<=bF f):=by unfold l5;cases g:(dq s f).2==0;exact .inl rfl;obtain⟨h,a,c⟩:=Dp (ufr g);have e:=(NQ h).1;show kg (dq s f).1=kg s\/_;by_cases b:aM f=7;refine .inr ⟨b,?_⟩;show kg (dq s f).1=dA f/\_;rw[c];rw[zvh b]at a |-;unfold gi at a |-;cases d:J (dA f<=kg s);exact⟨rfl,by have:=uch d;omega,(V4 e b).2⟩;rw[d]at a;have a:(12:Int)=0:=a;exact absurd a (by decide);rw[c];exact .inl (zxg e b)
def ztl(s:ak.q)(f:ae.q):kg s<=kg (l5 s f):=by
 rcases zun s f with h|⟨_,a,b,_⟩
 rw[h];exact ufc _;rw[a];exact ueu b
def zv7{s:ak.q}{f:ae.q}(d:cG f=Z)(e:aM f=7):dA f<=kg (l5 s f):=by
 have g:=(V4 d e).2;by_cases b:bF f<=kg s;exact ue5 (ue5 g b) (ztl s f);by_cases c:dA f<=kg s;exact ue5 c (ztl s f);have h:jv s f=0:=by unfold jv;rw[d,udw b];rfl
 have a:gU s f=((s.1,s.2.1,s.2.2.1,s.2.2.2.1,dA f,()),0):=by rw[zvh e];unfold gi;rw[udw c];rfl
 have i:dq s f=((s.1,s.2.1,s.2.2.1,s.2.2.2.1,dA f,()),0):=by unfold dq;rw[h,a];rfl
 unfold l5;rw[i];exact ufc _
def zvg{early a:Int}(g:early<=a):(l:List ae.q)->(s t:ak.q)->kg t<=kg s->kg (kF early l t)<=kg (kF a l s)
 |[],_,_,h=>h
 |f::l,s,t,h=>by
  refine zvg g l (lD a s f) (lD early t f) ?_;by_cases d:bF f<=early;rw[ztc d,ztc (ue5 d g)];rcases zun t f with b|⟨k,b,m,n⟩
  rw[b];exact ue5 h (ztl s f);rw[b];have i:cG f=true:=by unfold l5 at b;cases e:(dq t f).2==0;rw[e]at b;have b:kg t=dA f:=b;omega;exact(NQ (Dp (ufr e)).1).1
  exact zv7 i k;rw[zwf (by omega)];by_cases c:bF f<=a;rw[ztc c];exact ue5 h (ztl s f);rw[zwf (by omega)];exact h
abbrev ew:Ty:=.pair i64 (.pair i64 .unit)
abbrev bj:Ty:=.pair i64 (.pair ar (.pair aP .unit))
abbrev bQ:Ty:=.pair i64 (.pair i64 (.pair i64 (.pair i64 (.pair i64 (.pair i64 .unit)))))
abbrev cO:Ty:=.pair bQ (.pair .bool .unit)
abbrev aA:Ty:=.pair i64 (.pair ba .unit)
abbrev db:Ty:=.pair i64 (.pair i64 (.pair i64 .unit))
abbrev cL:Ty:=.pair i64 (.pair i64 (.pair i64 .unit))
abbrev bD:Ty:=.pair i64 (.pair i64 .unit)
abbrev aW:Ty:=.pair i64 (.pair i64 (.pair (.sl bD) .unit))
abbrev bq:Ty:=.pair (.sl aW) .unit
abbrev dX:Ty:=.pair i64 (.pair i64 (.pair i64 (.pair i64 (.pair i64 (.pair i64 (.pair i64 (.pair i64 (.pair i64 (.pair i64 .unit)))))))))
def CV6:Cx:=cx [(177,mL),(129,kv),(109,kw)] []
def QQ:CxOK prog CV6:=aQ aH ⟨D5,Aw,zh,uT⟩ trivial
def F9(x:ap [.d ah,.d ax]):Fr (aa [i64,.bool]):=
 Jb (bif x.1.2.1 != 1 then Z else !(mL.f x).1) (Jv (0,Y,())) (Jv ((kv.f (x.2.1.2.2.2.2.1,x.1.2.2.2.1,())).1,Z,()))
def qvh:ag prog 122 ⟨[.d ah,.d ax],[i64,.bool],λxs=>(F9 xs).get,λxs=>[(F9 xs).ok]⟩:=
 cF QQ (Λ:=bK) (fn:=f122) (aY [.d ah,.d ax]) (by kernel_rfl) (λc E _=>bm c 0) (λx=>by kernel_rfl)
def EV:Ct:=⟨[.d ah,.d ax],[i64,.bool],λx=>(F9 x).get,λ_=>[]⟩
def SX:ag prog 122 EV:=conv qvh _ _ (λ_ _ x _ _ _=>⟨by unfold F9;repeat' first|exact trivial|intro _|refine⟨?_,?_⟩|decide,rfl⟩)
def LQ(x:ap [.d ah]):Fr (aa [.bool]):=
 Jv (bif (kw.f (x.1,())).1 then x.1.2.1 != 1 else Y,())
def qul:ag prog 226 ⟨[.d ah],[.bool],λxs=>(LQ xs).get,λxs=>[(LQ xs).ok]⟩:=
 cF QQ (Λ:=bK) (fn:=f226) (aY [.d ah]) (by kernel_rfl) (λc E _=>bm c 0) (λx=>by kernel_rfl)
def EL:Ct:=⟨[.d ah],[.bool],λx=>(LQ x).get,λ_=>[]⟩
def qm3:ag prog 226 EL:=conv qul _ _ (λ_ _ x _ _ _=>⟨uT,rfl⟩)
def CV7:Cx:=cx [(226,EL),(129,kv),(101,kZ)] []
def QS:CxOK prog CV7:=aQ aH ⟨qm3,Aw,AX,uT⟩ trivial
def Fz(x:ap [.d ah,.d i64]):Fr (aa [i64]):=
 Jb (bif !(EL.f (x.1,())).1 then Z else J (x.2.1<=x.1.2.2.2.2.1)) (Jv (0,())) (Jv (if I6.wrap (x.2.1-x.1.2.2.2.2.1)<x.1.2.2.2.2.2.1 then I6.wrap (x.2.1-x.1.2.2.2.2.1)else x.1.2.2.2.2.2.1,()))
def quj:ag prog 183 ⟨[.d ah,.d i64],[i64],λxs=>(Fz xs).get,λxs=>[(Fz xs).ok]⟩:=
 cF QS (Λ:=bK) (fn:=f183) (aY [.d ah,.d i64]) (by kernel_rfl) (λc E _=>bm c 0) (λx=>by kernel_rfl)
def py:Ct:=⟨[.d ah,.d i64],[i64],λx=>(Fz x).get,λ_=>[]⟩
def SR:ag prog 183 py:=conv quj _ _ (λ_ _ x _ _ _=>⟨by unfold Fz;repeat' first|exact trivial|intro _|refine⟨?_,?_⟩|decide,rfl⟩)
def F4(x:ap [.d ah]):Fr (aa [i64]):=
 Jb (!(EL.f (x.1,())).1) (Jv (0,())) (Jv (I6.wrap (x.1.2.2.2.2.2.1*I6.wrap (1+x.1.2.2.2.2.2.2.1)),()))
def quk:ag prog 181 ⟨[.d ah],[i64],λxs=>(F4 xs).get,λxs=>[(F4 xs).ok]⟩:=
 cF QS (Λ:=bK) (fn:=f181) (aY [.d ah]) (by kernel_rfl) (λc E _=>bm c 0) (λx=>by kernel_rfl)
def tB:Ct:=⟨[.d ah],[i64],λx=>(F4 x).get,λ_=>[]⟩
def SS:ag prog 181 tB:=conv quk _ _ (λ_ _ x _ _ _=>⟨by unfold F4;repeat' first|exact trivial|intro _|refine⟨?_,?_⟩|decide,rfl⟩)
abbrev yK:Pt:=⟨19,0,⟨[(9,.d i64),(8,.d i64),(7,.d aP),(0,.d i64)],[]⟩,⟨[(0,.d i64)],[]⟩,⟨[],[]⟩⟩
def P2(k:Int×(List Int))(b:Prop)(i:Int)(e:i64.q)(s:Int):Fr (Int):=
 Jd b (Jv (if e<s then e else s))
def Rr:yK.M.X->Fr yK.Out:=FG (λx=>(x.1.1,(x.1.2.1,x.1.2.2.1),x.1.2.2.2.1)) (λk=>k.1) (λk=>k.2) P2 (λk s=>((s,()),()))
def zea:af prog (.loop (au f104 0)) yK.M yK Rr:=
 cX aL (λi k s=>((i,k.1,k.2,s,()),())) i64.j
def qyl:=λk s=>bw (P2 k True) 0 k.2 s
def zhd:=λk s=>bY (P2 k True) 0 k.2 s
def zsq(a:Gm):St->Option Tr:=yK.han a yK.M Rr
def Eb:(a:List PT)->ap a->Prop
 |[],_=>True
 |.d t::r,x=>Wf t x.1/\Eb r x.2
 |_::r,x=>Eb r x.2
def vW:{ps:List PT} -> {x:ap ps} -> {vs:List Value}->dm P w F ps x vs->Eb ps x
 |[],_,_,_=>trivial
 |.d _::_,_,_,⟨_,_,_,h,a⟩=>⟨aG.wf h.2.2,vW a⟩
 |.ptr _::r,x,_,⟨_,_,_,_,a⟩=>vW (ps:=r) (x:=x.2) a
 |.fn _ _::r,x,_,⟨_,_,_,_,a⟩=>vW (ps:=r) (x:=x.2) a
 |.pf _ _::r,x,_,⟨_,_,_,_,a⟩=>vW (ps:=r) (x:=x.2) a
 |.pfn _ _::r,x,_,⟨_,_,_,_,a⟩=>vW (ps:=r) (x:=x.2) a
 |.pk f::r,x,_,⟨_,_,_,_,a⟩=>vW (ps:=r) (x:=x.2) a
def cq{a:List PT}{c:List Ty}{fr:ap a->Fr (aa c)}(h:ag P f ⟨a,c,λxs=>(fr xs).get,λxs=>[(fr xs).ok]⟩)(ok:ap a->List Prop)(d:∀ xs,Eb a xs->az (ok xs)->(fr xs).ok):ag P f ⟨a,c,λx=>(fr x).get,ok⟩:=
 conv h _ ok (λ_ _ xs _ e b=>⟨d xs (vW e) b,rfl⟩)
def Xu{E:Env}{Λ:Nat->St->Option Tr}{c b0 b1:Code}(k:cD c=2)(b:Go.Ab.loopB c 0=U b0)(d:Go.Ab.loopB c 1=U b1)(f:km P E b0 (Λ 0))(g:km P E b1 (Λ 1)):co P E Λ c 0:=by
 refine mf c 0 λi h a=>?_;have e:=Go.Ab.loopB_lt a
 match i,a,e with
 |0,a,_=>rw[b]at a;cases a;exact f
 |1,a,_=>rw[d]at a;cases a;exact g
 |i+2,_,e=>omega
def jd(h:n<=maxLen):InK (n:Int) 0 n:=⟨rfl,ufc _,ub4 _,by unfold maxLen at h;omega⟩
def yx{step:Int->T->σ->Fr σ}(h:∀ i e s,(step i e s).ok):(l:List T)->(i:Int)->(s:σ)->bY step i l s
 |[],_,_=>trivial
 |_::r,_,_=>⟨h _ _ _,yx h r _ _⟩
def Oh{step:Int->T->σ->Fr (σ ⊕ ρ)}(h:∀ i e s,(step i e s).ok):(l:List T)->(i:Int)->(s:σ)->eI step i l s
 |[],_,_=>trivial
 |_::r,_,_=>⟨h _ _ _,by split;exact Oh h r _ _;trivial⟩
def qz{q:Prop}{g:σ}{k:σ->Fr α}(b:p)(c:q)(a:∀ s,(k s).ok):(cT p q g k).ok:=⟨b,c,a g⟩
def sS{q:Prop}{g:σ ⊕ ρ}{d:σ}{a:ρ}{k:σ->Fr α}{r:ρ->Fr α}(c:p)(e:q)(b:∀ s,(k s).ok)(f:∀ y,(r y).ok):(iS p q g d a k r).ok:=⟨c,e,λ_=>b _,λ_=>f _⟩
def LJ(x:ap [.d i64,.d aP]):Fr (aa [i64]):=
 cT (InK (((List.length x.2.1):Int)) 0 (List.length x.2.1)) (zhd (((List.length x.2.1):Int),x.2.1) x.1) (qyl (((List.length x.2.1):Int),x.2.1) x.1) (λa=>Jv (if a<0 then 0 else a,()))
def qtz:ag prog 104 ⟨[.d i64,.d aP],[i64],λxs=>(LJ xs).get,λxs=>[(LJ xs).ok]⟩:=
 cF aL (Λ:=(λ_=>zsq eN.Γ)) (fn:=f104) (aY [.d i64,.d aP]) (by kernel_rfl) (λc E a=>fH a (by kernel_rfl) (b:=au f104 0) (by kernel_rfl) (af.han aL rfl zea)) (λx=>by kernel_rfl)
def nQ:Ct:=⟨[.d i64,.d aP],[i64],λx=>(LJ x).get,λ_=>[]⟩
def SQ:ag prog 104 nQ:=cq qtz _ (λx a _=>qz (jd a.2.1.1) (by refine yx (λ_ _ _=>?_) _ _ _;exact⟨uT,uT⟩) (λ_=>uT))
def qhi:Cx:=cx [(104,nQ),(129,kv)] []
def QC:CxOK prog qhi:=aQ aH ⟨SQ,Aw,uT⟩ trivial
def LI(x:ap [.d ar,.d i64]):Fr (aa [i64]):=
 Jv ((nQ.f (I6.wrap (x.2.1-x.1.2.2.2.1),[x.1.2.1],())).1,())
def qty:ag prog 102 ⟨[.d ar,.d i64],[i64],λxs=>(LI xs).get,λxs=>[(LI xs).ok]⟩:=
 cF QC (Λ:=bK) (fn:=f102) (aY [.d ar,.d i64]) (by kernel_rfl) (λc E _=>bm c 0) (λx=>by kernel_rfl)
def AI:Ct:=⟨[.d ar,.d i64],[i64],λx=>(LI x).get,λ_=>[]⟩
def qmx:ag prog 102 AI:=cq qty _ (λx a _=>uT)
def LK(x:ap [.d ar,.d i64]):Fr (aa [i64]):=
 Jv ((kv.f (x.2.1,x.1.2.2.2.2.1,())).1,())
def qt0:ag prog 103 ⟨[.d ar,.d i64],[i64],λxs=>(LK xs).get,λxs=>[(LK xs).ok]⟩:=
 cF QC (Λ:=bK) (fn:=f103) (aY [.d ar,.d i64]) (by kernel_rfl) (λc E _=>bm c 0) (λx=>by kernel_rfl)
def AJ:Ct:=⟨[.d ar,.d i64],[i64],λx=>(LK x).get,λ_=>[]⟩
def qmy:ag prog 103 AJ:=cq qt0 _ (λx a _=>uT)
abbrev zt:Ty:=.pair i64 .unit
def XvT:FuncId->Option (Func×(Nat->St->Option Tr)):=cR [(182,(f182,bK))]
def qhj:Cx:=dI [(177,mL),(183,py)] [] (iJ prog (cx [] []) XvT)
def qhk:CxOK prog qhj:=dP aH ⟨D5,SR,uT⟩ trivial (jt (aQ (cs:=[]) (ps:=[]) aH trivial trivial) (nD (by kernel_rfl) sP))
abbrev yR:Pt:=⟨58,1,⟨[(39,.d i64),(38,.d i64),(37,.d (.sl ax))],[.x 2 73 ah,.r 2 2 0,.o 7 3 i64,.x 35 344 zt,.r 8 35 (1000000000+182)]⟩,⟨[],[.o 7 3 i64]⟩,⟨[],[]⟩⟩
def Ib(k:Int×(List ax.q)×ah.q)(b:Prop)(i:Int)(e:ax.q)(s:(List Int)×zt.q):Fr ((List Int)×zt.q):=
 Jd b (Jb ((mL.f (k.2.2,e,())).1) (Jd (0<=i/\i<(s.1.length:Int)) (Jd (Int.toNat i<s.1.length) (Jv (s.1.set (Int.toNat i) (if s.2.1<(py.f (k.2.2,e.2.2.2.2.1,())).1 then s.2.1 else (py.f (k.2.2,e.2.2.2.2.1,())).1),I6.wrap (s.2.1-if s.2.1<(py.f (k.2.2,e.2.2.2.2.1,())).1 then s.2.1 else (py.f (k.2.2,e.2.2.2.2.1,())).1),())))) (Jv (s.1,s.2.1,())))
def R0:yR.M.X->Fr yR.Out:=FG (λx=>(x.1.1,(x.1.2.1,x.1.2.2.1,x.2.1),(x.2.2.1,x.2.2.2.1))) (λk=>k.1) (λk=>k.2.1) Ib (λk s=>((),s.1,()))
def zes:af prog (.loop (au f120 0)) yR.M yR R0:=
 cX qhk (λi k s=>((i,k.1,k.2.1,()),k.2.2,s.1,s.2,())) ax.j
def VS:=λk s=>bw (Ib k True) 0 k.2.1 s
def YG:=λk s=>bY (Ib k True) 0 k.2.1 s
def zsy(a:Gm):St->Option Tr:=yR.han a yR.M R0
def qzn:ag prog 176 (ge ax):=
 xT (cZ (fn:=f176) aL (yg ax (af.of_run aL (bs:=0) rfl rfl rfl (λ_=>bm _ 0) (λx=>by kernel_rfl))) (ps:=[.d (.sl ax),jP ax]) (rs:=[i64]) (fr:=r8 ax))
def qg0:Cx:=cx [(176,ge ax)] []
def qg1:CxOK prog qg0:=aQ aH ⟨qzn,uT⟩ trivial
def Sc:ag prog 113 (ir ax):=
 conv (aT qg1 f113 (fr:=λx=>Jv (J (gY (λn=>(x.2.1 (n,())).1) x.1>=0),())) (ps:=[.d (.sl ax),jP ax]) (rs:=[.bool])) _ _
  (λ_ _ x _ _ _=>⟨uT,ufv (BR _ x.1) rfl⟩)
def qzo:ag prog 51 (ge bD):=
 xT (cZ (fn:=f51) aL (yg bD (af.of_run aL (bs:=0) rfl rfl rfl (λ_=>bm _ 0) (λx=>by kernel_rfl))) (ps:=[.d (.sl bD),jP bD]) (rs:=[i64]) (fr:=r8 bD))
def qg2:Cx:=cx [(51,ge bD)] []
def qg3:CxOK prog qg2:=aQ aH ⟨qzo,uT⟩ trivial
def qk5:ag prog 21 (ir bD):=
 conv (aT qg3 f21 (fr:=λx=>Jv (J (gY (λn=>(x.2.1 (n,())).1) x.1>=0),())) (ps:=[.d (.sl bD),jP bD]) (rs:=[.bool])) _ _
  (λ_ _ x _ _ _=>⟨uT,ufv (BR _ x.1) rfl⟩)
def qzm:ag prog 158 (ge bj):=
 xT (cZ (fn:=f158) aL (yg bj (af.of_run aL (bs:=0) rfl rfl rfl (λ_=>bm _ 0) (λx=>by kernel_rfl))) (ps:=[.d (.sl bj),jP bj]) (rs:=[i64]) (fr:=r8 bj))
def qhl:Cx:=cx [(111,nO)] []
def qhm:CxOK prog qhl:=aQ aH ⟨CH,uT⟩ trivial
def LP(x:ap [.d ax]):Fr (aa [.bool]):=
 Jv (!(nO.f (x.1,())).1,())
def quh:ag prog 180 ⟨[.d ax],[.bool],λxs=>(LP xs).get,λxs=>[(LP xs).ok]⟩:=
 cF qhm (Λ:=bK) (fn:=f180) (aY [.d ax]) (by kernel_rfl) (λc E _=>bm c 0) (λx=>by kernel_rfl)
def EK:Ct:=⟨[.d ax],[.bool],λx=>(LP x).get,λ_=>[]⟩
def qm1:ag prog 180 EK:=cq quh _ (λx a _=>uT)
def QD:Cx:=cx [(109,kw),(113,ir ax),(180,EK),(181,tB)] []
def QE:CxOK prog QD:=aQ aH ⟨zh,Sc,qm1,SS,uT⟩ trivial
def Bk(x:ap [.d ah,.d (.sl ax)]):Fr (aa [aP,i64]):=
 Jd ((bif !(kw.f (x.1,())).1 then Z else x.1.2.1 != 2)=Y->∀ (x:aa [ax]),gN [ax] x->az (EK.ok (x.1,()))) (Jb (bif bif !(kw.f (x.1,())).1 then Z else x.1.2.1 != 2 then Z else ((ir ax).f (x.2.1,λx=>EK.f (x.1,()),())).1) (Jv ([],1,())) (Jb (J (((List.length x.2.1):Int)>2000)) (Jv ([],2,())) (Jd (0<=((List.length x.2.1):Int)/\((List.length x.2.1):Int)<=((List.length x.2.1):Int)/\((List.length x.2.1):Int)<=(maxLen:Int)/\((List.length x.2.1):Int)*(8:Int)<=140737488355328) (cT (InK (((List.length x.2.1):Int)) 0 (List.length x.2.1)) (YG (((List.length x.2.1):Int),x.2.1,x.1) (Lrp (((List.length x.2.1):Int)).toNat 0,(tB.f (x.1,())).1,())) (VS (((List.length x.2.1):Int),x.2.1,x.1) (Lrp (((List.length x.2.1):Int)).toNat 0,(tB.f (x.1,())).1,())) (λa=>Jv (a.1,0,()))))))
def qui:ag prog 120 ⟨[.d ah,.d (.sl ax)],[aP,i64],λxs=>(Bk xs).get,λxs=>[(Bk xs).ok]⟩:=
 cF QE (Λ:=(λ_=>zsy QD.Γ)) (fn:=f120) (aY [.d ah,.d (.sl ax)]) (by kernel_rfl) (λc E a=>fH a (by kernel_rfl) (b:=au f120 0) (by kernel_rfl) (af.han QE rfl zes)) (λx=>by kernel_rfl)
def X1(h:J ((n:Int)>2000)=Y):n<=2000:=by have:=uch h;omega
def ou{l:List α}(a:i<n)(b:l.length=n):(0<=(i:Int)/\(i:Int)<(l.length:Int))/\Int.toNat (i:Int)<l.length:=by rw[b,uc0];exact⟨⟨ub4 _,Int.ofNat_lt.2 a⟩,a⟩
def eO{l:List α}{e:α}(h:l[i]?= U e):i<l.length:=(uak.1 h).1
def zci(t:ah.q)(l:List ax.q)(s:List Int×zt.q)(a:s.1.length=l.length):
  YG ((l.length:Int),l,t) s/\(VS ((l.length:Int),l,t) s).1.length=l.length:=
 dK (step:=Ib ((l.length:Int),l,t) True) (λ_ (s:List Int×zt.q)=>s.1.length=l.length) l (λi e s d a=>by obtain⟨b,c⟩:=ou (eO d) a;exact⟨uT,λ_=>⟨b,c,(show(List.set _ _ _).length=_ by rw[udp];exact a)⟩,λ_=>a⟩) s a
def Xz(t:ah.q)(l:List ax.q):(Bk (t,l,())).s7 (λy=>y.1=[]\/y.1.length=l.length):=by unfold Bk;refine⟨λ_ _ _=>uT,λ_=>.inl rfl,λ_=>⟨λ_=>.inl rfl,λh=>?_⟩⟩;have a:l.length<=2000:=X1 h;exact⟨yj (uep a (by decide)),ii (A:=λ(s:List Int×zt.q)=>s.1.length=l.length) (eU (uep a (by decide))) (zci t l _ (by show(Lrp _ _).length=_;rw[ubc,uc0])) (λs b=>.inr b)⟩
def AL:Ct:=⟨[.d ah,.d (.sl ax)],[aP,i64],λx=>(Bk x).get,λ_=>[]⟩
def qm2:ag prog 120 AL:=cq qui _ (λx _ _=>(dt (Xz x.1 x.2.1)).1)
def zcj(t:ah.q)(l:List ax.q):(AL.f (t,l,())).1=[]\/(AL.f (t,l,())).1.length=l.length:=(dt (Xz t l)).2
def QF:Cx:=nV [(177,mL)] [] [(1000000000000+48,.rw 0 3)] (λ_ _ _ _=>V)
def IN:CxOK prog QF:=pE (cs:=[(177,mL)]) (ps:=[]) (rs:=[(1000000000000+48,.rw 0 3)]) aH ⟨D5,uT⟩ trivial ⟨uT,uT⟩ (λ_ _ _ _ _ h=>(nomatch h))
abbrev NM:Ty:=.pair i64 i64
abbrev yO:Pt:=⟨57,0,⟨[(13,.d i64),(12,.d i64),(11,.d (.sl ax))],[.x 2 73 ah,.r 2 2 0,.o 5 (fJ 48 0 3) aP,.o 6 fh NM]⟩,⟨[],[.o 5 (fJ 48 0 3) aP]⟩,⟨[],[]⟩⟩
def Ia(k:Int×(List ax.q)×ah.q)(b:Prop)(i:Int)(e:ax.q)(s:(List (List Int))×(List NM.q)):Fr ((List (List Int))×(List NM.q)):=
 let g:=(s.1.length:Int);let c:=jf s.2 e.2.1 0-1;let a:=I6.wrap c;let d:=s.1.getD a.toNat aP.j;Jd b (Jb (!(mL.f (k.2.2,e,())).1) (Jv (s.1,s.2)) (Jb (bif e.2.1 != 0 then J (jf s.2 e.2.1 0>0)else Y) (Jd (0<=I6.wrap c/\I6.wrap c<g) (Jd (a.toNat<s.1.length) (Jd (List.length d + [i].length<=maxLen/\(List.length d + [i].length)*8<=140737488355328) (Jd (0<=I6.wrap c/\I6.wrap c<g) (Jd (a.toNat<s.1.length/\a.toNat=a.toNat) (Jv (s.1.set a.toNat (s.1.getD a.toNat aP.j++[i]),s.2))))))) (Jd (s.1.length + [[i]].length<=maxLen/\(s.1.length + [[i]].length)*24<=140737488355328) (Jd (s.2.length<maxLen) (Jv (s.1++[[i]],eZ s.2 e.2.1 ((s.1++[[i]]).length:Int)))))))
def Rv:yO.M.X->Fr yO.Out:=FG (λx=>(x.1.1,(x.1.2.1,x.1.2.2.1,x.2.1),(x.2.2.1,x.2.2.2.1))) (λk=>k.1) (λk=>k.2.1) Ia (λk s=>((),s.1,()))
def zej:af prog (.loop (au f184 0)) yO.M yO Rv:=
 cX IN (λi k s=>((i,k.1,k.2.1,()),k.2.2,s.1,s.2,())) ax.j
def VQ:=λk s=>bw (Ia k True) 0 k.2.1 s
def YB:=λk s=>bY (Ia k True) 0 k.2.1 s
def zsu(a:Gm):St->Option Tr:=yO.han a yO.M Rv
def LM(x:ap [.d ah,.d (.sl ax)]):Fr (aa [.sl aP]):=
 cT (InK (((List.length x.2.1):Int)) 0 (List.length x.2.1)) (YB (((List.length x.2.1):Int),x.2.1,x.1) ([],[])) (VQ (((List.length x.2.1):Int),x.2.1,x.1) ([],[])) (λa=>Jv (a.1,()))
def qt3:ag prog 184 ⟨[.d ah,.d (.sl ax)],[.sl aP],λxs=>(LM xs).get,λxs=>[(LM xs).ok]⟩:=
 cF IN (Λ:=(λ_=>zsu QF.Γ)) (fn:=f184) (aY [.d ah,.d (.sl ax)]) (by kernel_rfl) (λc E a=>fH a (by kernel_rfl) (b:=au f184 0) (by kernel_rfl) (af.han IN rfl zej)) (λx=>by kernel_rfl)
def zgn{l:List (Int×Int)}{n:Int}:∀ p∈eZ l n y,p∈l\/p=(n,y):=by
 induction l with
 |nil=>intro p a;exact .inr (ucf.1 a)
 |cons x r c=>
  intro p a;unfold eZ at a;cases b:x.1==n with
  |true=>
   rw[b]at a;rcases uej.1 a with h|h
   exact .inr h;exact .inl (ubj _ h)
  |false=>
   rw[b]at a;rcases uej.1 a with h|h
   exact .inl (h ▸ ucc);rcases c p h with h|h
   exact .inl (ubj _ h);exact .inr h
def zgm{l:List (Int×Int)}{n:Int}:(eZ l n y).length<=l.length+1:=by
 induction l with
 |nil=>exact ufb _
 |cons x r a=>
  unfold eZ;cases b:x.1==n with
  |true=>exact Nat.le_succ _
  |false=>exact udk a
def zgi{l:List (Int×Int)}{n:Int}(h:jf l n 0>0):∃ p∈l,p.2=jf l n 0:=by unfold jf at h |-;split at h;rename_i x a;exact⟨x,List.mem_of_find?_eq_some a,rfl⟩;exact absurd h (by decide)
structure EvI (n i:Nat) (s:List (List Int)×List (Int×Int)):Prop where
 len:s.1.length<=i
 at_:∀ g∈s.1,g.length<=i/\∀ k∈g,0<=k/\k<(n:Int)
 mlen:s.2.length<=i
 map:∀ p∈s.2,1<=p.2/\p.2<=(s.1.length:Int)
def EvI.up{s:List (List Int)×List (Int×Int)}(h:EvI n i s):EvI n (i+1) s:=
 ⟨uc3 h.len,λg a=>⟨uc3 (h.at_ g a).1,(h.at_ g a).2⟩,uc3 h.mlen,h.map⟩
def EvI.put{j:Nat}{s:List (List Int)×List (Int×Int)}(h:EvI n i s)(r:i<n)(d:j<s.1.length):EvI n (i+1) (s.1.set j (s.1.getD j []++[(i:Int)]),s.2):=by
 have l:s.1.getD j []∈s.1:=by rw[uah,uaq d];exact udi d
 refine⟨?_,λg c=>?_,uc3 h.mlen,λp o=>?_⟩;show(List.set _ _ _).length<=_;rw[udp];exact uc3 h.len;rcases uap c with a|a
 exact(h.up.at_ g a);subst a;obtain⟨e,f⟩:=h.at_ _ l;refine⟨?_,λk m=>?_⟩;rw[ub6];exact udk e;rcases udt.1 m with b|b
 exact f k b;rw[ucf.1 b];omega;show _/\_<=((List.set _ _ _).length:Int);rw[udp];exact h.map p o
def EvI.new{s:List (List Int)×List (Int×Int)}{m:Int}(h:EvI n i s)(f:i<n):EvI n (i+1) (s.1++[[(i:Int)]],eZ s.2 m ((s.1++[[(i:Int)]]).length:Int)):=by
 have c:(s.1++[[(i:Int)]]).length=s.1.length+1:=by rw[ub6];rfl
 refine⟨?_,λg b=>?_,uep zgm (udk h.mlen),λp e=>?_⟩;show(s.1++[[(i:Int)]]).length<=_;rw[c];exact udk h.len;rcases udt.1 b with a|a
 exact h.up.at_ g a;rw[ucf.1 a];refine⟨udk (ufh _),λk d=>?_⟩;rw[ucf.1 d];omega;show _/\_<=((s.1++[[(i:Int)]]).length:Int);rcases zgn p e with a|a
 have:=h.map p a;rw[c];omega;rw[a,c];omega
def Lx(t:ah.q)(l:List ax.q)(B:l.length<=1000000):
  YB ((l.length:Int),l,t) ([],[])/\EvI l.length l.length (VQ ((l.length:Int),l,t) ([],[])):=by
 have A:=fI;refine dK (step:=Ia ((l.length:Int),l,t) True) (EvI l.length) l (λi e s r b=>?_) _ ⟨ufb _,λ_ h=>(nomatch h),ufb _,λ_ h=>(nomatch h)⟩;have n:=eO r;refine⟨uT,λ_=>b.up,λ_=>⟨λc=>?_,λ_=>⟨?_,?_,b.new n⟩⟩⟩;have d:jf s.2 e.2.1 0>0:=by
  have c:(bif e.2.1 != 0 then J (jf s.2 e.2.1 0>0)else Y)=true:=c;cases m:(e.2.1 != 0)with
  |true=>rw[m]at c;exact ucx c
  |false=>rw[m]at c;cases c
 obtain⟨p,u,k⟩:=zgi d;have a:=b.map p u;rw[k]at a;have o:=b.len;generalize jf s.2 e.2.1 0=v at d a;change Int at v;have y:I6.wrap (v-1)=v-1:=cV (by omega);rw[y];have w:1<=v:=a.1;have x:v<=(s.1.length:Int):=a.2;have f:(v-1).toNat<s.1.length:=by omega
 have z:(s.1.getD (v-1).toNat []).length<=i:=by
  have:s.1.getD (v-1).toNat []∈s.1:=by rw[uah,uaq f];exact udi f
  exact(b.at_ _ this).1
 have g:0<=v-1/\v-1<(s.1.length:Int):=⟨by omega,by omega⟩;refine⟨g,f,?_,g,⟨f,rfl⟩,b.put n f⟩;show(s.1.getD (v-1).toNat []).length+1<=maxLen/\((s.1.getD (v-1).toNat []).length+1)*8<=140737488355328;omega;have o:=b.len;show s.1.length+1<=maxLen/\(s.1.length+1)*24<=140737488355328;omega;have o:=b.mlen;show s.2.length<maxLen;omega
def EJ:Ct:=⟨[.d ah,.d (.sl ax)],[.sl aP],λx=>(LM x).get,λx=>[(List.length (α:=ax.q) x.2.1)<=1000000]⟩
def qm0:ag prog 184 EJ:=cq qt3 _ (λx b a=>⟨jd b.2.1.1,(Lx x.1 x.2.1 a).1,uT⟩)
def qsg(t:ah.q)(l:List ax.q)(a:l.length<=1000000):∀ g∈(EJ.f (t,l,())).1,g.length<=l.length/\∀ k∈g,0<=k/\k<(l.length:Int):=(Lx t l a).2.at_
def qhn:Cx:=cx [(111,nO)] []
def IQ:CxOK prog qhn:=aQ aH ⟨CH,uT⟩ trivial
abbrev yL:Pt:=⟨108,0,⟨[(31,.d i64),(30,.d i64),(29,.d (.sl ax)),(1,.d (.sl ax))],[.x 2 73 ah,.r 2 2 0]⟩,⟨[(1,.d (.sl ax))],[.x 2 73 ah,.r 2 2 0]⟩,⟨[(4,.d aP),(5,.d i64)],[]⟩⟩
def HW(k:Int×(List ax.q)×(List ax.q)×ah.q)(b:Prop)(i:Int)(e:ax.q)(s:Unit):Fr (Unit ⊕ yL.R.X):=
 Jd b (Jb (!(nO.f (e,())).1) (Jv (.inr (([],1,()),()))) (Jv (.inl ())))
def qjf:yL.M.X->Fr yL.Out:=FK (λx=>(x.1.1,(x.1.2.1,x.1.2.2.1,x.1.2.2.2.1,x.2.1),())) (λk=>k.1) (λk=>k.2.1) HW (λk s=>((k.2.2.1,()),k.2.2.2,())) (λ_ y=>Rd.back y) () (aY _,cf _)
def zeg:af prog (.loop (au f121 0)) yL.M yL qjf:=
 lG IQ (λi k s=>((i,k.1,k.2.1,k.2.2.1,()),k.2.2.2,())) ax.j
def qyn:=λk s=>bC (HW k True) 0 k.2.1 s
def zhf:=λk s=>eI (HW k True) 0 k.2.1 s
abbrev yM:Pt:=⟨108,4,⟨[(57,.d i64),(56,.d i64),(55,.d aP),(1,.d (.sl ax)),(9,.d i64),(11,.d aP),(51,.d i64),(50,.d i64),(49,.d (.sl aP)),(13,.d i64)],[.x 2 73 ah,.r 2 2 0,.o 8 3 i64,.o 12 3 i64]⟩,⟨[(1,.d (.sl ax)),(9,.d i64),(11,.d aP),(51,.d i64),(50,.d i64),(49,.d (.sl aP)),(13,.d i64)],[.x 2 73 ah,.r 2 2 0,.o 8 3 i64,.o 12 3 i64]⟩,⟨[],[]⟩⟩
def HX(k:Int×(List Int)×(List ax.q)×Int×(List Int)×Int×Int×(List (List Int))×ah.q×(List Int))(b:Prop)(i:Int)(e:i64.q)(s:Int×(List Int)):Fr (Int×(List Int)):=
 let d:=((List.length k.2.2.1):Int);let a:=List.getD k.2.2.1 (Int.toNat e) ax.j;let c:=a.2.2.2.2.1;Jd b (Jd (0<=e/\e<d) (Jd (s.2.length + [c].length<=maxLen/\(s.2.length + [c].length)*8<=140737488355328) (Jd (0<=e/\e<d) (Jv (I6.wrap (s.1+c),s.2++[c])))))
def WG:Code:=((Go.Ab.loopB (au f121 1) 0).getD .skip)
def Rt:yM.M.X->Fr yM.Out:=FG (λx=>(x.1.1,(x.1.2.1,x.1.2.2.1,x.1.2.2.2.1,x.1.2.2.2.2.1,x.1.2.2.2.2.2.1,x.1.2.2.2.2.2.2.1,x.1.2.2.2.2.2.2.2.1,x.1.2.2.2.2.2.2.2.2.1,x.2.1,x.2.2.1),(x.1.2.2.2.2.2.2.2.2.2.1,x.2.2.2.1))) (λk=>k.1) (λk=>k.2.1) HX (λk s=>((k.2.2.1,k.2.2.2.1,k.2.2.2.2.1,k.2.2.2.2.2.1,k.2.2.2.2.2.2.1,k.2.2.2.2.2.2.2.1,s.1,()),(k.2.2.2.2.2.2.2.2.1,k.2.2.2.2.2.2.2.2.2,s.2,())))
def zeh:af prog (.loop WG) yM.M yM Rt:=
 cX IQ (λi k s=>((i,k.1,k.2.1,k.2.2.1,k.2.2.2.1,k.2.2.2.2.1,k.2.2.2.2.2.1,k.2.2.2.2.2.2.1,k.2.2.2.2.2.2.2.1,s.1,()),k.2.2.2.2.2.2.2.2.1,k.2.2.2.2.2.2.2.2.2,s.2,())) i64.j
def VO:=λk s=>bw (HX k True) 0 k.2.1 s
def Y9:=λk s=>bY (HX k True) 0 k.2.1 s
def zss(a:Gm):St->Option Tr:=yM.han a yM.M Rt
abbrev yN:Pt:=⟨108,6,⟨[(93,.d i64),(92,.d i64),(91,.d aP),(1,.d (.sl ax)),(9,.d i64),(11,.d aP),(51,.d i64),(50,.d i64),(49,.d (.sl aP))],[.x 2 73 ah,.r 2 2 0,.o 8 3 i64]⟩,⟨[(1,.d (.sl ax)),(9,.d i64),(51,.d i64),(50,.d i64),(49,.d (.sl aP))],[.x 2 73 ah,.r 2 2 0,.o 8 3 i64]⟩,⟨[],[]⟩⟩
def HY(k:Int×(List Int)×(List ax.q)×Int×(List Int)×Int×Int×(List (List Int))×ah.q)(b:Prop)(i:Int)(e:i64.q)(s:(List Int)):Fr ((List Int)):=
 let d:=Int.toNat i;let c:=k.2.2.2.2.1;let a:=List.getD c d i64.j;Jd b (Jd (0<=i/\i<((List.length c):Int)) (Jd (0<=List.getD c d i64.j/\List.getD c d i64.j<(s.length:Int)) (Jd (Int.toNat a<s.length) (Jv (s.set (Int.toNat a) e)))))
def WH:Code:=((Go.Ab.loopB (au f121 1) 1).getD .skip)
def Ru:yN.M.X->Fr yN.Out:=FG (λx=>(x.1.1,(x.1.2.1,x.1.2.2.1,x.1.2.2.2.1,x.1.2.2.2.2.1,x.1.2.2.2.2.2.1,x.1.2.2.2.2.2.2.1,x.1.2.2.2.2.2.2.2.1,x.1.2.2.2.2.2.2.2.2.1,x.2.1),x.2.2.1)) (λk=>k.1) (λk=>k.2.1) HY (λk s=>((k.2.2.1,k.2.2.2.1,(k.2.2.2.2.2.1,k.2.2.2.2.2.2.1,k.2.2.2.2.2.2.2.1,())),(k.2.2.2.2.2.2.2.2,s,())))
def zei:af prog (.loop WH) yN.M yN Ru:=
 cX IQ (λi k s=>((i,k.1,k.2.1,k.2.2.1,k.2.2.2.1,k.2.2.2.2.1,k.2.2.2.2.2.1,k.2.2.2.2.2.2.1,k.2.2.2.2.2.2.2.1,()),k.2.2.2.2.2.2.2.2,s,())) i64.j
def VP:=λk s=>bw (HY k True) 0 k.2.1 s
def YA:=λk s=>bY (HY k True) 0 k.2.1 s
def zst(a:Gm):St->Option Tr:=yN.han a yN.M Ru
def IR:Cx:=cx [(109,kw),(111,nO),(183,py),(181,tB),(149,AB),(184,EJ)] []
def DM:CxOK prog IR:=aQ aH ⟨zh,CH,SR,SS,zoh,qm0,uT⟩ trivial
abbrev Hf:Pt:=⟨108,2,⟨[(51,.d i64),(50,.d i64),(49,.d (.sl aP)),(1,.d (.sl ax)),(9,.d i64)],[.x 2 73 ah,.r 2 2 0,.o 8 3 i64]⟩,⟨[],[.o 8 3 i64]⟩,⟨[],[]⟩⟩
def BU(k:Int×(List (List Int))×(List ax.q)×ah.q)(i:Int)(e:List Int)(s:Int×List Int):Int×(List Int)×(List ax.q)×Int×(List Int)×Int×Int×(List (List Int))×ah.q×(List Int):=((e.length:Int),e,k.2.2.1,s.1,e,i,k.1,k.2.1,k.2.2.2,s.2)
def En(t:ah.q)(left a:Int):Int:=if (py.f (t,a,())).1<left then (py.f (t,a,())).1 else left
def xn(t:ah.q)(left:Int)(r:Int×List Int):List Int:=(AB.f (En t left r.1,r.2,())).1
def N1(k:Int×(List (List Int))×(List ax.q)×ah.q)(i:Int)(e:List Int)(s:Int×List Int)(r:Int×List Int):Int×(List Int)×(List ax.q)×Int×(List Int)×Int×Int×(List (List Int))×ah.q:=
 (((xn k.2.2.2 s.1 r).length:Int),xn k.2.2.2 s.1 r,k.2.2.1,I6.wrap (s.1-En k.2.2.2 s.1 r.1),e,i,k.1,k.2.1,k.2.2.2)
def HV(k:Int×(List (List Int))×(List ax.q)×ah.q)(b:Prop)(i:Int)(e:aP.q)(s:Int×List Int):Fr (Int×List Int):=
 Jd b (cT (InK (List.length e:Int) 0 (List.length e)) (Y9 (BU k i e s) (0,[])) (VO (BU k i e s) (0,[])) (λr=>cT (InK ((xn k.2.2.2 s.1 r).length:Int) 0 (xn k.2.2.2 s.1 r).length) (YA (N1 k i e s r) s.2) (VP (N1 k i e s r) s.2) (λo=>Jv (I6.wrap (s.1-En k.2.2.2 s.1 r.1),o))))
def qje:Hf.M.X->Fr Hf.Out:=FG (λx=>(x.1.1,(x.1.2.1,x.1.2.2.1,x.1.2.2.2.1,x.2.1),(x.1.2.2.2.2.1,x.2.2.1))) (λk=>k.1) (λk=>k.2.1) HV (λk s=>((),s.2,()))
def zef:af prog (.loop (au f121 1)) Hf.M Hf qje:=
 cX DM (λi k s=>((i,k.1,k.2.1,k.2.2.1,s.1,()),k.2.2.2,s.2,())) aP.j (Λ:=(λk=>if k=0 then zss IR.Γ else zst IR.Γ)) (hΛ:=λ_=>Xu (by kernel_rfl) (b0:=WG) (b1:=WH) (by kernel_rfl) (by kernel_rfl) (af.han DM rfl zeh) (af.han DM rfl zei))
def VN:=λk s=>bw (HV k True) 0 k.2.1 s
def Y8:=λk s=>bY (HV k True) 0 k.2.1 s
def N0(t:ah.q)(l:List ax.q):Int×(List ax.q)×(List ax.q)×ah.q:=((l.length:Int),l,l,t)
def pN(t:ah.q)(l:List ax.q):List (List Int):=(EJ.f (t,l,())).1
def Fy(x:ap [.d ah,.d (.sl ax)]):Fr (aa [aP,i64]):=
 Jb (bif x.1.2.1 != 3 then Z else !(kw.f (x.1,())).1) (Jv ([],1,()))
  (iS (InK (List.length x.2.1:Int) 0 (List.length x.2.1)) (zhf (N0 x.1 x.2.1) ()) (qyn (N0 x.1 x.2.1) ()) () (aY _,cf _) (λ_=>
   Jb (J ((List.length x.2.1:Int)>2000)) (Jv ([],2,()))
    (Jd (0<=((List.length x.2.1):Int)/\((List.length x.2.1):Int)<=((List.length x.2.1):Int)/\((List.length x.2.1):Int)<=(maxLen:Int)/\((List.length x.2.1):Int)*(8:Int)<=140737488355328)
     (Jd (List.length x.2.1<=1000000)
      (cT (InK ((pN x.1 x.2.1).length:Int) 0 (pN x.1 x.2.1).length) (Y8 (((pN x.1 x.2.1).length:Int),pN x.1 x.2.1,x.2.1,x.1) ((tB.f (x.1,())).1,Lrp (((List.length x.2.1):Int)).toNat 0)) (VN (((pN x.1 x.2.1).length:Int),pN x.1 x.2.1,x.2.1,x.1) ((tB.f (x.1,())).1,Lrp (((List.length x.2.1):Int)).toNat 0))
       (λs=>Jv (s.2,0,())))))) (λy=>Jv y.1))
def qt2:ag prog 121 (bg [.d ah,.d (.sl ax)] [aP,i64] Fy):=
 oc DM zeg zef (fn:=f121)
def qr2(k:Int×(List (List Int))×(List ax.q)×ah.q)(i:Int)(e:List Int)(s:Int×List Int)(d:e.length<=100000/\∀ x∈e,0<=x/\x<(k.2.2.1.length:Int)):
  Y9 (BU k i e s) (0,[])/\(VO (BU k i e s) (0,[])).2.length=e.length:=
 dK (step:=HX (BU k i e s) True) (λj (r:Int×List Int)=>r.2.length=j) e (λj x r c b=>by
  have g:=eO c;have h:=fI;have a:=d.2 x (ubg c);have f:r.2.length<=99999:=by rw[b];omega
  refine⟨uT,a,?_,a,?_⟩;show r.2.length+1<=maxLen/\(r.2.length+1)*8<=140737488355328;omega;show(_++[_]).length=_;rw[ub6];exact ufu (· + 1) b) _ rfl
def qr3(k:Int×(List Int)×(List ax.q)×Int×(List Int)×Int×Int×(List (List Int))×ah.q)(o:List Int)(d:k.2.1.length<=k.2.2.2.2.1.length)(e:∀ x∈k.2.2.2.2.1,0<=x/\x<(o.length:Int)):
  YA k o/\(VP k o).length=o.length:=
 dK (step:=HY k True) (λ_ (r:List Int)=>r.length=o.length) k.2.1 (λj x r f c=>by
  have b:j<k.2.2.2.2.1.length:=ucb (eO f) d;have a:0<=List.getD k.2.2.2.2.1 (Int.toNat (j:Int)) i64.j/\List.getD k.2.2.2.2.1 (Int.toNat (j:Int)) i64.j<(r.length:Int):=by rw[uc0,uah,uaq b,c];exact e _ (udi b)
  refine⟨uT,(ou b rfl).1,a,?_,?_⟩;generalize List.getD k.2.2.2.2.1 (Int.toNat (j:Int)) i64.j=v at a;change Int at v;omega;show(List.set _ _ _).length=_;rw[udp];exact c) _ rfl
def qr5(k:Int×(List (List Int))×(List ax.q)×ah.q)(s:Int×List Int)(m:s.2.length=k.2.2.1.length)(f:∀ g∈k.2.1,g.length<=100000/\∀ x∈g,0<=x/\x<(k.2.2.1.length:Int)):
  Y8 k s/\(VN k s).2.length=k.2.2.1.length:=
 dK (step:=HV k True) (λ_ (r:Int×List Int)=>r.2.length=k.2.2.1.length) k.2.1 (λj e r d c=>by
  have a:=f e (ubg d);refine⟨uT,ii (A:=λ(q:Int×List Int)=>q.2.length=List.length e) (eU (uep a.1 (by decide))) (qr2 k j e r a) (λq l=>?_)⟩;have b:(xn k.2.2.2 r.1 q).length<=List.length e:=by
   rcases zog (En k.2.2.2 r.1 q.1) q.2 with h|h
   have:xn k.2.2.2 r.1 q=[]:=h;rw[this];exact ufh _;exact Nat.le_of_eq (h.trans l)
  exact ii (A:=λ(o:List Int)=>o.length=r.2.length) (eU (uep b (uep a.1 (by decide)))) (qr3 (N1 k j e r q) r.2 b (by rw[c];exact a.2)) (λo i=>i.trans c)) s m
def Uw(t:ah.q)(l:List ax.q)(k:l.length<=maxLen):(Fy (t,l,())).s7 (λy=>y.1=[]\/y.1.length=l.length):=by unfold Fy;refine⟨λ_=>.inl rfl,λ_=>I8 (A:=λ_=>True) (B:=λy=>y.1.1=[]) (jd k) (o5 (step:=HW (N0 t l) True) (λ_ _=>True) (λ(y:yL.R.X)=>y.1.1=[]) l (λ_ _ _ _ _=>⟨uT,λ_=>rfl,λ_=>uT⟩) () trivial) (λ_ _=>⟨λ_=>.inl rfl,λh=>?_⟩) (λy m=>.inl m)⟩;have a:l.length<=2000:=X1 h;refine⟨yj (uep a (by decide)),uep a (by decide),?_⟩;have c:l.length<=1000000:=uep a (by decide);have b:(pN t l).length<=l.length:=(Lx t l c).2.len;refine ii (A:=λ(s:Int×List Int)=>s.2.length=l.length) (eU (uep b (uep a (by decide)))) (qr5 (((pN t l).length:Int),pN t l,l,t) _ ?_ (λg f=>?_)) (λs i=>.inr i);show(Lrp _ _).length=_;rw[ubc,uc0];obtain⟨d,e⟩:=qsg t l c g f;exact⟨uep d (uep a (by decide)),e⟩
def AK:Ct:=⟨[.d ah,.d (.sl ax)],[aP,i64],λx=>(Fy x).get,λ_=>[]⟩
def qmz:ag prog 121 AK:=cq qt2 _ (λx a _=>(dt (Uw x.1 x.2.1 a.2.1.1)).1)
def qsf(t:ah.q)(l:List ax.q)(a:l.length<=maxLen):(AK.f (t,l,())).1=[]\/(AK.f (t,l,())).1.length=l.length:=(dt (Uw t l a)).2
abbrev NL:Ty:=.pair i64 .bool
def qho:Cx:=cx [(177,mL),(122,EV)] []
def IS:CxOK prog qho:=aQ aH ⟨D5,SX,uT⟩ trivial
abbrev vz:Pt:=⟨21,0,⟨[(9,.d i64),(8,.d i64),(7,.d (.sl ah))],[.o 3 fh NL]⟩,⟨[],[]⟩,⟨[(2,.d .bool)],[]⟩⟩
def qv(k:Int×(List ah.q))(b:Prop)(i:Int)(e:ah.q)(s:(List NL.q)):Fr (((List NL.q)) ⊕ vz.R.X):=
 Jd b (Jb (jf s e.1 Y) (Jv (.inr ((Z,()),()))) (Jd (s.length<maxLen) (Jv (.inl (eZ s e.1 Z)))))
def RD:vz.M.X->Fr vz.Out:=FK (λx=>(x.1.1,(x.1.2.1,x.1.2.2.1),x.2.1)) (λk=>k.1) (λk=>k.2) qv (λk s=>((),())) (λ_ y=>Rd.back y) ([]) (aY _,cf _)
def zfw:af prog (.loop (au f114 0)) vz.M vz RD:=
 lG IS (λi k s=>((i,k.1,k.2,()),s,())) ah.j
def qyu:=λk s=>bC (qv k True) 0 k.2 s
def YK:=λk s=>eI (qv k True) 0 k.2 s
def zs8(a:Gm):St->Option Tr:=vz.han a vz.M RD
abbrev ze:Pt:=⟨29,0,⟨[(10,.d i64),(9,.d i64),(8,.d (.sl ah)),(5,.d i64)],[.x 3 120 ax,.r 3 3 0]⟩,⟨[(5,.d i64)],[]⟩,⟨[],[]⟩⟩
def Ij(k:Int×(List ah.q)×ax.q)(b:Prop)(i:Int)(e:ah.q)(s:Int):Fr (Int):=
 Jd b (Jb (bif e.2.1==1 then (mL.f (e,k.2.2,())).1 else Y) (Jv (I6.wrap (s+e.2.2.2.1))) (Jv s))
def RC:ze.M.X->Fr ze.Out:=FG (λx=>(x.1.1,(x.1.2.1,x.1.2.2.1,x.2.1),x.1.2.2.2.1)) (λk=>k.1) (λk=>k.2.1) Ij (λk s=>((s,()),()))
def zfv:af prog (.loop (au f116 0)) ze.M ze RC:=
 cX IS (λi k s=>((i,k.1,k.2.1,s,()),k.2.2,())) ah.j
def qyt:=λk s=>bw (Ij k True) 0 k.2.1 s
def zho:=λk s=>bY (Ij k True) 0 k.2.1 s
def zs7(a:Gm):St->Option Tr:=ze.han a ze.M RC
abbrev yZ:Pt:=⟨47,1,⟨[(15,.d i64),(14,.d i64),(13,.d (.sl ax))],[.x 2 73 ah,.r 2 2 0,.o 5 3 i64]⟩,⟨[],[.o 5 3 i64]⟩,⟨[],[]⟩⟩
def Ii(k:Int×(List ax.q)×ah.q)(b:Prop)(i:Int)(e:ax.q)(s:(List Int)):Fr ((List Int)):=
 Jd b (Jd (0<=i/\i<(s.length:Int)) (Jd (Int.toNat i<s.length) (Jv (s.set (Int.toNat i) (EV.f (k.2.2,e,())).1))))
def RB:yZ.M.X->Fr yZ.Out:=FG (λx=>(x.1.1,(x.1.2.1,x.1.2.2.1,x.2.1),x.2.2.1)) (λk=>k.1) (λk=>k.2.1) Ii (λk s=>((),s,()))
def zfu:af prog (.loop (au f69 0)) yZ.M yZ RB:=
 cX IS (λi k s=>((i,k.1,k.2.1,()),k.2.2,s,())) ax.j
def qys:=λk s=>bw (Ii k True) 0 k.2.1 s
def zhn:=λk s=>bY (Ii k True) 0 k.2.1 s
def zs6(a:Gm):St->Option Tr:=yZ.han a yZ.M RB
def DN:Cx:=cx [(177,mL),(122,EV),(120,AL),(121,AK),(109,kw),(111,nO)] []
def qB:CxOK prog DN:=aQ aH ⟨D5,SX,qm2,qmz,zh,CH,uT⟩ trivial
def Bp(x:ap [.d (.sl ah)]):Fr (aa [.bool]):=
 iS (InK (((List.length x.1):Int)) 0 (List.length x.1)) (YK (((List.length x.1):Int),x.1) []) (qyu (((List.length x.1):Int),x.1) []) ([]) (aY _,cf _) (λ_=>Jv (Y,())) (λa=>Jv (a.1.1,()))
def qv7:ag prog 114 ⟨[.d (.sl ah)],[.bool],λxs=>(Bp xs).get,λxs=>[(Bp xs).ok]⟩:=
 cF qB (Λ:=(λ_=>zs8 DN.Γ)) (fn:=f114) (aY [.d (.sl ah)]) (by kernel_rfl) (λc E a=>fH a (by kernel_rfl) (b:=au f114 0) (by kernel_rfl) (af.han qB rfl zfw)) (λx=>by kernel_rfl)
def Mi(x:ap [.d (.sl ah),.d ax]):Fr (aa [.bool]):=
 cT (InK (((List.length x.1):Int)) 0 (List.length x.1)) (zho (((List.length x.1):Int),x.1,x.2.1) 0) (qyt (((List.length x.1):Int),x.1,x.2.1) 0) (λa=>Jv (J (a>10000),()))
def qv6:ag prog 116 ⟨[.d (.sl ah),.d ax],[.bool],λxs=>(Mi xs).get,λxs=>[(Mi xs).ok]⟩:=
 cF qB (Λ:=(λ_=>zs7 DN.Γ)) (fn:=f116) (aY [.d (.sl ah),.d ax]) (by kernel_rfl) (λc E a=>fH a (by kernel_rfl) (b:=au f116 0) (by kernel_rfl) (af.han qB rfl zfv)) (λx=>by kernel_rfl)
def FD(x:ap [.d ah,.d (.sl ax)]):Fr (aa [aP]):=
 Jd (0<=((List.length x.2.1):Int)/\((List.length x.2.1):Int)<=((List.length x.2.1):Int)/\((List.length x.2.1):Int)<=(maxLen:Int)/\((List.length x.2.1):Int)*(8:Int)<=140737488355328) (Jb (x.1.2.1==2) (Jv ((AL.f x).1,())) (Jb (x.1.2.1==3) (Jv ((AK.f x).1,())) (cT (InK (((List.length x.2.1):Int)) 0 (List.length x.2.1)) (zhn (((List.length x.2.1):Int),x.2.1,x.1) (Lrp (((List.length x.2.1):Int)).toNat 0)) (qys (((List.length x.2.1):Int),x.2.1,x.1) (Lrp (((List.length x.2.1):Int)).toNat 0)) (λa=>Jv (a,())))))
def qv2:ag prog 69 ⟨[.d ah,.d (.sl ax)],[aP],λxs=>(FD xs).get,λxs=>[(FD xs).ok]⟩:=
 cF qB (Λ:=(λ_=>zs6 DN.Γ)) (fn:=f69) (aY [.d ah,.d (.sl ax)]) (by kernel_rfl) (λc E a=>fH a (by kernel_rfl) (b:=au f69 0) (by kernel_rfl) (af.han qB rfl zfu)) (λx=>by kernel_rfl)
def Mf(x:ap [.d ah]):Fr (aa [.bool]):=
 Jv (!(kw.f (x.1,())).1,())
def qv3:ag prog 108 ⟨[.d ah],[.bool],λxs=>(Mf xs).get,λxs=>[(Mf xs).ok]⟩:=
 cF qB (Λ:=bK) (fn:=f108) (aY [.d ah]) (by kernel_rfl) (λc E _=>bm c 0) (λx=>by kernel_rfl)
def AO:Ct:=⟨[.d ah],[.bool],λx=>(Mf x).get,λ_=>[]⟩
def qnj:ag prog 108 AO:=cq qv3 _ (λx a _=>uT)
def Mg(x:ap [.d ax]):Fr (aa [.bool]):=
 Jv (!(nO.f (x.1,())).1,())
def qv4:ag prog 110 ⟨[.d ax],[.bool],λxs=>(Mg xs).get,λxs=>[(Mg xs).ok]⟩:=
 cF qB (Λ:=bK) (fn:=f110) (aY [.d ax]) (by kernel_rfl) (λc E _=>bm c 0) (λx=>by kernel_rfl)
def EW:Ct:=⟨[.d ax],[.bool],λx=>(Mg x).get,λ_=>[]⟩
def qnk:ag prog 110 EW:=cq qv4 _ (λx a _=>uT)
def zq4(l:List ah.q)(g:l.length<=1000000):YK ((l.length:Int),l) []:=
 (o5 (step:=qv ((l.length:Int),l) True) (λi (s:List (Int×Bool))=>s.length<=i) (λ_=>True) l (λi e s a b=>by
  have d:=eO a;have f:=fI;refine⟨uT,λ_=>uT,λ_=>⟨?_,?_⟩⟩;show s.length<maxLen;omega;show(eZ s e.1 Z).length<=i+1;have:∀ (l:List (Int×Bool)) (n:Int) (y:Bool),(eZ l n y).length<=l.length+1:=λl n y=>by
   induction l with
   |nil=>exact ufb _
   |cons x r c=>
    unfold eZ;cases h:x.1==n with
    |true=>exact Nat.le_succ _
    |false=>exact udk c
  exact uep (this _ _ _) (udk b)) [] (ufb _)).1
def AP:Ct:=⟨[.d (.sl ah)],[.bool],λx=>(Bp x).get,λx=>[List.length (α:=ah.q) x.1<=1000000]⟩
def qno:ag prog 114 AP:=cq qv7 _ (λx b a=>sS (jd b.1.1) (zq4 x.1 a) (λ_=>uT) (λ_=>uT))
def tD:Ct:=⟨[.d (.sl ah),.d ax],[.bool],λx=>(Mi x).get,λ_=>[]⟩
def qnn:ag prog 116 tD:=cq qv6 _ (λx a _=>qz (jd a.1.1) (by refine yx (λ_ _ _=>?_) _ _ _;exact⟨uT,λ_=>uT,λ_=>uT⟩) (λ_=>uT))
def qcr(t:ah.q)(l:List ax.q)(b:l.length<=1000000):(FD (t,l,())).s7 (λy=>y.1=[]\/y.1.length=l.length):=by have c:l.length<=maxLen:=uep b fI;refine⟨yj b,λ_=>zcj t l,λ_=>⟨λ_=>qsf t l c,λ_=>?_⟩⟩;refine ii (A:=λ(s:List Int)=>s.length=l.length) (jd c) (dK (step:=Ii ((l.length:Int),l,t) True) (λ_ (s:List Int)=>s.length=l.length) l (λi e s g a=>?_) _ ?_) (λs a=>.inr a);obtain⟨d,f⟩:=ou (eO g) a;exact⟨uT,d,f,(show(List.set _ _ _).length=_ by rw[udp];exact a)⟩;show(Lrp _ _).length=_;rw[ubc,uc0]
def xf:Ct:=⟨[.d ah,.d (.sl ax)],[aP],λx=>(FD x).get,λx=>[List.length (α:=ax.q) x.2.1<=1000000]⟩
def qni:ag prog 69 xf:=cq qv2 _ (λx _ a=>(dt (qcr x.1 x.2.1 a)).1)
def zp3(t:ah.q)(l:List ax.q)(a:l.length<=1000000):(xf.f (t,l,())).1=[]\/(xf.f (t,l,())).1.length=l.length:=(dt (qcr t l a)).2
def qhp:Cx:=cx [(116,tD)] []
def qhq:CxOK prog qhp:=aQ aH ⟨qnn,uT⟩ trivial
def Mh(x:ap [.d ax,.ptr (.sl ah)]):Fr (aa [.bool]):=
 Jv ((tD.f (x.2.1,x.1,())).1,())
def qv5:ag prog 115 ⟨[.d ax,.ptr (.sl ah)],[.bool],λxs=>(Mh xs).get,λxs=>[(Mh xs).ok]⟩:=
 cF qhq (Λ:=bK) (fn:=f115) (aY [.d ax,.ptr (.sl ah)]) (by kernel_rfl) (λc E _=>bm c 0) (λx=>by kernel_rfl)
def EX:Ct:=⟨[.d ax,.ptr (.sl ah)],[.bool],λx=>(Mh x).get,λ_=>[]⟩
def qnl:ag prog 115 EX:=cq qv5 _ (λx a _=>uT)
def qhr:Cx:=cx [(113,ir ax),(112,ir ah),(108,AO),(110,EW),(115,EX),(114,AP)] []
def qhs:CxOK prog qhr:=aQ aH ⟨Sc,Ju,qnj,qnk,qnl,qno,uT⟩ trivial
def NP(a:List ah.q)(l:List ax.q):Fr (aa [i64]):=
 Jd (a.length<=1000000) (Jb (AP.f (a,())).1 (Jv (8,())) (Jd (∀ (x:aa [ax]),gN [ax] x->az (EX.ok (x.1,a,()))) (Jb ((ir ax).f (l,λx=>EX.f (x.1,a,()),())).1 (Jv (13,())) (Jv (0,())))))
def GI(a:List ah.q)(l:List ax.q):Fr (aa [i64]):=
 Jb (J ((a.length:Int)>100)) (Jb (J ((a.length:Int)>100)) (Jv (2,())) (NP a l)) (Jb (J ((l.length:Int)>2000)) (Jv (2,())) (NP a l))
def FE(x:ap [.d (.sl ah),.d (.sl ax)]):Fr (aa [i64]):=
 Jd (∀ (x:aa [ah]),gN [ah] x->az (AO.ok (x.1,())))
  (Jb ((ir ah).f (x.1,λx=>AO.f (x.1,()),())).1 (Jb ((ir ah).f (x.1,λx=>AO.f (x.1,()),())).1 (Jv (1,())) (GI x.1 x.2.1))
   (Jd (∀ (x:aa [ax]),gN [ax] x->az (EW.ok (x.1,()))) (Jb ((ir ax).f (x.2.1,λx=>EW.f (x.1,()),())).1 (Jv (1,())) (GI x.1 x.2.1))))
def RG(a:List ah.q)(l:List ax.q)(y:aa [i64]):Prop:=y.1=0->a.length<=100/\l.length<=2000
def Ya(b:List ah.q)(l:List ax.q):(GI b l).s7 (RG b l):=by refine⟨λh=>⟨λ_ h=>(by cases h),λa=>(by rw[h]at a;cases a)⟩,λh=>⟨λ_ h=>(by cases h),λc=>?_⟩⟩;have d:=uch h;have e:=uch c;refine⟨by omega,λ_ h=>(by cases h),λ_=>⟨λ_ _=>uT,λ_ h=>(by cases h),λ_ _=>⟨by omega,by omega⟩⟩⟩
def Yb(a:List ah.q)(l:List ax.q):(FE (a,l,())).s7 (RG a l):=
 ⟨λ_ _=>uT,λ_=>⟨λ_ h=>(by cases h),λ_=>Ya a l⟩,λ_=>⟨λ_ _=>uT,λ_ h=>(by cases h),λ_=>Ya a l⟩⟩
def nR:Ct:=⟨[.d (.sl ah),.d (.sl ax)],[i64],λx=>(FE x).get,λ_=>[]⟩
def qnm:ag prog 66 nR:=cq (aT qhs f66 (fr:=FE)) _ (λx _ _=>(dt (Yb x.1 x.2.1)).1)
def zgd(a:List ah.q)(l:List ax.q)(h:(nR.f (a,l,())).1=0):a.length<=100/\l.length<=2000:=(dt (Yb a l)).2 h
def QG:Cx:=cx [(166,pq)] []
def IT:CxOK prog QG:=aQ aH ⟨Fe,uT⟩ trivial
abbrev vu:Pt:=⟨36,0,⟨[(11,.d i64),(10,.d i64),(9,.d aP),(0,.d aP),(1,.d aP)],[]⟩,⟨[(1,.d aP),(0,.d aP)],[]⟩,⟨[(4,.d i64)],[]⟩⟩
def Ih(k:Int×(List Int)×(List Int)×(List Int))(b:Prop)(i:Int)(e:i64.q)(s:Unit):Fr (Unit ⊕ vu.R.X):=
 let c:=((List.length k.2.2.2):Int);let a:=pq.f (e,List.getD k.2.2.2 (Int.toNat i) i64.j,());Jd b (Jb (J (i>=c)) (Jv (.inr ((1,()),()))) (Jd (0<=i/\i<c) (Jb (a.1 != 0) (Jv (.inr ((a.1,()),()))) (Jv (.inl ())))))
def R9:vu.M.X->Fr vu.Out:=FK (λx=>(x.1.1,(x.1.2.1,x.1.2.2.1,x.1.2.2.2.1,x.1.2.2.2.2.1),())) (λk=>k.1) (λk=>k.2.1) Ih (λk s=>((k.2.2.2,k.2.2.1,()),())) (λ_ y=>Rd.back y) () (aY _,cf _)
def zfj:af prog (.loop (au f327 0)) vu.M vu R9:=
 lG IT (λi k s=>((i,k.1,k.2.1,k.2.2.1,k.2.2.2,()),())) i64.j
def qyr:=λk s=>bC (Ih k True) 0 k.2.1 s
def zhl:=λk s=>eI (Ih k True) 0 k.2.1 s
def zs5(a:Gm):St->Option Tr:=vu.han a vu.M R9
def Mb(x:ap [.d aP,.d aP]):Fr (aa [i64]):=
 iS (InK (((List.length x.1):Int)) 0 (List.length x.1)) (zhl (((List.length x.1):Int),x.1,x.1,x.2.1) ()) (qyr (((List.length x.1):Int),x.1,x.1,x.2.1) ()) () (aY _,cf _) (λ_=>Jb (J (((List.length x.1):Int)<((List.length x.2.1):Int))) (Jv (-1,())) (Jv (0,()))) (λa=>Jv (a.1.1,()))
def qvp:ag prog 327 ⟨[.d aP,.d aP],[i64],λxs=>(Mb xs).get,λxs=>[(Mb xs).ok]⟩:=
 cF IT (Λ:=(λ_=>zs5 QG.Γ)) (fn:=f327) (aY [.d aP,.d aP]) (by kernel_rfl) (λc E a=>fH a (by kernel_rfl) (b:=au f327 0) (by kernel_rfl) (af.han IT rfl zfj)) (λx=>by kernel_rfl)
def K4:Ct:=⟨[.d aP,.d aP],[i64],λx=>(Mb x).get,λ_=>[]⟩
def qng:ag prog 327 K4:=cq qvp _ (λx a _=>sS (jd a.1.1) (o5 (step:=Ih ((List.length x.1:Int),x.1,x.1,x.2.1) True) (λ_ _=>True) (λ_=>True) x.1 (λi e s b c=>by refine⟨uT,λ_=>uT,λh=>⟨⟨ub4 _,?_⟩,λ_=>uT,λ_=>uT⟩⟩;have:=uch h;exact ufl.1 this) () trivial).1 (λ_=>⟨λ_=>uT,λ_=>uT⟩) (λ_=>uT))
def qht:Cx:=cx [(327,K4)] []
def IU:CxOK prog qht:=aQ aH ⟨qng,uT⟩ trivial
abbrev bZ:Type:=List cL.q
def NB(a b:cL.q):Bool:=J ((K4.f ([a.1,a.2.1,a.2.2.1],[b.1,b.2.1,b.2.2.1],())).1<0)
abbrev inR(l:bZ)(i:Int):Prop:=0<=i/\i<(l.length:Int)
def iO(l:bZ)(i j:Int):bZ:=(l.set i.toNat (l.getD j.toNat cL.j)).set j.toNat (l.getD i.toNat cL.j)
def qxl(l:bZ)(x:ap [.d i64,.d i64]):Fr (bZ×aa [.bool]):=
 let a:=(l.length:Int);Jd (0<=x.1/\x.1<a) (Jd (x.1.toNat<l.length) (Jd (0<=x.2.1/\x.2.1<a) (Jd (x.2.1.toNat<l.length) (Jv (l,NB (l.getD x.1.toNat cL.j) (l.getD x.2.1.toNat cL.j),())))))
def qxm(l:bZ)(x:ap [.d i64,.d i64]):Fr (bZ×aa []):=
 let b:=(l.length:Int);let a:=l.set x.1.toNat (l.getD x.2.1.toNat cL.j);Jd (0<=x.2.1/\x.2.1<b) (Jd (x.2.1.toNat<l.length) (Jd (0<=x.1/\x.1<b) (Jd (x.1.toNat<l.length) (Jd (0<=x.1/\x.1<b) (Jd (x.1.toNat<l.length)
  (Jd (0<=x.2.1/\x.2.1<(a.length:Int)) (Jd (x.2.1.toNat<a.length) (Jv (iO l x.1 x.2.1,())))))))))
def XT:Mt:=⟨254,cL,[],[i64],λl _=>(l,(l.length:Int),()),λ_ _=>[]⟩
def XU:Mt:=⟨254,cL,[.d i64,.d i64],[.bool],λl x=>(l,NB (l.getD x.1.toNat cL.j) (l.getD x.2.1.toNat cL.j),()),λl x=>[inR l x.1,inR l x.2.1]⟩
def XV:Mt:=⟨254,cL,[.d i64,.d i64],[],λl x=>(iO l x.1 x.2.1,()),λl x=>[inR l x.1,inR l x.2.1]⟩
def uu{l:bZ}{i:Int}(h:inR l i):i.toNat<l.length:=by omega
def qy9:SoundMt prog 118 XT:=
 jK (jU IU (Λ:=bK) (fn:=f118) (fr:=λl _=>Jv (l,(l.length:Int),())) (e:=254) (T:=cL) (ps:=[]) (rs:=[i64]) () (by kernel_rfl) rfl rfl (λc _ _=>bm c 0) (λl x=>by kernel_rfl)) _ _ λ_ _ _ _ _ _ _ _ _=>⟨uT,rfl⟩
def qza:SoundMt prog 323 XU:=
 jK (jU IU (Λ:=bK) (fn:=f323) (fr:=qxl) (e:=254) (T:=cL) (ps:=[.d i64,.d i64]) (rs:=[.bool]) (0,0,()) (by kernel_rfl) rfl rfl (λc _ _=>bm c 0) (λl x=>by kernel_rfl)) _ _ λ_ _ _ _ _ _ _ _ a=>⟨⟨a.1,uu a.1,a.2,uu a.2,uT⟩,rfl⟩
def qzd:SoundMt prog 326 XV:=
 jK (jU IU (Λ:=bK) (fn:=f326) (fr:=qxm) (e:=254) (T:=cL) (ps:=[.d i64,.d i64]) (rs:=[]) (0,0,()) (by kernel_rfl) rfl rfl (λc _ _=>bm c 0) (λl x=>by kernel_rfl)) _ _ λ_ _ l x _ _ _ _ a=>by have b:inR l x.1:=a.1;have f:inR l x.2.1:=a.2;refine⟨⟨f,uu f,b,uu b,b,uu b,?_,?_,uT⟩,rfl⟩;rw[udp];exact f;rw[udp];exact uu f
def nB(l:bZ)(i j:Int):(iO l i j).length=l.length:=by unfold iO;rw[udp,udp]
def PE{Q:cL.q->Prop}{l:bZ}{i j:Int}(b:inR l i)(c:inR l j)(h:∀ x∈l,Q x):∀ x∈iO l i j,Q x:=λx a=>by
 have g:∀ k:Int,inR l k->l.getD k.toNat cL.j∈l:=λk d=>by rw[uah,uaq (uu d)];exact udi _
 rcases uap a with a|rfl
 rcases uap a with a|rfl
 exact h x a;exact h _ (g j c);exact h _ (g i b)
def KH:Nat->FuncId->List AV->St->Option Tr:=kR (i6 (cx [] []).Γ 118 XT) (kR (i6 (cx [] []).Γ 323 XU) (i6 (cx [] []).Γ 326 XV))
def mM:CxOK prog (cx [] []):=aQ (cs:=[]) (ps:=[]) aH trivial trivial
def Jj:jC prog KH:=mj (jg mM.ct qy9) (mj (jg mM.ct qza) (jg mM.ct qzd))
def IZ:Cx:=dI [] [] KH
def wd:CxOK prog IZ:=dP aH trivial trivial Jj
abbrev Gj:List MI:=[.y 9999 252 [(U 254,cL)],.r 0 9999 (1000000+250),.r 10000 9999 0]
abbrev oE:Pt:=⟨23,0,⟨[(1,.d i64)],Gj⟩,⟨[],Gj⟩,⟨[],[]⟩⟩
abbrev np:Pt:=⟨48,0,⟨[(7,.d i64),(2,.d i64),(1,.d i64)],Gj⟩,⟨[(7,.d i64),(1,.d i64)],Gj⟩,⟨[],[]⟩⟩
def eJ(j:Int):Int:=I6.wrap ((I6.wrap (j-1)).tdiv 2)
def mg(l:bZ)(i j:Int):Bool:=NB (l.getD i.toNat cL.j) (l.getD j.toNat cL.j)
def qxo(x:oE.M.X):Fr oE.Out:=
 match x with
 |((j,_),((l,_),_))=>
  Jd ((2:Int)≠0) (Jb (eJ j==j)
   (Jb Z (Jv (Rd.out ((),(l,()),()))) (Jd (inR l (eJ j)) (Jd (inR l j) (Jv (Rd.next ((eJ j,()),(iO l (eJ j) j,()),()))))))
   (Jd (inR l j) (Jd (inR l (eJ j)) (Jb (!mg l j (eJ j)) (Jv (Rd.out ((),(l,()),())))
    (Jd (inR l (eJ j)) (Jd (inR l j) (Jv (Rd.next ((eJ j,()),(iO l (eJ j) j,()),())))))))))
def jm(i:Int):Int:=I6.wrap (I6.wrap (2*i)+1)
def lh(i:Int):Int:=I6.wrap (jm i+1)
def Cj(i n:Int):Bool:=bif J (jm i>=n)then Z else J (jm i<0)
def Bz(l:bZ)(i n a j:Int):Fr np.Out:=
 Jd (inR l j) (Jd (inR l i) (Jb (!mg l j i) (Jv (Rd.out ((i,a,()),(l,()),()))) (Jd (inR l i) (Jd (inR l j) (Jv (Rd.next ((j,n,a,()),(iO l i j,()),())))))))
def qxn(x:np.M.X):Fr np.Out:=
 match x with
 |((i,n,a,_),((l,_),_))=>
  Jb (Cj i n) (Jv (Rd.out ((i,a,()),(l,()),())))
   (Jb (J (lh i<n)) (Jd (inR l (lh i)) (Jd (inR l (jm i)) (Jb (mg l (lh i) (jm i)) (Bz l i n a (lh i)) (Bz l i n a (jm i)))))
    (Jb Y (Bz l i n a (lh i)) (Bz l i n a (jm i))))
def zm4:af prog (au f178 0) oE.M oE qxo:=ep wd
def zm3:af prog (au f179 0) np.M np qxn:=ep wd
def mY(l:bZ)(j:Int):bZ:=
 if eJ j=j then l else if mg l j (eJ j)=Z then (if _h:(eJ j).toNat<j.toNat then mY (iO l (eJ j) j) (eJ j)else l)else l
termination_by j.toNat
def lR(l:bZ)(i n:Int):Int:=if lh i<n/\mg l (lh i) (jm i)=Z then lh i else jm i
def kM(l:bZ)(i n:Int):bZ×Int:=
 if Cj i n=Z then (l,i)else if mg l (lR l i n) i=Z then (if _h:(n-lR l i n).toNat<(n-i).toNat then kM (iO l i (lR l i n)) (lR l i n) n else (l,i))else (l,i)
termination_by (n-i).toNat
structure UpI (l:bZ) (j:Int):Prop where
 at_:inR l j
 len:l.length<=1000000000
structure DnI (l:bZ) (i n:Int):Prop where
 at_:inR l i
 n:n<=(l.length:Int)
 len:l.length<=1000000000
def Rz(x:oE.M.X):Fr oE.Out:=
 match x with
 |((j,_),((l,_),_))=>Jd (UpI l j) (Jv (Rd.out ((),(mY l j,()),())))
def Ji(x:np.M.X):Fr np.Out:=
 match x with
 |((i,n,a,_),((l,_),_))=>Jd (DnI l i n) (Jv (Rd.out (((kM l i n).2,a,()),((kM l i n).1,()),())))
def qc0{i n c:Int}(h:i<c)(a:c<n):(n-c).toNat<(n-i).toNat:=by omega
def zja{j:Int}(h:0<=j/\j<=4611686018427387903)(c:eJ j≠j):eJ j=(j-1)/2/\1<=j:=by
 have b:1<=j:=by by_cases a:j=0;subst a;exact absurd (by decide) c;omega
 refine⟨?_,b⟩;unfold eJ;rw[show I6.wrap (j-1)=j-1 from cV (by omega),Int.tdiv_eq_ediv_of_nonneg (by omega)];exact cV (by omega)
def UpI.par{l:bZ}{j:Int}(h:UpI l j)(b:eJ j≠j):UpI l (eJ j)/\(eJ j).toNat<j.toNat:=by have d:=h.at_;have a:=h.len;obtain⟨e,c⟩:=zja (j:=j) ⟨by omega,by omega⟩ b;exact⟨⟨by rw[e];omega,a⟩,by rw[e];omega⟩
def UpI.swap{l:bZ}{i j k:Int}(h:UpI l k):UpI (iO l i j) k:=⟨by rw[inR,nB];exact h.at_,by rw[nB];exact h.len⟩
def DnI.swap{l:bZ}{i j k n:Int}(h:DnI l k n):DnI (iO l i j) k n:=⟨by rw[inR,nB];exact h.at_,by rw[nB];exact h.n,by rw[nB];exact h.len⟩
def DnI.ch{l:bZ}{i n:Int}(h:DnI l i n)(a:Cj i n=Y):DnI l (jm i) n/\(lh i<n->DnI l (lh i) n)/\i<jm i/\i<lh i/\jm i<n:=by
 have k:=h.at_;have c:=h.len;have d:=h.n;have f:jm i=2*i+1:=by unfold jm;rw[show I6.wrap (2*i)=2*i from cV (by omega)];exact cV (by omega)
 have g:lh i=2*i+2:=by unfold lh;rw[f,show 2*i+1+1=2*i+2 by omega];exact cV (by omega)
 have b:jm i<n:=by unfold Cj at a;by_cases e:jm i>=n;rw[ueb e]at a;cases a;omega
 refine⟨⟨by omega,d,c⟩,λe=>⟨by omega,d,c⟩,by omega,by omega,b⟩
def zer:af prog (.loop (au f178 0)) oE.M oE Rz:=
 af.loop zm4 (inv:=λx=>UpI x.2.1.1 x.1.1) (μ:=λx=>x.1.1.toNat)
  (by
   rintro⟨⟨j,_⟩,⟨⟨l,_⟩,_⟩⟩ a Q b;have b:=b.2;have a:UpI l j:=a;refine⟨by decide,λg=>⟨λ_=>?_,λh=>(by cases h)⟩,λg=>?_⟩;have e:eJ j=j:=by simpa using g
   rw[mY,ufw e]at b;exact b;have e:eJ j≠j:=by simpa using g
   obtain⟨f,d⟩:=a.par e;rw[mY,ufx e]at b;refine⟨a.at_,f.at_,λi=>?_,λi=>⟨f.at_,a.at_,f.swap,d,f.swap,?_⟩⟩;have c:¬ mg l j (eJ j)=true:=by simpa using i
   rw[ufx c]at b;exact b;have c:mg l j (eJ j)=true:=by simpa using i
   rw[ufw c,dif_pos d]at b;exact b)
  (λx Q h=>h.1)
def zeq:af prog (.loop (au f179 0)) np.M np Ji:=
 af.loop zm3 (inv:=λx=>DnI x.2.1.1 x.1.1 x.1.2.1) (μ:=λx=>(x.1.2.1-x.1.1).toNat)
  (by
   rintro⟨⟨i,n,F,_⟩,⟨⟨l,_⟩,_⟩⟩ a Q b;have b:=b.2;have a:DnI l i n:=a;refine⟨λk=>?_,λk=>?_⟩;rw[kM,ufw k]at b;exact b;obtain⟨o,w,A,D,B⟩:=a.ch k;rw[kM,ufx (by rw[k];decide)]at b;have f:∀ c:Int,lR l i n=c->DnI l c n->i<c->c<n->(Bz l i n F c).s7 λ
     |.next g=>(DnI g.2.1.1 g.1.1 g.1.2.1)/\(g.1.2.1-g.1.1).toNat<(n-i).toNat/\(Ji g).s7 Q
     |.out y=>Q (.out y)
     |.back z=>Q (.back z)
     |.pan p=>Q (.pan p):=λc E m v t=>by
    rw[E]at b;have C:(n-c).toNat<(n-i).toNat:=qc0 v t;refine⟨m.at_,a.at_,λu=>?_,λu=>⟨a.at_,m.at_,m.swap,C,m.swap,?_⟩⟩;have e:¬ mg l c i=true:=by simpa using u
    rw[ufx e]at b;exact b;have e:mg l c i=true:=by simpa using u
    rw[ufw e,dif_pos C]at b;exact b
   refine⟨λr=>?_,λr=>⟨λh=>(by cases h),λ_=>f _ ?_ o A B⟩⟩;have d:=ucx r;refine⟨(w d).at_,o.at_,λs=>f _ ?_ (w d) D d,λs=>f _ ?_ o A B⟩;exact ufw ⟨d,s⟩;exact ufx (λh=>by rw[s]at h;exact absurd h.2 (by decide));exact ufx (λh=>absurd h.1 (uch r)))
  (λx Q h=>h.1)
def Ws:Ht:=⟨250,252,254,cL,[.d i64],[],λl x=>(mY l x.1,()),λl x=>[UpI l x.1]⟩
def Wp:Ht:=⟨250,252,254,cL,[.d i64,.d i64],[.bool],λl x=>((kM l x.1 x.2.1).1,J ((kM l x.1 x.2.1).2>x.1),()),λl x=>[DnI l x.1 x.2.1]⟩
def qze:SoundHt prog 178 Ws:=
 Ff (Gl wd (Λ:=λ_=>oE.han IZ.Γ oE.M Rz) (fn:=f178) (pt:=250) (bt:=252) (e:=254) (T:=cL) (ps:=[.d i64]) (rs:=[]) (fr:=λl x=>Jd (UpI l x.1) (Jv (mY l x.1,()))) (0,()) (by kernel_rfl)
  (λc E f=>fH f (by kernel_rfl) (b:=au f178 0) (by kernel_rfl) (af.han wd rfl zer)) (λl x=>by kernel_rfl)) _ _ λ_ _ _ _ _ _ _ _ a=>⟨⟨a,uT⟩,rfl⟩
def qy8:SoundHt prog 179 Wp:=
 Ff (Gl wd (Λ:=λ_=>np.han IZ.Γ np.M Ji) (fn:=f179) (pt:=250) (bt:=252) (e:=254) (T:=cL) (ps:=[.d i64,.d i64]) (rs:=[.bool]) (fr:=λl x=>Jd (DnI l x.1 x.2.1) (Jv ((kM l x.1 x.2.1).1,J ((kM l x.1 x.2.1).2>x.1),()))) (0,0,()) (by kernel_rfl)
  (λc E f=>fH f (by kernel_rfl) (b:=au f179 0) (by kernel_rfl) (af.han wd rfl zeq)) (λl x=>by kernel_rfl)) _ _ λ_ _ _ _ _ _ _ _ a=>⟨⟨a,uT⟩,rfl⟩
def zaq(Q:cL.q->Prop):(n:Nat)->(l:bZ)->(j:Int)->j.toNat<=n->UpI l j->(∀ x∈l,Q x)->(mY l j).length=l.length/\∀ x∈mY l j,Q x:=λn=>by
 induction n with
 |zero=>intro l j i h a;rw[mY];split;exact⟨rfl,a⟩;rename_i b;have:=(h.par b).2;omega
 |succ n k=>intro l j i h a;rw[mY];split;exact⟨rfl,a⟩;rename_i b;obtain⟨c,e⟩:=h.par b;by_cases d:mg l j (eJ j)=Z;rw[ufw d,dif_pos e];obtain⟨f,g⟩:=k (iO l (eJ j) j) (eJ j) (by omega) c.swap (PE c.at_ h.at_ a);exact⟨f.trans (nB _ _ _),g⟩;rw[ufx d];exact⟨rfl,a⟩
def Tf{l:bZ}{i n:Int}(h:DnI l i n)(g:Cj i n=Y):DnI l (lR l i n) n/\i<lR l i n/\lR l i n<n:=by obtain⟨b,c,d,e,f⟩:=h.ch g;unfold lR;split;rename_i a;exact⟨c a.1,e,a.1⟩;exact⟨b,d,f⟩
def zap(Q:cL.q->Prop):(m:Nat)->(l:bZ)->(i n:Int)->(n-i).toNat<=m->DnI l i n->(∀ x∈l,Q x)->(kM l i n).1.length=l.length/\∀ x∈(kM l i n).1,Q x:=λm=>by
 induction m with
 |zero=>intro l i n o h a;rw[kM];split;exact⟨rfl,a⟩;rename_i b;have:=Tf h (by simpa using b);omega
 |succ m p=>intro l i n o h a;rw[kM];split;exact⟨rfl,a⟩;rename_i b;obtain⟨c,e,f⟩:=Tf h (by simpa using b);by_cases d:mg l (lR l i n) i=Z;rw[ufw d,dif_pos (qc0 e f)];obtain⟨g,k⟩:=p (iO l i (lR l i n)) (lR l i n) n (by omega) c.swap (PE h.at_ c.at_ a);exact⟨g.trans (nB _ _ _),k⟩;rw[ufx d];exact⟨rfl,a⟩
def XvP:FuncId->Option (Func×(Nat->St->Option Tr)):=cR [(325,(f325,bK)),(324,(f324,bK))]
def KP:Nat->FuncId->List AV->St->Option Tr:=kR KH (kR (iJ prog (cx [] []) XvP) (kR (xO (cx [] []).Γ 178 Ws) (xO (cx [] []).Γ 179 Wp)))
def qjz:jC prog KP:=mj Jj (mj (jt mM (nD (by kernel_rfl) (nD (by kernel_rfl) sP))) (mj (Gk mM.ct qze) (Gk mM.ct qy8)))
def CVp:Cx:=dI [] [] KP
def QY:CxOK prog CVp:=dP aH trivial trivial qjz
abbrev xQ:Ty:=.ic [(1,254)] cL
def hH(l:bZ):Int:=I6.wrap ((l.length:Int)-1)
def CE(l:bZ)(y:cL.q):bZ:=mY (l++[y]) (hH (l++[y]))
def kS(l:bZ):bZ:=(kM (iO l 0 (hH l)) 0 (hH l)).1
def jY(l:bZ):bZ:=(kS l).take (hH (kS l)).toNat
def rT(l:bZ):cL.q:=(kS l).getD (hH (kS l)).toNat cL.j
def qxw(l:bZ)(x:ap [.d xQ]):Fr (bZ×aa []):=
 Jd (dd [(1,254)] x.1.1=U 254) (Jd (l.length + [x.1.2].length<=maxLen/\(l.length + [x.1.2].length)*24<=140737488355328) (Jd (UpI (l++[x.1.2]) (hH (l++[x.1.2]))) (Jv (CE l x.1.2,()))))
def qxv(l:bZ)(_:ap []):Fr (bZ×aa [xQ]):=
 let b:=hH l;let a:=((kS l).length:Int);Jd (inR l 0) (Jd (inR l b) (Jd (DnI (iO l 0 b) 0 b) (Jd (0<=hH (kS l)/\hH (kS l)<a) (Jd ((hH (kS l)).toNat<(kS l).length) (Jd (0<=hH (kS l)/\hH (kS l)<=a) (Jv (jY l,((1,rT l),()))))))))
def Cd{l:bZ}(h:1<=l.length)(a:l.length<=1000001):hH l=(l.length:Int)-1:=cV (by omega)
def Z9{l:bZ}{y:cL.q}(h:l.length<=1000000):UpI (l++[y]) (hH (l++[y])):=by have e:(l++[y]).length=l.length+1:=ub6;have a:=Cd (l:=l++[y]) (by omega) (by omega);exact⟨by rw[a];omega,by omega⟩
def zjx{l:bZ}{y:cL.q}(h:l.length<=1000000)(Q:cL.q->Prop)(d:∀ x∈l,Q x)(e:Q y):(CE l y).length=l.length+1/\∀ x∈CE l y,Q x:=by
 obtain⟨b,c⟩:=zaq Q _ (l++[y]) (hH (l++[y])) (ufb _) (Z9 h) (λx a=>by
  rcases udt.1 a with a|a
  exact d x a;rw[ucf.1 a];exact e)
 exact⟨b.trans ub6,c⟩
def Zz{l:bZ}(h:1<=l.length)(b:l.length<=1000000):DnI (iO l 0 (hH l)) 0 (hH l):=by have a:=Cd h (by omega);refine⟨?_,?_,?_⟩;rw[inR,nB];omega;rw[nB];omega;rw[nB];omega
def O6{l:bZ}(h:1<=l.length)(a:l.length<=1000000)(Q:cL.q->Prop)(d:∀ x∈l,Q x):(kS l).length=l.length/\∀ x∈kS l,Q x:=by have e:=Cd h (by omega);obtain⟨b,c⟩:=zap Q _ (iO l 0 (hH l)) 0 (hH l) (ufb _) (Zz h a) (PE (by omega) (by omega) d);exact⟨b.trans (nB _ _ _),c⟩
def Z0{l:bZ}(h:1<=l.length)(a:l.length<=1000000):hH (kS l)=(l.length:Int)-1:=by have b:=(O6 h a (λ_=>True) (λ_ _=>uT)).1;rw[Cd (by omega) (by omega),b]
def Z1{l:bZ}(h:1<=l.length)(a:l.length<=1000000)(Q:cL.q->Prop)(d:∀ x∈l,Q x):(jY l).length+1=l.length/\(∀ x∈jY l,Q x)/\Q (rT l):=by obtain⟨f,b⟩:=O6 h a Q d;have c:=Z0 h a;refine⟨?_,λx e=>b x (ubq e),?_⟩;unfold jY;rw[uc5,c];omega;unfold rT;rw[c,uah,uaq (by omega)];exact b _ (udi _)
def Wr:Ht:=⟨250,252,254,cL,[.d xQ],[],λl x=>(CE l x.1.2,()),λl x=>[x.1.1=1,l.length<=1000000]⟩
def Wq:Ht:=⟨250,252,254,cL,[],[xQ],λl _=>(jY l,((1,rT l),())),λl _=>[1<=l.length,l.length<=1000000]⟩
def qzc:SoundHt prog 117 Wr:=
 Ff (Gl QY (Λ:=bK) (fn:=f117) (pt:=250) (bt:=252) (e:=254) (T:=cL) (ps:=[.d xQ]) (rs:=[]) (fr:=qxw) ((1,cL.j),()) (by kernel_rfl)
  (λc _ _=>bm c 0) (λl x=>by kernel_rfl)) _ _ λ_ _ l x _ _ _ _ a=>by
   obtain⟨b,f⟩:x.1.1=1/\l.length<=1000000:=a;have g:=fI;refine⟨⟨?_,?_,Z9 f,uT⟩,rfl⟩;rw[b];rfl;show l.length+1<=maxLen/\(l.length+1)*24<=140737488355328;have:(1000001:Nat)<=maxLen:=by decide
   omega
def qzb:SoundHt prog 119 Wq:=
 Ff (Gl QY (Λ:=bK) (fn:=f119) (pt:=250) (bt:=252) (e:=254) (T:=cL) (ps:=[]) (rs:=[xQ]) (fr:=qxv) () (by kernel_rfl)
  (λc _ _=>bm c 0) (λl x=>by kernel_rfl)) _ _ λ_ _ l x _ _ _ _ d=>by obtain⟨a,b⟩:1<=l.length/\l.length<=1000000:=d;have f:=(O6 a b (λ_=>True) (λ_ _=>uT)).1;have g:=Z0 a b;have h:=Cd a (by omega);refine⟨⟨by omega,by omega,Zz a b,by omega,by omega,by omega,uT⟩,rfl⟩
def KO:Nat->FuncId->List AV->St->Option Tr:=kR KH (kR (xO (cx [] []).Γ 117 Wr) (xO (cx [] []).Γ 119 Wq))
def CVo:Cx:=dI [] [] KO
def Ja:CxOK prog CVo:=dP aH trivial trivial (mj Jj (mj (Gk mM.ct qzc) (Gk mM.ct qzb)))
abbrev JC:List MI:=[.y 11 252 [(U 254,cL)],.r 3 11 0]
abbrev Hl:Pt:=⟨58,0,⟨[(14,.d i64),(13,.d i64),(12,.d (.sl ah))],JC⟩,⟨[],JC⟩,⟨[],[]⟩⟩
abbrev rX:Pt:=⟨58,3,⟨[],JC++[.o 7 3 i64]⟩,⟨[],[.o 7 3 i64]⟩,⟨[],[]⟩⟩
def O7(s:bZ)(a b c:Int):Fr bZ:=Jd ((1:Int)=1) (Jd (s.length<=1000000) (Jv (CE s (a,b,c,()))))
def Dq(_k:Int×(List ah.q))(b:Prop)(i:Int)(e:ah.q)(s:bZ):Fr bZ:=
 let a:=O7 s e.2.1 e.2.2.2.2.1 i;Jd b (Jb (e.2.1==1) (O7 s e.2.1 0 i) (Jb (e.2.1==2) (Jb (e.2.1==2) a (Jv s)) (Jb (e.2.1==3) a (Jv s))))
def qjn:Hl.M.X->Fr Hl.Out:=FG (λx=>(x.1.1,(x.1.2.1,x.1.2.2.1),x.2.1.1)) (λk=>k.1) (λk=>k.2) Dq (λ_ s=>((),((s,()),())))
def ze5:af prog (.loop (au f68 0)) Hl.M Hl qjn:=
 cX Ja (λi k s=>((i,k.1,k.2,()),((s,()),()))) ah.j
def qxt(x:rX.M.X):Fr rX.Out:=
 match x with
 |(_,((l,_),o,_))=>Jb (J ((l.length:Int)>0))
   (Jd (1<=l.length) (Jd (l.length<=1000000) (Jd (dd [(1,254)] 1=U 254) (Jb Z
    (Jd (o.length + [(rT l).2.2.1].length<=maxLen/\(o.length + [(rT l).2.2.1].length)*8<=140737488355328) (Jv (Rd.next ((),(jY l,()),o++[(rT l).2.2.1],()))))
    (Jv (Rd.next ((),(jY l,()),o,())))))))
   (Jv (Rd.out ((),o,())))
def zna:af prog (au f68 1) rX.M rX qxt:=ep Ja
def uY:Nat->bZ->List Int->List Int
 |0,_,o=>o
 |n+1,l,o=>uY n (jY l) (o++[(rT l).2.2.1])
def qjo(x:rX.M.X):Fr rX.Out:=
 match x with
 |(_,((l,_),o,_))=>Jd (o.length+l.length<=1000000) (Jv (Rd.out ((),uY l.length l o,())))
def ze6:af prog (.loop (au f68 1)) rX.M rX qjo:=
 af.loop zna (inv:=λx=>x.2.2.1.length+x.2.1.1.length<=1000000) (μ:=λx=>x.2.1.1.length)
  (by
   rintro⟨_,⟨⟨l,_⟩,o,_⟩⟩ a Q b;have b:=b.2;have a:o.length+List.length l<=1000000:=a;refine⟨λc=>?_,λc=>?_⟩;have d:(List.length l:Int)>0:=ucx c;have f:1<=List.length l:=by omega
   have g:List.length l<=1000000:=by omega
   obtain⟨i,_,_⟩:=Z1 f g (λ_=>True) (λ_ _=>uT);have k:=fI;refine⟨f,g,rfl,λ_=>⟨?_,?_,?_,?_,?_⟩,λh=>(by cases h)⟩;show o.length+1<=maxLen/\(o.length+1)*8<=140737488355328;omega;show(o++[_]).length+(jY l).length<=1000000;rw[ub6];show o.length+1+(jY l).length<=1000000;omega;show(jY l).length<List.length l;omega;show(o++[_]).length+(jY l).length<=1000000;rw[ub6];show o.length+1+(jY l).length<=1000000;omega;have e:List.length l=(jY l).length+1:=i.symm;rw[e]at b;exact b;have d:¬ (List.length l:Int)>0:=uch c;have e:List.length l=0:=by omega
   rw[e]at b;exact b)
  (λx Q h=>h.1)
def G5(a:List ah.q):Int×(List ah.q):=((a.length:Int),a)
def xM(a:List ah.q):bZ:=bw (Dq (G5 a) True) 0 a []
def US(x:ap [.d (.sl ah)]):Fr (aa [aP]):=
 cT (InK (List.length x.1:Int) 0 (List.length x.1)) (bY (Dq (G5 x.1) True) 0 x.1 []) (xM x.1) (λl=>Jd (([]:List Int).length+l.length<=1000000) (Jv (uY l.length l [],())))
def qu4:ag prog 68 (bg [.d (.sl ah)] [aP] US):=
 oc Ja ze5 ze6 (fn:=f68)
def Ow(c:List ah.q)(r:c.length<=1000000):bY (Dq (G5 c) True) 0 c []/\(xM c).length<=c.length/\∀ x∈xM c,0<=x.2.2.1/\x.2.2.1<(c.length:Int):=
 dK (step:=Dq (G5 c) True) (λi (s:bZ)=>s.length<=i/\∀ x∈s,0<=x.2.2.1/\x.2.2.1<(c.length:Int)) c (λi e s o d=>by
  have p:=eO o;have g:s.length<=1000000:=uep d.1 (by omega);have f:∀ a b:Int,(O7 s a b i).s7 (λl=>l.length<=i+1/\∀ x∈l,0<=x.2.2.1/\x.2.2.1<(c.length:Int)):=λa b=>by obtain⟨m,n⟩:=zjx (y:=(a,b,(i:Int),())) g (λx=>0<=x.2.2.1/\x.2.2.1<(c.length:Int)) d.2 ⟨ub4 _,Int.ofNat_lt.2 p⟩;exact⟨rfl,g,by rw[m];exact udk d.1,n⟩
  have k:s.length<=i+1/\∀ x∈s,0<=x.2.2.1/\x.2.2.1<(c.length:Int):=⟨uc3 d.1,d.2⟩;exact⟨uT,λ_=>f _ _,λ_=>⟨λ_=>⟨λ_=>f _ _,λ_=>k⟩,λ_=>⟨λ_=>f _ _,λ_=>k⟩⟩⟩) [] ⟨ufb _,λ_ h=>(nomatch h)⟩
def Zy(Q:Int->Prop):(n:Nat)->(l:bZ)->(o:List Int)->l.length=n->n<=1000000->(∀ x∈l,Q x.2.2.1)->(∀ x∈o,Q x)->∀ x∈uY n l o,Q x
 |0,_,_,_,_,_,b=>b
 |n+1,l,o,f,g,h,b=>by
  obtain⟨e,c,d⟩:=Z1 (l:=l) (by omega) (by omega) (λx=>Q x.2.2.1) h;refine Zy Q n (jY l) _ (by omega) (by omega) c (λx a=>?_);rcases udt.1 a with a|a
  exact b x a;rw[ucf.1 a];exact d
def Zx:(n:Nat)->(l:bZ)->(o:List Int)->(uY n l o).length=o.length+n
 |0,_,_=>rfl
 |n+1,l,o=>by rw[uY,Zx n,ub6];show o.length+1+n=_;omega
def iX:Ct:=⟨[.d (.sl ah)],[aP],λx=>(US x).get,λx=>[List.length (α:=ah.q) x.1<=1000000]⟩
def qnh:ag prog 68 iX:=cq qu4 _ (λx b a=>⟨jd b.1.1,(Ow x.1 a).1,by have h:=(Ow x.1 a).2.1;have a:List.length x.1<=1000000:=a;show 0+(xM x.1).length<=1000000;omega,uT⟩)
def YQ(a:List ah.q)(b:a.length<=1000000):(iX.f (a,())).1.length<=a.length/\∀ x∈(iX.f (a,())).1,0<=x/\x<(a.length:Int):=by obtain⟨_,c,d⟩:=Ow a b;refine⟨?_,Zy (λx=>0<=x/\x<(a.length:Int)) _ (xM a) [] rfl (uep c b) d (λ_ h=>(nomatch h))⟩;show(uY _ _ _).length<=_;rw[Zx];show 0+(xM a).length<=_;omega
section
open Go.Shelf Go.Lib
def zae:∃ i0 z,InsTy prog 121 120 3 i0 z 5 40:=
 have ⟨i0,a,b,c,d⟩:=ufo (show(prog.info? 120).map (λi=>(i.zero,i.size,i.bytes))=U (U (.agg #[.int .i64 0,.int .i64 0,.int .i64 0,.int .i64 0,.int .i64 0]),5,40) by kernel_rfl)
 ⟨i0,_,underlying121,underlying3,a,b,c,d,rfl,by decide⟩
def qor:CloneOK prog 67 120 ax 40:=by
 refine⟨enters_of func67 (by kernel_rfl) rfl,λw n c A t p o b g m d e=>?_⟩;obtain⟨u,z,T⟩:=zae;have a:=T.nil w
 go_enter func67,ntmps67
 cases A with
 |none=>
  have l:=o rfl;subst l;have r:t=[]:=uab (by simpa using b);subst r
  go_wp2_with (simp only[a])
  go_ret
  exact⟨_,rfl,⟨rfl,rfl,rfl,ufb _,λ_ _ _=>rfl⟩,ucs _ _ _ _⟩
 |some h=>
  obtain⟨s,v,f,k,i⟩:=T.clone b (g h rfl) m d e (n:=n) (c:=c)
  go_wp2_with (first|(simp only[a];done)|simp only[a]|(at_builtin;refine Lib.wpList_append_run _ rfl _ _ _ _ rfl _ _ rfl rfl _ _ (f _) ?_))
  go_ret
  exact⟨s,rfl,k,i⟩
def zaf:∃ i0 z,InsTy prog 90 96 3 i0 z 2 16:=
 have ⟨i0,a,b,c,d⟩:=ufo (show(prog.info? 96).map (λi=>(i.zero,i.size,i.bytes))=U (U (.agg #[.int .i64 0,.int .i64 0]),2,16) by kernel_rfl)
 ⟨i0,_,underlying90,underlying3,a,b,c,d,rfl,by decide⟩
def qos:CloneOK prog 53 96 bD 16:=by
 refine⟨enters_of func53 (by kernel_rfl) rfl,λw n c A t p o b g m d e=>?_⟩;obtain⟨u,z,T⟩:=zaf;have a:=T.nil w
 go_enter func53,ntmps53
 cases A with
 |none=>
  have l:=o rfl;subst l;have r:t=[]:=uab (by simpa using b);subst r
  go_wp2_with (simp only[a])
  go_ret
  exact⟨_,rfl,⟨rfl,rfl,rfl,ufb _,λ_ _ _=>rfl⟩,ucs _ _ _ _⟩
 |some h=>
  obtain⟨s,v,f,k,i⟩:=T.clone b (g h rfl) m d e (n:=n) (c:=c)
  go_wp2_with (first|(simp only[a];done)|simp only[a]|(at_builtin;refine Lib.wpList_append_run _ rfl _ _ _ _ rfl _ _ rfl rfl _ _ (f _) ?_))
  go_ret
  exact⟨s,rfl,k,i⟩
end
abbrev lQ:Ty:=.sl ew
def qah:List (FuncId×Row):=[(1000000000000+149,.rw 0 151),(67,.clone 120 ax 40)]
def QH:Cx:=nV [(69,xf),(66,nR),(68,iX)] [] qah (λ_ _ _ _=>V)
def Ah:CxOK prog QH:=pE (cs:=[(69,xf),(66,nR),(68,iX)]) (ps:=[]) (rs:=qah) aH ⟨qni,qnm,qnh,uT⟩ trivial ⟨uT,qor,uT⟩ (λ_ _ _ _ _ h=>(nomatch h))
abbrev GO:List MI:=[.o 8 120 ax,.o 9 (fJ 149 0 151) lQ]
abbrev vn:Pt:=⟨112,2,⟨[(56,.d i64),(55,.d i64),(54,.d aP),(36,.d i64),(35,.d i64),(34,.d aP),(0,.d (.sl ah)),(1,.d (.sl ax)),(11,.d i64),(10,.d (.sl ax))],.x 14 73 ah :: .r 14 14 0::GO⟩,⟨[(36,.d i64),(35,.d i64),(34,.d aP),(0,.d (.sl ah)),(1,.d (.sl ax)),(11,.d i64),(10,.d (.sl ax))],GO⟩,⟨[],[]⟩⟩
abbrev zay:Type:=Int×Int×List Int×List ah.q×List ax.q×Int×List ax.q
abbrev BX:Type:=Int×List Int×zay×ah.q
abbrev nu:Type:=List ax.q×List (List ew.q)
def Jt(a:List ax.q)(i:Int):Int:=(a.getD i.toNat ax.j).2.2.2.2.1
def PJ(a:List ax.q)(i e:Int):Int:=if Jt a i<e then Jt a i else e
def NA(a:List ax.q)(i v:Int):List ax.q:=
 a.set i.toNat ((a.getD i.toNat ax.j).1,(a.getD i.toNat ax.j).2.1,(a.getD i.toNat ax.j).2.2.1,(a.getD i.toNat ax.j).2.2.2.1,I6.wrap (Jt a i-v),())
def zgl(a:List (List ew.q))(i:Int)(c:ew.q):List (List ew.q):=a.set i.toNat (a.getD i.toNat []++[c])
def Gq(n:Nat)(i:Int)(x:Fr nu):Fr nu:=Jd (0<=i/\i<(n:Int)) (Jd (i.toNat<n) x)
def su(k:BX)(b:Prop)(i:Int)(e:i64.q)(s:nu):Fr nu:=
 let c:=PJ s.1 i e;let a:=s.2.getD i.toNat [];Jd b (Gq s.1.length i (Gq s.1.length i (Gq s.1.length i
  (Jb (J (PJ s.1 i e>0))
   (Gq s.2.length i (Jd (a.length+1<=maxLen/\(a.length+1)*16<=140737488355328) (Jd (0<=i/\i<(s.2.length:Int)) (Jd (i.toNat<s.2.length/\i.toNat=i.toNat)
    (Jv (NA s.1 i c,zgl s.2 i (k.2.2.2.1,PJ s.1 i e,())))))))
   (Jv (NA s.1 i c,s.2))))))
def zie(k:BX)(s:nu):vn.E.X:=((k.2.2.1.1,k.2.2.1.2.1,k.2.2.1.2.2.1,k.2.2.1.2.2.2.1,k.2.2.1.2.2.2.2.1,k.2.2.1.2.2.2.2.2.1,k.2.2.1.2.2.2.2.2.2,()),s.1,s.2,())
def R5:vn.M.X->Fr vn.Out:=FG (λx=>(x.1.1,((x.1.2.1,x.1.2.2.1,(x.1.2.2.2.1,x.1.2.2.2.2.1,x.1.2.2.2.2.2.1,x.1.2.2.2.2.2.2.1,x.1.2.2.2.2.2.2.2.1,x.1.2.2.2.2.2.2.2.2.1,x.1.2.2.2.2.2.2.2.2.2.1),x.2.1):BX),((x.2.2.1,x.2.2.2.1):nu))) (λk=>k.1) (λk=>k.2.1) su zie
def WL:Code:=(Go.Ab.loopB (au f28 0) 0).getD .skip
def ze2:af prog (.loop WL) vn.M vn R5:=
 cX Ah (λi k s=>((i,k.1,k.2.1,k.2.2.1.1,k.2.2.1.2.1,k.2.2.1.2.2.1,k.2.2.1.2.2.2.1,k.2.2.1.2.2.2.2.1,k.2.2.1.2.2.2.2.2.1,k.2.2.1.2.2.2.2.2.2,()),k.2.2.2,s.1,s.2,())) i64.j
abbrev Hk:Pt:=⟨112,0,⟨[(36,.d i64),(35,.d i64),(34,.d aP),(0,.d (.sl ah)),(1,.d (.sl ax)),(11,.d i64),(10,.d (.sl ax))],GO⟩,⟨[(1,.d (.sl ax))],GO⟩,⟨[],[]⟩⟩
abbrev Ca:Type:=Int×List Int×List ah.q×List ax.q
abbrev sm:Type:=Int×List ax.q×nu
def qQ(t:ah.q)(a:List ax.q):List Int:=(xf.f (t,a,())).1
def G1(k:Ca)(i:Int)(t:ah.q)(b:Int)(a:List ax.q):BX:=((qQ t a).length,qQ t a,(i,k.1,k.2.1,k.2.2.1,k.2.2.2,b,a),t)
def PL(k:Ca)(i:Int)(t:ah.q)(b:Int)(a:List ax.q)(s:nu):Fr sm:=
 Jd (a.length<=1000000) (cT (InK ((qQ t a).length:Int) 0 (qQ t a).length) (bY (su (G1 k i t b a) True) 0 (qQ t a) s) (bw (su (G1 k i t b a) True) 0 (qQ t a) s) (λr=>Jv (b,a,r)))
def sw(k:Ca)(b:Prop)(i:Int)(e:i64.q)(s:sm):Fr sm:=
 let a:=k.2.2.1.getD (Int.toNat e) ah.j;Jd b (Jd (0<=e/\e<(k.2.2.1.length:Int))
  (Jb (a.2.1 != s.1)
   (Jd (s.2.2.1.length<=maxLen) (Jd (s.2.2.1.length*40<=140737488355328) (PL k i a a.2.1 s.2.2.1 s.2.2)))
   (PL k i a s.1 s.2.1 s.2.2)))
def qjm:Hk.M.X->Fr Hk.Out:=FG (λx=>(x.1.1,((x.1.2.1,x.1.2.2.1,x.1.2.2.2.1,x.1.2.2.2.2.1):Ca),((x.1.2.2.2.2.2.1,x.1.2.2.2.2.2.2.1,x.2.1,x.2.2.1):sm))) (λk=>k.1) (λk=>k.2.1) sw (λk s=>((k.2.2.2,()),s.2.2.1,s.2.2.2,()))
def ze4:af prog (.loop (au f28 0)) Hk.M Hk qjm:=
 cX Ah (λi k s=>((i,k.1,k.2.1,k.2.2.1,k.2.2.2,s.1,s.2.1,()),s.2.2.1,s.2.2.2,())) i64.j (Λ:=λ_=>vn.han QH.Γ vn.M R5) (hΛ:=λ_=>nc (by kernel_rfl) (b:=WL) (by kernel_rfl) (af.han Ah rfl ze2))
abbrev ofN:List MI:=[.o 9 (fJ 149 0 151) lQ,.o 97 120 ax,.o 17 3 i64]
abbrev Hj:Pt:=⟨112,4,⟨[(99,.d i64),(98,.d i64)],ofN⟩,⟨[],[.o 9 (fJ 149 0 151) lQ,.o 17 3 i64]⟩,⟨[],[]⟩⟩
def Do(k:Int×List (List ew.q)×List ax.q)(b:Prop)(i:Int)(e:ax.q)(s:List Int):Fr (List Int):=
 Jd b (Jd (i.toNat<k.2.2.length) (Jd (0<=i/\i<(s.length:Int)) (Jd (i.toNat<s.length) (Jv (s.set i.toNat e.2.2.2.2.1)))))
def qjl:Hj.M.X->Fr Hj.Out:=FG (λx=>(x.1.1,(x.1.2.1,x.2.1,x.2.2.1),x.2.2.2.1)) (λk=>k.1) (λk=>k.2.2) Do (λk s=>((),k.2.1,s,()))
def ze3:af prog (.loop (au f28 1)) Hj.M Hj qjl:=
 cX Ah (λi k s=>((i,k.1,()),k.2.1,k.2.2,s,())) ax.j
def ow(a:List ah.q)(b:List ax.q):Ca:=(((iX.f (a,())).1.length:Int),(iX.f (a,())).1,a,b)
def yk(n:Nat)(z:Int):Prop:=0<=(n:Int)/\(n:Int)<=(n:Int)/\(n:Int)<=(maxLen:Int)/\(n:Int)*z<=140737488355328
def Bm(x:ap [.d (.sl ah),.d (.sl ax)]):Fr (aa [.sl lQ,aP,i64]):=
 Jb ((nR.f (x.1,x.2.1,())).1 != 0) (Jv ([],[],(nR.f (x.1,x.2.1,())).1,()))
  (Jd (List.length x.2.1<=maxLen) (Jd (List.length x.2.1*40<=140737488355328) (Jd (yk (List.length x.2.1) 24) (Jd (List.length x.2.1<=maxLen) (Jd (List.length x.2.1*40<=140737488355328) (Jd (List.length x.1<=1000000)
   (cT (InK ((iX.f (x.1,())).1.length:Int) 0 (iX.f (x.1,())).1.length) (bY (sw (ow x.1 x.2.1) True) 0 (iX.f (x.1,())).1 (1,x.2.1,x.2.1,Lrp (Int.toNat (List.length x.2.1:Int)) [])) (bw (sw (ow x.1 x.2.1) True) 0 (iX.f (x.1,())).1 (1,x.2.1,x.2.1,Lrp (Int.toNat (List.length x.2.1:Int)) []))
    (λs=>Jd (yk (List.length x.2.1) 8)
     (cT (InK (s.2.2.1.length:Int) 0 s.2.2.1.length) (bY (Do ((s.2.2.1.length:Int),s.2.2.2,s.2.2.1) True) 0 s.2.2.1 (Lrp (Int.toNat (List.length x.2.1:Int)) 0)) (bw (Do ((s.2.2.1.length:Int),s.2.2.2,s.2.2.1) True) 0 s.2.2.1 (Lrp (Int.toNat (List.length x.2.1:Int)) 0))
      (λo=>Jv (s.2.2.2,o,0,())))))))))))
def qv1:ag prog 28 (bg [.d (.sl ah),.d (.sl ax)] [.sl lQ,aP,i64] Bm):=
 oc Ah ze4 ze3 (fn:=f28)
def Ch{z:Int}(h:n<=1000000)(a:0<=z/\z<=1000):yk n z:=by have:=fI;refine⟨by omega,by omega,by omega,?_⟩;have b:(n:Int)*z<=1000000*z:=Int.mul_le_mul_of_nonneg_right (by omega) a.1;omega
def zg4(k:BX)(s:nu)(n m:Nat)(hb:k.2.1.length<=n)(hm:m+n<=999999)(h1:s.1.length=n)(h2:s.2.length=n)(hr:∀ g∈s.2,g.length<=m):
  bY (su k True) 0 k.2.1 s/\(bw (su k True) 0 k.2.1 s).1.length=n/\(bw (su k True) 0 k.2.1 s).2.length=n/\∀ g∈(bw (su k True) 0 k.2.1 s).2,g.length<=m+k.2.1.length:=
 dK (step:=su k True) (λj (s:nu)=>s.1.length=n/\s.2.length=n/\∀ g∈s.2,g.length<=m+j) k.2.1 (λj e s he hs=>by
  have hj:j<n:=ucb (eO he) hb;obtain⟨a1,a2⟩:=ou hj hs.1;obtain⟨b1,b2⟩:=ou hj hs.2.1;have hg:(s.2.getD (Int.toNat (j:Int)) []).length<=m+j:=by
   rw[uah,uaq b2];exact hs.2.2 _ (udi b2)
  have hl:∀ v,(NA s.1 j v).length=n:=λv=>by
   show(List.set _ _ _).length=n;rw[udp];exact hs.1
  have hx:=fI;refine⟨uT,a1,a2,a1,a2,a1,a2,λ_=>⟨b1,b2,by omega,b1,⟨b2,rfl⟩,hl _,?_,λg hgm=>?_⟩,λ_=>⟨hl _,hs.2.1,λg hgm=>uc3 (hs.2.2 g hgm)⟩⟩
  ·show(List.set _ _ _).length=n;rw[udp];exact hs.2.1
  ·rcases uap hgm with h|h
   ·exact uc3 (hs.2.2 g h)
   ·rw[h,ub6];exact udk hg) s ⟨h1,h2,hr⟩
def zg8(ts:List ah.q)(ls:List ax.q)(ht:ts.length<=100)(hl:ls.length<=2000)(s:sm)(hs:s.2.1.length=ls.length/\s.2.2.1.length=ls.length/\s.2.2.2.length=ls.length/\∀ g∈s.2.2.2,g.length<=0):
  bY (sw (ow ts ls) True) 0 (iX.f (ts,())).1 s/\(bw (sw (ow ts ls) True) 0 (iX.f (ts,())).1 s).2.2.1.length=ls.length/\(bw (sw (ow ts ls) True) 0 (iX.f (ts,())).1 s).2.2.2.length=ls.length/\∀ g∈(bw (sw (ow ts ls) True) 0 (iX.f (ts,())).1 s).2.2.2,g.length<=1000000:=by
 obtain⟨o1,o2⟩:=YQ ts (by omega);have hx:=fI;have key:=dK (step:=sw (ow ts ls) True) (λi (s:sm)=>s.2.1.length=ls.length/\s.2.2.1.length=ls.length/\s.2.2.2.length=ls.length/\∀ g∈s.2.2.2,g.length<=i*2000) (iX.f (ts,())).1 (λi e s he hs=>by
  have hi:i<100:=by
   have:=eO he;omega
  have hin:=o2 e (ubg he);have htl:∀ t kd rd,List.length rd=ls.length->(PL (ow ts ls) i t kd rd s.2.2).s7 (λ(s:sm)=>s.2.1.length=ls.length/\s.2.2.1.length=ls.length/\s.2.2.2.length=ls.length/\∀ g∈s.2.2.2,g.length<=(i+1)*2000):=λt kd rd hrd=>by
   have hbl:(qQ t rd).length<=ls.length:=by
    rcases zp3 t rd (by omega)with h|h
    ·have:qQ t rd=[]:=h;rw[this];exact ufh _
    ·exact Nat.le_of_eq (h.trans hrd)
   obtain⟨k1,k2,k3,k4⟩:=zg4 (G1 (ow ts ls) i t kd rd) s.2.2 ls.length (i*2000) hbl (by omega) hs.2.1 hs.2.2.1 hs.2.2.2;refine⟨by omega,ii (A:=λ(r:nu)=>r.1.length=ls.length/\r.2.length=ls.length/\∀ g∈r.2,g.length<=(i+1)*2000) (eU (by omega)) ⟨k1,k2,k3,λg hg=>?_⟩ (λr hr=>⟨hrd,hr⟩)⟩;have h5:=k4 g hg;have h6:List.length (G1 (ow ts ls) i t kd rd).2.1<=ls.length:=hbl;omega
  exact⟨uT,hin,λ_=>⟨by omega,by omega,htl _ _ _ hs.2.1⟩,λ_=>htl _ _ _ hs.1⟩) s ⟨hs.1,hs.2.1,hs.2.2.1,λg hg=>uep (hs.2.2.2 g hg) (ufh _)⟩
 obtain⟨k1,_,k3,k4,k5⟩:=key;exact⟨k1,k3,k4,λg hg=>uep (k5 g hg) (by omega)⟩
def zg7(b:List (List ew.q))(a:List ax.q)(s:List Int)(c:s.length=a.length):bY (Do ((a.length:Int),b,a) True) 0 a s/\True:=
 ⟨(dK (step:=Do ((a.length:Int),b,a) True) (λ_ (s:List Int)=>s.length=a.length) a (λi e s d c=>by obtain⟨f,g⟩:=ou (eO d) c;obtain⟨k,h⟩:=ou (l:=a) (eO d) rfl;exact⟨uT,h,f,g,(show(List.set _ _ _).length=_ by rw[udp];exact c)⟩) s c).1,uT⟩
def qc4(ts:List ah.q)(ls:List ax.q):(Bm (ts,ls,())).s7 (λy=>y.1.length<=2000/\∀ g∈y.1,List.length (α:=ew.q) g<=1000000):=by
 unfold Bm;refine⟨λ_=>⟨ufh _,λ_ h=>(nomatch h)⟩,λhe=>?_⟩;have he':(nR.f (ts,ls,())).1=0:=by simpa using he
 obtain⟨h1,h2⟩:=zgd ts ls he';have hx:=fI;have hl:ls.length<=1000000:=by omega
 have e0:Int.toNat (ls.length:Int)=ls.length:=uc0 _;refine⟨by show ls.length<=maxLen;omega,by show ls.length*40<=_;omega,Ch hl (by decide),by show ls.length<=maxLen;omega,by show ls.length*40<=_;omega,by show ts.length<=_;omega,ii (A:=λ(s:sm)=>s.2.2.1.length=ls.length/\s.2.2.2.length=ls.length/\∀ g∈s.2.2.2,g.length<=1000000) (eU ?_) (zg8 ts ls h1 h2 _ ⟨rfl,rfl,?_,λg hg=>?_⟩) (λs hs=>⟨Ch hl (by decide),ii (A:=λ_=>True) (eU (by rw[hs.1];omega)) (zg7 s.2.2.2 s.2.2.1 _ ?_) (λo _=>⟨by show s.2.2.2.length<=_;omega,hs.2.2⟩)⟩)⟩
 ·have:=(YQ ts (by omega)).1;show(iX.f (ts,())).1.length<=_;omega
 ·show(Lrp (Int.toNat (ls.length:Int)) _).length=ls.length;rw[ubc,e0]
 ·have hg':g∈Lrp (Int.toNat (ls.length:Int)) ([]:List ew.q):=hg;rw[List.eq_of_mem_replicate hg'];exact ufb _
 ·show(Lrp (Int.toNat (ls.length:Int)) _).length=_;rw[ubc,e0];exact hs.1.symm
def tC:Ct:=⟨[.d (.sl ah),.d (.sl ax)],[.sl lQ,aP,i64],λx=>(Bm x).get,λ_=>[]⟩
def SY:ag prog 28 tC:=cq qv1 _ (λx _ _=>(dt (qc4 x.1 x.2.1)).1)
def qc3(b:List ah.q)(a:List ax.q):(tC.f (b,a,())).1.length<=2000/\∀ g∈(tC.f (b,a,())).1,List.length (α:=ew.q) g<=1000000:=(dt (qc4 b a)).2
def qhu:Cx:=cx [(244,E9),(245,tw)] []
def QJ:CxOK prog qhu:=aQ aH ⟨YN,T4,uT⟩ trivial
abbrev rV:Pt:=⟨32,0,⟨[(5,.d i64),(4,.d i64)],[.x 1 101 aq,.r 1 1 0,.x 3 101 aq,.r 3 3 0]⟩,⟨[(4,.d i64)],[]⟩,⟨[],[]⟩⟩
def qxr(x:rV.M.X):Fr rV.Out:=
 match x with
 |((k,e,_),f,y,_)=>
  Jb (bif J (k<(List.length f.2.1:Int))then e==0 else Y)
   (Jd (0<=k/\k<(List.length f.2.1:Int)) (Jv (Rd.next ((I6.wrap (k+1),(tw.f (y,List.getD f.2.1 k.toNat ba.j,())).2.1,()),f,(tw.f (y,List.getD f.2.1 k.toNat ba.j,())).1,()))))
   (Jv (Rd.out ((e,()),())))
def zm9:af prog (au f220 0) rV.M rV qxr:=ep QJ
def jw:List ba.q->aq.q->Int->Int
 |[],_,e=>e
 |a::r,y,e=>if e=0 then jw r (tw.f (y,a,())).1 (tw.f (y,a,())).2.1 else e
def qji(x:rV.M.X):Fr rV.Out:=
 match x with
 |((k,e,_),f,y,_)=>Jd (0<=k/\k<=(List.length f.2.1:Int)/\List.length f.2.1<=maxLen) (Jv (Rd.out ((jw (List.drop k.toNat f.2.1) y e,()),())))
def zf9{k:Int}{l:List ba.q}(h:0<=k/\k<=(l.length:Int)/\l.length<=maxLen)(c:k<(l.length:Int)):I6.wrap (k+1)=k+1/\List.drop k.toNat l=l.getD k.toNat ba.j::List.drop (k+1).toNat l:=by
 have b:maxLen<=9223372036854775807:=by decide
 have a:k.toNat<l.length:=by omega
 refine⟨cV (by omega),?_⟩;rw[show(k+1).toNat=k.toNat+1 by omega,ual a,uah,uaq a];rfl
def zf7{k:Int}(h:0<=k/\k<=(n:Int)/\n<=maxLen)(a:k<(n:Int)):(0<=k+1/\k+1<=(n:Int)/\n<=maxLen)/\((n:Int)-(k+1)).toNat<((n:Int)-k).toNat:=by omega
def zf6{k:Int}(h:0<=k/\k<=(n:Int)/\n<=maxLen)(a:¬ k<(n:Int)):n<=k.toNat:=by omega
def zev:af prog (.loop (au f220 0)) rV.M rV qji:=
 af.loop zm9 (inv:=λx=>0<=x.1.1/\x.1.1<=(List.length x.2.1.2.1:Int)/\List.length x.2.1.2.1<=maxLen) (μ:=λx=>((List.length x.2.1.2.1:Int)-x.1.1).toNat)
  (by rintro⟨⟨k,e,_⟩,f,y,_⟩ a Q c;have c:Q (Rd.out ((jw (List.drop k.toNat f.2.1) y e,()),())):=c.2;have a:0<=k/\k<=(List.length f.2.1:Int)/\List.length f.2.1<=maxLen:=a;by_cases d:k<(List.length f.2.1:Int);obtain⟨l,m⟩:=zf9 a d;obtain⟨i,n⟩:=zf7 a d;rw[m]at c;by_cases g:e=0;rw[jw,ufw g]at c;refine⟨λ_=>⟨⟨a.1,d⟩,?_⟩,λb=>?_⟩;rw[l];exact⟨i,n,i,c⟩;rw[ueb d,g]at b;cases b;rw[jw,ufx g]at c;refine⟨λb=>?_,λ_=>c⟩;have b:(bif J (k<(List.length f.2.1:Int))then e==0 else Y)=true:=b;rw[ueb d]at b;exact absurd (by simpa using b) g;have:=zf6 a d;rw[ua2 this,jw]at c;refine⟨λb=>?_,λ_=>c⟩;have b:(bif J (k<(List.length f.2.1:Int))then e==0 else Y)=true:=b;rw[udw d]at b;cases b)
  (λx Q h=>h.1)
def UP(x:ap [.d aq]):Fr (aa [.bool]):=
 Jd (0<=(0:Int)/\(0:Int)<=(List.length x.1.2.1:Int)/\List.length x.1.2.1<=maxLen) (Jv (jw (List.drop (Int.toNat 0) x.1.2.1) (E9.f (x.1.1,())).1 0==0,()))
def K1:Ct:=⟨[.d aq],[.bool],λx=>(UP x).get,λ_=>[]⟩
def quy:ag prog 220 (bg [.d aq] [.bool] UP):=cZ QJ zev (fn:=f220)
def qna:ag prog 220 K1:=cq quy _ (λx a _=>⟨⟨by decide,ub4 _,a.1.2.1.1⟩,uT⟩)
def qhv:Cx:=cx [(100,nP),(156,Ay),(220,K1)] []
def QK:CxOK prog qhv:=aQ aH ⟨qbt,SG,qna,uT⟩ trivial
def LE(x:ap [.d aq]):Fr (aa [aC]):=
 Jv ((if (nP.f (x.1,())).1.1<(nP.f (x.1,())).1.2.1 then (nP.f (x.1,())).1.2.1 else (nP.f (x.1,())).1.1,(nP.f (x.1,())).1.2),())
def qtu:ag prog 62 ⟨[.d aq],[aC],λxs=>(LE xs).get,λxs=>[(LE xs).ok]⟩:=
 cF QK (Λ:=bK) (fn:=f62) (aY [.d aq]) (by kernel_rfl) (λc E _=>bm c 0) (λx=>by kernel_rfl)
def EH:Ct:=⟨[.d aq],[aC],λx=>(LE x).get,λ_=>[]⟩
def qmt:ag prog 62 EH:=cq qtu _ (λx a _=>uT)
def LB(x:ap [.d aq,.ptr ar]):Fr (aa [.bool]):=
 Jv (bif bif !(Ay.f (x.1.1,())).1 then Z else x.1.1.2.2.1 != x.2.1.1 then Z else !(K1.f (x.1,())).1,())
def qte:ag prog 219 ⟨[.d aq,.ptr ar],[.bool],λxs=>(LB xs).get,λxs=>[(LB xs).ok]⟩:=
 cF QK (Λ:=bK) (fn:=f219) (aY [.d aq,.ptr ar]) (by kernel_rfl) (λc E _=>bm c 0) (λx=>by kernel_rfl)
def wZ:Ct:=⟨[.d aq,.ptr ar],[.bool],λx=>(LB x).get,λ_=>[]⟩
def qmp:ag prog 219 wZ:=cq qte _ (λx a _=>uT)
def qhw:Cx:=cx [(101,kZ),(221,ir aq),(219,wZ)] []
def qhx:CxOK prog qhw:=aQ aH ⟨AX,Sb,qmp,uT⟩ trivial
def Fw(x:ap [.d ar,.d (.sl aq)]):Fr (aa [.bool]):=
 let a:=kZ.f (x.1,());Jd (a.1=Z->∀ (b:aa [aq]),gN [aq] b->az (wZ.ok (b.1,x.1,()))) (Jv (bif a.1 then !((ir aq).f (x.2.1,λb=>wZ.f (b.1,x.1,()),())).1 else Y,()))
def qtf:ag prog 163 ⟨[.d ar,.d (.sl aq)],[.bool],λxs=>(Fw xs).get,λxs=>[(Fw xs).ok]⟩:=
 cF qhx (Λ:=bK) (fn:=f163) (aY [.d ar,.d (.sl aq)]) (by kernel_rfl) (λc E _=>bm c 0) (λx=>by kernel_rfl)
def AG:Ct:=⟨[.d ar,.d (.sl aq)],[.bool],λx=>(Fw x).get,λ_=>[]⟩
def qmq:ag prog 163 AG:=cq qtf _ (λx a _=>by unfold Fw;repeat' first|exact trivial|intro _|refine⟨?_,?_⟩|decide)
def QL:Cx:=cx [(163,AG)] []
def IV:CxOK prog QL:=aQ aH ⟨qmq,uT⟩ trivial
abbrev yJ:Pt:=⟨31,0,⟨[(14,.d i64),(13,.d i64),(12,.d (.sl aq)),(5,.d i64),(1,.d (.sl aq))],[]⟩,⟨[(5,.d i64),(1,.d (.sl aq))],[]⟩,⟨[],[]⟩⟩
def HU(k:Int×(List aq.q)×(List aq.q))(b:Prop)(i:Int)(e:aq.q)(s:Int):Fr (Int):=
 Jd b (Jv (I6.wrap (s+((List.length e.2.1):Int))))
def Rp:yJ.M.X->Fr yJ.Out:=FG (λx=>(x.1.1,(x.1.2.1,x.1.2.2.1,x.1.2.2.2.2.1),x.1.2.2.2.1)) (λk=>k.1) (λk=>k.2.1) HU (λk s=>((s,k.2.2,()),()))
def zd1:af prog (.loop (au f97 0)) yJ.M yJ Rp:=
 cX IV (λi k s=>((i,k.1,k.2.1,s,k.2.2,()),())) aq.j
def MT:=λk s=>bw (HU k True) 0 k.2.1 s
def Y4:=λk s=>bY (HU k True) 0 k.2.1 s
def zso(a:Gm):St->Option Tr:=yJ.han a yJ.M Rp
def xC(x:ap [.d ar,.d (.sl aq)]):Fr (aa [i64]):=
 Jb (!(AG.f x).1) (Jv (1,())) (cT (InK (((List.length x.2.1):Int)) 0 (List.length x.2.1)) (Y4 (((List.length x.2.1):Int),x.2.1,x.2.1) 0) (MT (((List.length x.2.1):Int),x.2.1,x.2.1) 0) (λa=>Jb (bif J (((List.length x.2.1):Int)>2000)then Z else J (a>2000)) (Jv (2,())) (Jv (0,()))))
def qth:ag prog 97 ⟨[.d ar,.d (.sl aq)],[i64],λxs=>(xC xs).get,λxs=>[(xC xs).ok]⟩:=
 cF IV (Λ:=(λ_=>zso QL.Γ)) (fn:=f97) (aY [.d ar,.d (.sl aq)]) (by kernel_rfl) (λc E a=>fH a (by kernel_rfl) (b:=au f97 0) (by kernel_rfl) (af.han IV rfl zd1)) (λx=>by kernel_rfl)
def dC(l:List aq.q):Prop:=l.length<=1000000/\∀ f∈l,List.length (α:=ba.q) f.2.1<=1000000
def fu(l:List aq.q):Nat:=(l.map (λf=>List.length (α:=ba.q) f.2.1)).sum
def PA:(l:List aq.q)->(∀ f∈l,List.length (α:=ba.q) f.2.1<=n)->fu l<=l.length*n
 |[],_=>ufh _
 |f::r,h=>by have b:=h f ucc;have c:=PA r (λf a=>h f (ubj _ a));show List.length (α:=ba.q) f.2.1+fu r<=(r.length+1)*n;rw[ufd];omega
def qby{l:List aq.q}{e:aq.q}(a:l[i]?= U e):fu (l.take (i+1))=fu (l.take i)+List.length (α:=ba.q) e.2.1:=by unfold fu;rw[List.take_succ,a,udx,List.sum_append];rfl
def Tj(l:List aq.q)(h:dC l):Y4 ((l.length:Int),l,l) 0/\MT ((l.length:Int),l,l) 0=(fu l:Int):=by
 have a:=dK (step:=HU ((l.length:Int),l,l) True) (λi (s:Int)=>s=(fu (l.take i):Int)) l (λi e s k o=>by
  refine⟨uT,?_⟩;have c:=PA (n:=1000000) (l.take (i+1)) (λf m=>h.2 f (ubq m));have d:(l.take (i+1)).length<=1000000:=by rw[uc5];have:=h.1;omega
  have b:=qby k;show I6.wrap (s+(List.length (α:=ba.q) e.2.1:Int))=_;have g:fu (l.take (i+1))<=1000000*1000000:=uep c (ube _ d);rw[b,o];rw[b]at g;rw[show((fu (List.take i l)+List.length (α:=ba.q) e.2.1:Nat):Int)=(fu (List.take i l):Int)+(List.length (α:=ba.q) e.2.1:Int) from rfl];exact cV (by omega)) 0 rfl
 rw[List.take_length]at a;exact a
def Tl(c:ar.q)(l:List aq.q)(h:dC l):(xC (c,l,())).s7 (λy=>y.1=0->l.length<=2000/\fu l<=2000):=by refine⟨λ_ h=>(by cases h),λ_=>ii (A:=λs=>s=(fu l:Int)) (eU (uep h.1 (by decide))) (Tj l h) (λs e=>⟨λ_ h=>(by cases h),λa _=>?_⟩)⟩;have a:(bif J ((l.length:Int)>2000)then Z else J (s>2000))=false:=a;by_cases b:(l.length:Int)>2000;rw[ueb b]at a;cases a;rw[udw b]at a;have d:¬ s>2000:=uch a;rw[e]at d;omega
def px:Ct:=⟨[.d ar,.d (.sl aq)],[i64],λx=>(xC x).get,λx=>[dC x.2.1]⟩
def qms:ag prog 97 px:=cq qth _ (λx _ a=>(dt (Tl x.1 x.2.1 a)).1)
def Tk(c:ar.q)(l:List aq.q)(h:dC l)(a:(px.f (c,l,())).1=0):l.length<=2000/\fu l<=2000:=(dt (Tl c l h)).2 a
def Nt:Code:=((Go.Ab.loopB (au f222 0) 0).getD .skip)
def zm6:af prog Nt (gw 233 aA).M (gw 233 aA) (B0 233 aA):=
 ep aL
def zc9:af prog (.loop Nt) (gw 233 aA).M (gw 233 aA) (wj 233 aA):=XI zm6
def qeg:Nat->St->Option Tr:=λ_=>(gw 233 aA).han eN.Γ (gw 233 aA).M (wj 233 aA)
def zbh{E:Env}:co prog E qeg (au f222 0) 0:=
 nc (b:=Nt) (by kernel_rfl) (by kernel_rfl) (af.han aL rfl zc9)
def zm8:af prog (au f222 0) (gy 233 aA).M (gy 233 aA) (B3 233 aA):=
 af.of_run aL (bs:=0) (Λ:=qeg) rfl rfl rfl (λE=>zbh) (λx=>by kernel_rfl)
def zdb:af prog (.loop (au f222 0)) (gy 233 aA).M (gy 233 aA) (wk 233 aA):=XJ zm8
def zsg:Nat->St->Option Tr:=λ_=>(gy 233 aA).han eN.Γ (gy 233 aA).M (wk 233 aA)
def zai:SoundMt prog 222 (ng 233 aA):=
 jK (jU aL (Λ:=zsg) (fn:=f222) (fr:=(B4 233 aA)) (e:=233) (T:=aA) (ps:=[.d i64,.d i64,(aZ aA)]) (rs:=[]) (0,0,(λ_=>(0,()),λ_=>True),()) (by kernel_rfl) rfl rfl
  (λc E g=>fH g (by kernel_rfl) (b:=au f222 0) (by kernel_rfl) (af.han aL rfl zdb)) (λl x=>by kernel_rfl)) _ _ λ_ _ l h _ _ a _ f=>WV l h a f
def zns:af prog (au f256 0) (gF 233 aA).M (gF 233 aA) (BE 233 aA):=
 ep aL
def zdx:af prog (.loop (au f256 0)) (gF 233 aA).M (gF 233 aA) (wu 233 aA):=XR zns
def zsn:Nat->St->Option Tr:=λ_=>(gF 233 aA).han eN.Γ (gF 233 aA).M (wu 233 aA)
def zpk:SoundMt prog 256 (mh 233 aA):=
 jK (jU aL (Λ:=zsn) (fn:=f256) (fr:=(Ga 233 aA)) (e:=233) (T:=aA) (ps:=[.d i64,.d i64,.d i64,(aZ aA)]) (rs:=[]) (0,0,0,(λ_=>(0,()),λ_=>True),()) (by kernel_rfl) rfl rfl
  (λc E g=>fH g (by kernel_rfl) (b:=au f256 0) (by kernel_rfl) (af.han aL rfl zdx)) (λl x=>by kernel_rfl)) _ _ λ_ _ l h _ _ a _ f=>qcb l h a f
def Qx:Cx:=dI [] [] (i6 (cx [] []).Γ 256 (mh 233 aA))
def IJ:CxOK prog Qx:=dP aH trivial trivial (jg aL.ct zpk)
def znf:af prog (au f247 0) (g7 233 aA).M (g7 233 aA) (B6 233 aA):=
 ep IJ
def zdk:af prog (.loop (au f247 0)) (g7 233 aA).M (g7 233 aA) (wm 233 aA):=XL znf
def zsj:Nat->St->Option Tr:=λ_=>(g7 233 aA).han Qx.Γ (g7 233 aA).M (wm 233 aA)
def zlr:SoundMt prog 247 (rN 233 aA):=
 jK (jU IJ (Λ:=zsj) (fn:=f247) (fr:=(B7 233 aA)) (e:=233) (T:=aA) (ps:=[.d i64,.d i64,.d i64,(aZ aA)]) (rs:=[]) (0,0,0,(λ_=>(0,()),λ_=>True),()) (by kernel_rfl) rfl rfl
  (λc E g=>fH g (by kernel_rfl) (b:=au f247 0) (by kernel_rfl) (af.han IJ rfl zdk)) (λl x=>by kernel_rfl)) _ _ λ_ _ l h _ _ a _ f=>qae l h a f
def znh:af prog (au f223 0) (g8 233 aA).M (g8 233 aA) (B8 233 aA):=
 ep aL
def zdm:af prog (.loop (au f223 0)) (g8 233 aA).M (g8 233 aA) (wn 233 aA):=XM znh
def znl:af prog (au f223 2) (gC 233 aA).M (gC 233 aA) (BA 233 aA):=
 ep aL
def zdq:af prog (.loop (au f223 2)) (gC 233 aA).M (gC 233 aA) (wq 233 aA):=XO znl
def znp:af prog (au f223 4) (gE 233 aA).M (gE 233 aA) (BC 233 aA):=
 ep aL
def zdu:af prog (.loop (au f223 4)) (gE 233 aA).M (gE 233 aA) (wt 233 aA):=XQ znp
def znj:af prog (au f223 1) (g9 233 aA).M (g9 233 aA) (B9 233 aA):=
 ep aL
def zdo:af prog (.loop (au f223 1)) (g9 233 aA).M (g9 233 aA) (wo 233 aA):=XN znj
def znn:af prog (au f223 3) (gD 233 aA).M (gD 233 aA) (BB 233 aA):=
 ep aL
def zds:af prog (.loop (au f223 3)) (gD 233 aA).M (gD 233 aA) (ws 233 aA):=XP znn
def Qz(n:Nat):Cx:=dI [] [] (kR (i6 (cx [] []).Γ 247 (rN 233 aA)) (i6 (cx [] []).Γ 223 ((kN 233 aA) n)))
def qe8(h:SoundMt prog 223 ((kN 233 aA) n)):CxOK prog (Qz n):=dP aH trivial trivial (mj (jg aL.ct zlr) (jg aL.ct h))
def Ql:Nat->St->Option Tr
 |0=>(g8 233 aA).han eN.Γ (g8 233 aA).M (wn 233 aA)
 |1=>(g9 233 aA).han eN.Γ (g9 233 aA).M (wo 233 aA)
 |2=>(gC 233 aA).han eN.Γ (gC 233 aA).M (wq 233 aA)
 |3=>(gD 233 aA).han eN.Γ (gD 233 aA).M (ws 233 aA)
 |_=>(gE 233 aA).han eN.Γ (gE 233 aA).M (wt 233 aA)
def zbl{E:Env}{c:Code}(n:f223.body=U c):co prog E Ql c 0:=by
 have f:(f223.body.map cD)=U 5:=by kernel_rfl
 have g:f223.body.bind (Go.Ab.loopB · 0)=U (au f223 0):=by kernel_rfl
 have h:f223.body.bind (Go.Ab.loopB · 1)=U (au f223 1):=by kernel_rfl
 have k:f223.body.bind (Go.Ab.loopB · 2)=U (au f223 2):=by kernel_rfl
 have l:f223.body.bind (Go.Ab.loopB · 3)=U (au f223 3):=by kernel_rfl
 have m:f223.body.bind (Go.Ab.loopB · 4)=U (au f223 4):=by kernel_rfl
 have d:∀ i,i<5->f223.body.bind (Go.Ab.loopB · i)=U (au f223 i):=λi o=>match i,o with
  |0,_=>g
  |1,_=>h
  |2,_=>k
  |3,_=>l
  |4,_=>m
 rw[n]at f d;simp only[Option.map_some,ucl]at f;simp only[uda]at d;refine mf c 0 λi p a=>?_;have b:=loopB_lt a;rw[f]at b;have e:=d i b;rw[e]at a;cases a
 match i,b with
 |0,_=>exact af.han aL rfl zdm
 |1,_=>exact af.han aL rfl zdo
 |2,_=>exact af.han aL rfl zdq
 |3,_=>exact af.han aL rfl zds
 |4,_=>exact af.han aL rfl zdu
def zl5(n:Nat)(l:List (aA).q)(x:ap [.d i64,.d i64,.d i64,(aZ aA)]):CT prog (Qz n) Ql f223 233 aA [.d i64,.d i64,.d i64,(aZ aA)] [] l x=U ((ue 233 aA) n l x):=by kernel_rfl
def qcd:(n:Nat)->SoundMt prog 223 ((kN 233 aA) n)
 |0=>by
  have hf:prog.funcs[223]?= some f223:=by kernel_rfl
  obtain⟨c,hb⟩:∃ c,f223.body=some c:=⟨_,rfl⟩;refine⟨by decide,rfl,rfl,enters hf hb (by kernel_rfl),λw F l xs v vs rows _ _ _ _ _ _ _ hok=>?_⟩;have h:SymOk 0 xs.1 xs.2.1 xs.2.2.1 xs.2.2.2.1 l:=hok;have h1:=h.am;have h2:=h.mb;have h3:=h.size;omega
 |n+1=>by
  refine jK (jU (qe8 (qcd n)) (Λ:=Ql) (fn:=f223) (fr:=(ue 233 aA) n) (e:=233) (T:=aA) (ps:=[.d i64,.d i64,.d i64,(aZ aA)]) (rs:=[]) (0,0,0,(λ_=>(0,()),λ_=>True),()) (by kernel_rfl) rfl rfl
   (λc E hc=>zbl hc) (zl5 n)) _ _ λw F l xs vs _ _ _ hok=>?_
  obtain⟨a,m,b,g,rfl⟩:∃ (a m b:Int) (g:(aZ aA).q),xs=(a,m,b,g,()):=⟨xs.1,xs.2.1,xs.2.2.1,xs.2.2.2.1,rfl⟩;have h:SymOk (n+1) a m b g l:=hok;have h0:=h.a0;have h1:=h.am;have h2:=h.mb;obtain⟨a',rfl⟩:∃ n:Nat,a=n:=⟨a.toNat,by omega⟩;obtain⟨m',rfl⟩:∃ n:Nat,m=n:=⟨m.toNat,by omega⟩;obtain⟨b',rfl⟩:∃ n:Nat,b=n:=⟨b.toNat,by omega⟩;exact qci n a' m' b' g l h
def DK:Cx:=dI [] [] (kR (i6 (cx [] []).Γ 222 (ng 233 aA)) (i6 (cx [] []).Γ 223 ((kN 233 aA) big)))
def sV:CxOK prog DK:=dP aH trivial trivial (mj (jg aL.ct zai) (jg aL.ct (qcd big)))
def zm1:af prog (au f164 0) (gv 233 aA).M (gv 233 aA) (By 233 aA):=
 ep sV
def zc2:af prog (.loop (au f164 0)) (gv 233 aA).M (gv 233 aA) (wh 233 aA):=XH zm1
def O2:Code:=((Go.Ab.loopB (au f164 1) 0).getD .skip)
def znd:af prog O2 (gz 233 aA).M (gz 233 aA) (B5 233 aA):=
 ep sV
def zdg:af prog (.loop O2) (gz 233 aA).M (gz 233 aA) (wl 233 aA):=XK znd
def qei:Nat->St->Option Tr:=λ_=>(gz 233 aA).han DK.Γ (gz 233 aA).M (wl 233 aA)
def zbj{E:Env}:co prog E qei (au f164 1) 0:=
 nc (b:=O2) (by kernel_rfl) (by kernel_rfl) (af.han sV rfl zdg)
def zmz:af prog (au f164 1) (gu 233 aA).M (gu 233 aA) (Bw 233 aA):=
 af.of_run sV (bs:=0) (Λ:=qei) rfl rfl rfl (λE=>zbj) (λx=>by kernel_rfl)
def zc0:af prog (.loop (au f164 1)) (gu 233 aA).M (gu 233 aA) (wg 233 aA):=XG zmz
def zsl:Nat->St->Option Tr
 |0=>(gv 233 aA).han DK.Γ (gv 233 aA).M (wh 233 aA)
 |_=>(gu 233 aA).han DK.Γ (gu 233 aA).M (wg 233 aA)
def zom:SoundMt prog 164 (qc 233 aA):=
 jK (jU sV (Λ:=zsl) (fn:=f164) (fr:=(BD 233 aA)) (e:=233) (T:=aA) (ps:=[.d i64,(aZ aA)]) (rs:=[]) (0,(λ_=>(0,()),λ_=>True),()) (by kernel_rfl) rfl rfl
  (λc E f=>GA f (by kernel_rfl) (b0:=au f164 0) (b1:=au f164 1) (by kernel_rfl) (by kernel_rfl) (af.han sV rfl zc2) (af.han sV rfl zc0)) (λl x=>by kernel_rfl)) _ _ λ_ _ l g _ _ a _ b=>qbr l g a b
def qfb:Cx:=dI [] [] (i6 (cx [] []).Γ 164 (qc 233 aA))
def qfc:CxOK prog qfb:=dP aH trivial trivial (jg aL.ct zom)
def zn9:SoundMt prog 98 (rO 233 aA):=
 jK (jU qfc (Λ:=bK) (fn:=f98) (fr:=(FZ 233 aA)) (e:=233) (T:=aA) (ps:=[(aZ aA)]) (rs:=[]) ((λ_=>(0,()),λ_=>True),()) (by kernel_rfl) rfl rfl
  (λc E _=>bm c 0) (λl x=>by kernel_rfl)) _ _ λ_ _ l d _ _ a _ b=>qbk l d a b
def QM:Cx:=cx [(166,pq)] []
def IW:CxOK prog QM:=aQ aH ⟨Fe,uT⟩ trivial
abbrev vi:Pt:=⟨18,0,⟨[(8,.d i64),(7,.d i64),(6,.d aP),(3,.d i64)],[]⟩,⟨[(3,.d i64)],[]⟩,⟨[(2,.d i64)],[]⟩⟩
def oW(k:Int×(List Int)×Int)(b:Prop)(i:Int)(e:i64.q)(s:Unit):Fr (Unit ⊕ vi.R.X):=
 Jd b (Jb (e != k.2.2) (Jv (.inr ((e,()),()))) (Jv (.inl ())))
def Rq:vi.M.X->Fr vi.Out:=FK (λx=>(x.1.1,(x.1.2.1,x.1.2.2.1,x.1.2.2.2.1),())) (λk=>k.1) (λk=>k.2.1) oW (λk s=>((k.2.2,()),())) (λ_ y=>Rd.back y) () (aY _,cf _)
def zd9:af prog (.loop (au f165 0)) vi.M vi Rq:=
 lG IW (λi k s=>((i,k.1,k.2.1,k.2.2,()),())) i64.j
def qyk:=λk s=>bC (oW k True) 0 k.2.1 s
def zhc:=λk s=>eI (oW k True) 0 k.2.1 s
def zsp(a:Gm):St->Option Tr:=vi.han a vi.M Rq
def LH(x:ap [.d aP]):Fr (aa [i64]):=
 iS (InK (((List.length x.1):Int)) 0 (List.length x.1)) (zhc (((List.length x.1):Int),x.1,0) ()) (qyk (((List.length x.1):Int),x.1,0) ()) () (aY _,cf _) (λ_=>Jv (0,())) (λa=>Jv (a.1.1,()))
def qtx:ag prog 165 ⟨[.d aP],[i64],λxs=>(LH xs).get,λxs=>[(LH xs).ok]⟩:=
 cF IW (Λ:=(λ_=>zsp QM.Γ)) (fn:=f165) (aY [.d aP]) (by kernel_rfl) (λc E a=>fH a (by kernel_rfl) (b:=au f165 0) (by kernel_rfl) (af.han IW rfl zd9)) (λx=>by kernel_rfl)
def AH:Ct:=⟨[.d aP],[i64],λx=>(LH x).get,λ_=>[]⟩
def qmw:ag prog 165 AH:=cq qtx _ (λx a _=>sS (jd a.1.1) (by refine Oh (λ_ _ _=>?_) _ _ _;exact⟨uT,λ_=>uT,λ_=>uT⟩) (λ_=>uT) (λ_=>uT))
def qhy:Cx:=cx [(166,pq),(165,AH)] []
def qhz:CxOK prog qhy:=aQ aH ⟨Fe,qmw,uT⟩ trivial
def LC(x:ap [.d aA,.d aA]):Fr (aa [i64]):=
 Jv ((AH.f ([(pq.f (x.1.2.1.1,x.2.1.2.1.1,())).1,(pq.f (x.1.1,x.2.1.1,())).1],())).1,())
def qtg:ag prog 99 ⟨[.d aA,.d aA],[i64],λxs=>(LC xs).get,λxs=>[(LC xs).ok]⟩:=
 cF qhz (Λ:=bK) (fn:=f99) (aY [.d aA,.d aA]) (by kernel_rfl) (λc E _=>bm c 0) (λx=>by kernel_rfl)
def tA:Ct:=⟨[.d aA,.d aA],[i64],λx=>(LC x).get,λ_=>[]⟩
def qmr:ag prog 99 tA:=cq qtg _ (λx a _=>uT)
def zib(a b:Int):(AH.f ([a,b],())).1=if a≠0 then a else b:=by
 have g:∀ (k:Int×List Int×Int) (i e:Int),k.2.2=0->(oW k True i e ()).get=if e≠0 then .inr ((e,()),())else .inl ():=λk i e n=>by show(if (e != k.2.2)=Z then _ else _)=_;rw[n];by_cases d:e=0;rw[ufx (by simp[d]),ufx (by simp[d])];rfl;rw[ufw (by simpa using d),ufw d];rfl
 show((iS _ _ (bC (oW (2,[a,b],0) True) 0 [a,b] ()) () (aY _,cf _) _ _).get:aa [i64]).1=_;by_cases c:a=0;have h:bC (oW (2,[a,b],0) True) 0 [a,b] ()=bC (oW (2,[a,b],0) True) 1 [b] ():=by rw[bC,g _ _ _ rfl,ufx (by simp[c])];rfl
 rw[h,ufx (by simp[c])];by_cases m:b=0;have l:bC (oW (2,[a,b],0) True) 1 [b] ()=.inl ():=by rw[bC,g _ _ _ rfl,ufx (by simp[m])];rfl
 rw[l,m];rfl;have l:bC (oW (2,[a,b],0) True) 1 [b] ()=.inr ((b,()),()):=by rw[bC,g _ _ _ rfl,ufw m]
 rw[l];rfl;have h:bC (oW (2,[a,b],0) True) 0 [a,b] ()=.inr ((a,()),()):=by rw[bC,g _ _ _ rfl,ufw c]
 rw[h,ufw c];rfl
def Cc(x:aA.q):Int:=x.2.1.1*18446744073709551616+x.1
def qku{b f g:Int}(c:0<=f/\f<18446744073709551616)(d:0<=g/\g<18446744073709551616):(if nT a b≠0 then nT a b else nT f g)<0↔a*18446744073709551616+f<b*18446744073709551616+g:=by unfold nT;split<;>split<;>(try split)<;>(try split)<;>(try split)<;>omega
def qkt{x y:aA.q}(a:0<=x.1/\x.1<18446744073709551616)(b:0<=y.1/\y.1<18446744073709551616):(tA.f (x,y,())).1<0↔Cc x<Cc y:=by have e:(tA.f (x,y,())).1=(AH.f ([nT x.2.1.1 y.2.1.1,nT x.1 y.1],())).1:=rfl;rw[e,zib];exact qku a b
def yB(c:ar.q)(a b:Int):Int:=
 bif bif bif !(kZ.f (c,())).1 then Z else J (a<0)then Z else J (b<0)then 0
 else (nQ.f ((AJ.f (c,(AI.f (c,a,())).1,())).1,[I6.wrap (c.2.2.1-b)],())).1
def A9:Ct:=⟨[.d ar,.d i64,.d i64],[i64],λx=>(yB x.1 x.2.1 x.2.2.1,()),λ_=>[]⟩
def Nw{d:List PT}{g:ap d->aa [i64]}{ok:ap d->List Prop}(h:ag prog f ⟨d,[i64],g,ok⟩){xs:ap d}(l:∀ b,F b->b<w.heap.size)(m:dm prog w F d xs vs)(i:az (ok xs)):
  Calls prog f vs.toArray w λe w'=>e=.returned (.int .i64 (g xs).1)/\Go.Ab.inR .i64 (g xs).1/\Below w.heap.size w w':=by
 refine(h.2 w F xs vs l m i).mono ?_;rintro e w' ⟨v,k,rfl,a,_,_,n⟩;have c:aK prog w' k (λ_ _=>True) (eR i64 (g xs).1) v:=iH n;exact⟨by rw[c.2.1],c.2.2,a⟩
def qd3(n:Int):wrap64 n=I6.wrap n:=by unfold wrap64;rw[udf]
def tL(c:ar.q):Value:=.agg #[.int .i64 c.1,.int .i64 c.2.1,.int .i64 c.2.2.1,.int .i64 c.2.2.2.1,.int .i64 c.2.2.2.2.1]
def qpq{c:ar.q}(h:bJ w F ar c v):v=tL c:=by
 obtain⟨d,rfl⟩:=h.2.1.1 rfl;have m:d.size=5:=h.1;obtain⟨e,f,g,k,l,_⟩:=h.2.2;unfold tL;congr 1;apply ufp;exact m;intro i a b
 match i,a,b with
 |0,h,_=>exact ud4 ((uam h).symm.trans e.1)
 |1,h,_=>exact ud4 ((uam h).symm.trans f.1)
 |2,h,_=>exact ud4 ((uam h).symm.trans g.1)
 |3,h,_=>exact ud4 ((uam h).symm.trans k.1)
 |4,h,_=>exact ud4 ((uam h).symm.trans l.1)
def zjf (p r g s t a c:Int) (A:Bool) (f i:Int->Int) (k:Int->Int->Int)
  (y:∀ W,Calls prog 101 #[.agg #[.int .i64 p,.int .i64 r,.int .i64 g,.int .i64 s,.int .i64 t]] W λe w'=>e=.returned (.bool A)/\Below W.heap.size W w')
  (N:∀ W,Calls prog 102 #[.agg #[.int .i64 p,.int .i64 r,.int .i64 g,.int .i64 s,.int .i64 t],.int .i64 a] W λe w'=>e=.returned (.int .i64 (f a))/\Go.Ab.inR IntKind.i64 (f a)/\Below W.heap.size W w')
  (P:∀ W,Go.Ab.inR IntKind.i64 (f a)->Calls prog 103 #[.agg #[.int .i64 p,.int .i64 r,.int .i64 g,.int .i64 s,.int .i64 t],.int .i64 (f a)] W λe w'=>e=.returned (.int .i64 (i (f a)))/\Go.Ab.inR IntKind.i64 (i (f a))/\Below W.heap.size W w')
  (O:∀ W b,Go.Ab.inR IntKind.i64 (i (f a))->W.heap[b]?= U (.cells #[.int .i64 (wrap64 (g-c))] 3 (0,0))->Calls prog 104 #[.int .i64 (i (f a)),.slice (U ⟨b,0,V⟩) 1 1] W λe w'=>e=.returned (.int .i64 (k (i (f a)) (wrap64 (g-c))))/\Go.Ab.inR IntKind.i64 (k (i (f a)) (wrap64 (g-c)))/\Below W.heap.size W w')
  (w:World) :
  Calls prog 63 #[.agg #[.int .i64 p,.int .i64 r,.int .i64 g,.int .i64 s,.int .i64 t],.int .i64 a,.int .i64 c] w λe w'=>e=.returned (.int .i64 (bif bif bif !A then Z else J (a<0)then Z else J (c<0)then 0 else k (i (f a)) (wrap64 (g-c))))/\Go.Ab.inR IntKind.i64 (bif bif bif !A then Z else J (a<0)then Z else J (c<0)then 0 else k (i (f a)) (wrap64 (g-c)))/\Below w.heap.size w w':=by
 have v:=(ufk _ w).alloc (ufb _) (.cells #[.int .i64 p,.int .i64 r,.int .i64 g,.int .i64 s,.int .i64 t] 47);have C:=World.alloc_heap_new w (.cells #[.int .i64 p,.int .i64 r,.int .i64 g,.int .i64 s,.int .i64 t] 47)
 go_enter func63,ntmps63
 have fin:=λl (h:Below _ _ l)=>v.trans (h.mono v.size);cases A
 ·go_wp2_with (first
   |(go_at_call 101;refine(y _).mono ?_;rintro e l ⟨rfl,d⟩))
  go_ret
  exact⟨rfl,DE .i64,fin _ d⟩
 by_cases H:a<0
 ·go_wp2_with (first
   |(go_at_call 101;refine(y _).mono ?_;rintro e l ⟨rfl,d⟩))
  go_ret
  have z:(bif bif bif !Z then Z else J (a<0)then Z else J (c<0)then 0 else k (i (f a)) (wrap64 (g-c)))=0:=by simp[H]
  rw[z];exact⟨rfl,DE .i64,fin _ d⟩
 by_cases K:c<0
 ·go_wp2_with (first
   |(go_at_call 101;refine(y _).mono ?_;rintro e l ⟨rfl,d⟩))
  go_ret
  have z:(bif bif bif !Z then Z else J (a<0)then Z else J (c<0)then 0 else k (i (f a)) (wrap64 (g-c)))=0:=by simp[K]
  rw[z];exact⟨rfl,DE .i64,fin _ d⟩
 have u:(bif bif bif !Z then Z else J (a<0)then Z else J (c<0)then 0 else k (i (f a)) (wrap64 (g-c)))=k (i (f a)) (wrap64 (g-c)):=by simp[H,K]
 rw[u]
 go_wp2_with (first
   |(go_at_call 101;refine(y _).mono ?_;rintro e l ⟨rfl,d⟩
     have n:=(d.block _ (by simp)).trans C;have T:=cn n 0;have k1:=cn n 1;have k2:=cn n 2;have k3:=cn n 3;have k4:=cn n 4;simp at T k1 k2 k3 k4))
 have D:=λo=>(fin _ d).alloc (fin _ d).size o;have lt:=(uaf.1 n).1;refine wp_loop_rounds 3 ?_;rw[rounds_succ]
 go_wp2_with (first
  |(go_at_call 102;refine(N _).mono ?_;rintro e w2 ⟨rfl,n2,m⟩
    have M:=(m.block l.heap.size (by simp)).trans (World.alloc_heap_new l _);have L:=(m.block w.heap.size (by simp;omega)).trans ((udb l _ _ lt).trans n);have R:=cn M 0;have S:=cn M 1;simp at R S))
 rw[rounds_succ]
 go_wp2_with (first
  |(go_at_call 103;refine(P _ n2).mono ?_;rintro e w3 ⟨rfl,n3,x⟩
    have x3:=(x.block _ (uaf.1 L).1).trans L;have Q:=cn x3 2;simp at Q))
 rw[rounds_succ]
 go_wp2_with (first
  |(go_at_call 104;refine(O _ _ n3 (World.alloc_heap_new _ _)).mono ?_;rintro e w4 ⟨rfl,n4,B⟩))
 go_ret
 have E:=(D _).trans (m.mono (D _).size);have F:=E.trans (x.mono E.size);have G:=λo=>F.alloc F.size o;exact⟨rfl,n4,(G _).trans (B.mono (G _).size)⟩
def Zt:ag prog 63 A9:=by
 refine⟨enters_of func63 (by kernel_rfl) rfl,λw F xs vs hbd hr _=>?_⟩;obtain⟨c,loss,used,_⟩:=xs;obtain⟨v,vs',rfl,hv,hn⟩:=hr;obtain⟨rfl,hl,hu⟩:vs'=[.int .i64 loss,.int .i64 used]/\Go.Ab.inR IntKind.i64 loss/\Go.Ab.inR IntKind.i64 used:=by
  obtain⟨v1,vs1,rfl,h1,v2,vs2,rfl,h2,h3⟩:=hn;cases h3;obtain⟨e1,r1⟩:=rB (w:=w) (F:=F) (y:=(loss,())) ⟨v1,[],rfl,h1,rfl⟩;obtain⟨e2,r2⟩:=rB (w:=w) (F:=F) (y:=(used,())) ⟨v2,[],rfl,h2,rfl⟩;cases e1;cases e2;exact⟨rfl,r1,r2⟩
 obtain rfl:=qpq hv;have hv:bJ w F ar c (tL c):=hv;have hz:∀ b,(λ_:Nat=>False) b->b<0:=λ_ h=>h.elim;have cv:∀ W:World,bJ W (λ_=>False) ar c (tL c):=λW=>hv;have nn:∀ (W:World) (n:Int),Go.Ab.inR IntKind.i64 n->bJ W (λ_=>False) i64 n (.int .i64 n):=λW n hn=>⟨rfl,⟨λh=>(by cases h),λh=>(by obtain⟨_,h⟩:=h;cases h)⟩,rfl,hn⟩;have hR:=λW:World=>JE (w:=W) (F:=λ_=>False) (xs:=(c,())) (vs:=[tL c]) AX (λ_ h=>h.elim) ⟨_,_,rfl,cv W,rfl⟩ trivial;have hC:=λW:World=>Nw (w:=W) (F:=λ_=>False) (xs:=(c,loss,())) (vs:=[tL c,.int .i64 loss]) qmx (λ_ h=>h.elim) ⟨_,_,rfl,cv W,_,_,rfl,nn W loss hl,rfl⟩ trivial;have hS:=λ(W:World) (n:Int) (hn:Go.Ab.inR IntKind.i64 n)=>Nw (w:=W) (F:=λ_=>False) (xs:=(c,n,())) (vs:=[tL c,.int .i64 n]) qmy (λ_ h=>h.elim) ⟨_,_,rfl,cv W,_,_,rfl,nn W n hn,rfl⟩ trivial;have hL:=λ(W:World) (b:Nat) (n:Int) (hn:Go.Ab.inR IntKind.i64 n) (m:Int) (hm:Go.Ab.inR IntKind.i64 m) (hb:W.heap[b]?= some (.cells #[.int .i64 m] 3 (0,0)))=>
  Nw (w:=W) (F:=λq=>q=b) (xs:=(n,[m],())) (vs:=[.int .i64 n,.slice (some ⟨b,0,none⟩) 1 1]) SQ (λq h=>by rw[h];exact(uaf.1 hb).1)
   ⟨_,_,rfl,⟨rfl,⟨λh=>(by cases h),λh=>(by obtain⟨_,h⟩:=h;cases h)⟩,rfl,hn⟩,_,_,rfl,⟨rfl,⟨λh=>(by cases h),λh=>(by obtain⟨_,h⟩:=h;cases h)⟩,some ⟨b,0,none⟩,1,rfl,ufb _,(by decide),λi x hx=>⟨⟨b,0,none⟩,rfl,rfl,(by
    cases i with
    |zero=>
     cases hx;exact⟨cn hb 0,hm⟩
    |succ i=>cases hx)⟩⟩,rfl⟩ trivial
 refine(zjf c.1 c.2.1 c.2.2.1 c.2.2.2.1 c.2.2.2.2.1 loss used (kZ.f (c,())).1 (λn=>(AI.f (c,n,())).1) (λn=>(AJ.f (c,n,())).1) (λn m=>(nQ.f (n,[m],())).1)
  hR hC (λW h=>hS W _ h) (λW b h hb=>hL W b _ h _ (by rw[qd3];exact iQ _ _) hb) w).mono ?_
 rintro e w' ⟨rfl,hin,hbel⟩;have he:(A9.f (c,loss,used,())).1=(bif bif bif !(kZ.f (c,())).1 then true else decide (loss<0)then true else decide (used<0)then 0 else (nQ.f ((AJ.f (c,(AI.f (c,loss,())).1,())).1,[wrap64 (c.2.2.1-used)],())).1):=by
  rw[qd3];rfl
 exact⟨_,F,rfl,hbel,λ_ h=>h,λb hb=>⟨.inl hb,ucb (hbd b hb) hbel.size⟩,rfl,⟨λh=>(by cases h),λh=>(by obtain⟨_,h⟩:=h;cases h)⟩,ufu (λn=>some (Value.int IntKind.i64 n)) he.symm,he ▸ hin⟩
def KU:List (FuncId×Ct):=[(99,tA),(97,px),(63,A9)]
def T8:kj prog KU:=⟨qmr,qms,Zt,uT⟩
def QN:Cx:=dI KU [] (i6 (cx KU []).Γ 98 (rO 233 aA))
def Ai:CxOK prog QN:=dP aH T8 trivial (jg (aQ (ps:=[]) aH T8 trivial).ct zn9)
abbrev yW:Pt:=⟨123,2,⟨[(35,.d i64),(34,.d i64),(33,.d (.sl ba)),(8,.d i64),(27,.d i64),(26,.d i64),(25,.d (.sl aq)),(1,.d (.sl aq))],[.x 2 47 ar,.r 2 2 0,.o 7 233 aA]⟩,⟨[(27,.d i64),(26,.d i64),(25,.d (.sl aq)),(1,.d (.sl aq))],[.x 2 47 ar,.r 2 2 0,.o 7 233 aA]⟩,⟨[],[]⟩⟩
def zI(k:Int×(List ba.q)×Int×Int×Int×(List aq.q)×(List aq.q)×ar.q)(b:Prop)(i:Int)(e:ba.q)(s:(List aA.q)):Fr ((List aA.q)):=
 let a:=(k.2.2.1,e,());Jd b (Jd (s.length + [a].length<=maxLen/\(s.length + [a].length)*32<=140737488355328) (Jv (s++[a])))
def WM:Code:=((Go.Ab.loopB (au f61 0) 0).getD .skip)
def R6:yW.M.X->Fr yW.Out:=FG (λx=>(x.1.1,(x.1.2.1,x.1.2.2.1,x.1.2.2.2.1,x.1.2.2.2.2.1,x.1.2.2.2.2.2.1,x.1.2.2.2.2.2.2.1,x.1.2.2.2.2.2.2.2.1,x.2.1),x.2.2.1)) (λk=>k.1) (λk=>k.2.1) zI (λk s=>((k.2.2.2.1,k.2.2.2.2.1,k.2.2.2.2.2.1,k.2.2.2.2.2.2.1,()),(k.2.2.2.2.2.2.2,s,())))
def ze8:af prog (.loop WM) yW.M yW R6:=
 cX Ai (λi k s=>((i,k.1,k.2.1,k.2.2.1,k.2.2.2.1,k.2.2.2.2.1,k.2.2.2.2.2.1,k.2.2.2.2.2.2.1,()),k.2.2.2.2.2.2.2,s,())) ba.j
def zs2(a:Gm):St->Option Tr:=yW.han a yW.M R6
abbrev Hn:Pt:=⟨123,4,⟨[(57,.d i64),(56,.d i64),(14,.d i64)],[.x 2 47 ar,.r 2 2 0,.o 55 233 aA,.o 12 3 i64,.o 13 3 i64,.o 15 114 db]⟩,⟨[],[.o 15 114 db]⟩,⟨[],[]⟩⟩
def Dr(k:Int×ar.q×(List aA.q))(b:Prop)(i:Int)(e:aA.q)(s:Int×(List Int)×(List Int)×(List db.q)):Fr (Int×(List Int)×(List Int)×(List db.q)):=
 let n:=(s.2.1.length:Int);let m:=s.2.2.2;let h:=s.2.2.1;let l:=(h.length:Int);let d:=Int.toNat e.1;let c:=I6.wrap (s.2.1.getD d i64.j+e.2.1.2.2.1);let o:=s.2.1.set d c;let a:=(A9.f (k.2.1,o.getD d i64.j,I6.wrap (s.1-h.getD d i64.j),())).1-h.getD d i64.j;let g:=(e.1,e.2.1.1,I6.wrap a,());Jd b (Jd (Int.toNat i<k.2.2.length) (Jb (e.2.1.2.1 != 2) (Jv (s.1,s.2.1,h,m)) (Jd (0<=e.1/\e.1<n) (Jd (Int.toNat e.1<s.2.1.length) (Jd (0<=e.1/\e.1<n) (Jd (Int.toNat e.1<s.2.1.length) (Jd (0<=e.1/\e.1<(o.length:Int)) (Jd (Int.toNat e.1<o.length) (Jd (0<=e.1/\e.1<l) (Jd (Int.toNat e.1<h.length) (Jd (0<=e.1/\e.1<l) (Jd (Int.toNat e.1<h.length) (Jb (J (I6.wrap a<=0)) (Jv (s.1,s.2.1.set d c,h,m)) (Jd (0<=e.1/\e.1<l) (Jd (Int.toNat e.1<h.length) (Jd (0<=e.1/\e.1<l) (Jd (Int.toNat e.1<h.length) (Jd (m.length + [g].length<=maxLen/\(m.length + [g].length)*24<=140737488355328) (Jv (I6.wrap (s.1+I6.wrap a),s.2.1.set d c,h.set d (I6.wrap (h.getD d i64.j+I6.wrap a)),m++[g]))))))))))))))))))))
def qjq:Hn.M.X->Fr Hn.Out:=FG (λx=>(x.1.1,(x.1.2.1,x.2.1,x.2.2.1),(x.1.2.2.1,x.2.2.2.1,x.2.2.2.2.1,x.2.2.2.2.2.1))) (λk=>k.1) (λk=>k.2.2) Dr (λk s=>((),s.2.2.2,()))
def zfa:af prog (.loop (au f61 1)) Hn.M Hn qjq:=
 cX Ai (λi k s=>((i,k.1,s.1,()),k.2.1,k.2.2,s.2.1,s.2.2.1,s.2.2.2,())) aA.j
def MW:=λk s=>bw (Dr k True) 0 k.2.2 s
def YJ:=λk s=>bY (Dr k True) 0 k.2.2 s
abbrev Hm:Pt:=⟨123,0,⟨[(27,.d i64),(26,.d i64),(25,.d (.sl aq)),(1,.d (.sl aq))],[.x 2 47 ar,.r 2 2 0,.o 7 233 aA]⟩,⟨[(1,.d (.sl aq))],[.x 2 47 ar,.r 2 2 0,.o 7 233 aA]⟩,⟨[],[]⟩⟩
def If(k:Int×(List aq.q)×(List aq.q)×ar.q)(b:Prop)(i:Int)(e:aq.q)(s:(List aA.q)):Fr ((List aA.q)):=
 let d:=List.length e.2.1;let c:=List.drop (Int.toNat 0) e.2.1;let a:=zI ((d:Int),e.2.1,i,i,k.1,k.2.1,k.2.2.1,k.2.2.2) True;Jd b (Jd (InK ((d:Int)) 0 d) (Jd (bY a 0 c s) (Jv (bw a 0 c s))))
def qjp:Hm.M.X->Fr Hm.Out:=FG (λx=>(x.1.1,(x.1.2.1,x.1.2.2.1,x.1.2.2.2.1,x.2.1),x.2.2.1)) (λk=>k.1) (λk=>k.2.1) If (λk s=>((k.2.2.1,()),(k.2.2.2,s,())))
def ze9:af prog (.loop (au f61 0)) Hm.M Hm qjp:=
 cX Ai (λi k s=>((i,k.1,k.2.1,k.2.2.1,()),k.2.2.2,s,())) aq.j (Λ:=(λ_=>zs2 QN.Γ)) (hΛ:=λ_=>nc (by kernel_rfl) (b:=WM) (by kernel_rfl) (af.han Ai rfl ze8))
def xN:=λk s=>bw (If k True) 0 k.2.1 s
def YI:=λk s=>bY (If k True) 0 k.2.1 s
def Jr:(aZ aA).q:=(λx=>tA.f x,λx=>az (tA.ok x))
def ki(s:List aA.q):List aA.q:=dp (aR Jr) s
def lH(n:Nat):List Int:=Lrp (Int.toNat (n:Int)) 0
def xB(x:ap [.d ar,.d (.sl aq)]):Fr (aa [.sl db,i64]):=
 Jd (dC x.2.1) (Jb ((px.f x).1 != 0) (Jv ([],(px.f x).1,()))
  (cT (InK ((List.length x.2.1):Int) 0 (List.length x.2.1)) (YI (((List.length x.2.1):Int),x.2.1,x.2.1,x.1) []) (xN (((List.length x.2.1):Int),x.2.1,x.2.1,x.1) []) (λa=>
   Jd ((a.length:Int)<=4611686018427387903) (Jd (jD Jr a) (Jd (yk (List.length x.2.1) 8) (Jd (yk (List.length x.2.1) 8)
    (cT (InK ((ki a).length:Int) 0 (ki a).length) (YJ (((ki a).length:Int),x.1,ki a) (0,lH (List.length x.2.1),lH (List.length x.2.1),[])) (MW (((ki a).length:Int),x.1,ki a) (0,lH (List.length x.2.1),lH (List.length x.2.1),[])) (λr=>Jv (r.2.2.2,0,())))))))))
def qtd:ag prog 61 (bg [.d ar,.d (.sl aq)] [.sl db,i64] xB):=
 oc Ai ze9 zfa (fn:=f61)
def nx(n:Nat)(s:List aA.q):Prop:=∀ x∈s,0<=x.1/\x.1<(n:Int)
def zi1(k:Int×(List ba.q)×Int×Int×Int×(List aq.q)×(List aq.q)×ar.q)(n:Nat)(d:0<=k.2.2.1/\k.2.2.1<(n:Int))(s:List aA.q)(g:nx n s)(i:s.length+k.2.1.length<=4000):
  bY (zI k True) 0 k.2.1 s/\(bw (zI k True) 0 k.2.1 s).length=s.length+k.2.1.length/\nx n (bw (zI k True) 0 k.2.1 s):=
 dK (step:=zI k True) (λj (r:List aA.q)=>r.length=s.length+j/\nx n r) k.2.1 (λj e r c b=>by
  have l:=eO c;have m:=fI;have f:=b.1;refine⟨uT,?_,?_,λx a=>?_⟩;show r.length+1<=maxLen/\(r.length+1)*32<=140737488355328;omega;rw[ub6];show r.length+1=_;omega;rcases udt.1 a with h|h
  exact b.2 x h;rw[ucf.1 h];exact d) s ⟨rfl,g⟩
def zo1{l:List aq.q}(i:Nat):fu (l.take i)<=fu l:=by
 have:fu l=fu (l.take i)+fu (l.drop i):=by
  conv=>lhs;rw[<- uba i l]
  unfold fu;rw[udx,List.sum_append]
 omega
def Zi(c:ar.q)(l:List aq.q)(t:l.length<=2000)(u:fu l<=2000):
  YI ((l.length:Int),l,l,c) []/\(xN ((l.length:Int),l,l,c) []).length=fu l/\nx l.length (xN ((l.length:Int),l,l,c) []):=by
 have a:=dK (step:=If ((l.length:Int),l,l,c) True) (λi (s:List aA.q)=>s.length=fu (l.take i)/\nx l.length s) l (λi e s b d=>by
  have m:=eO b;have f:=qby b;have r:=zo1 (l:=l) (i+1);have g:=d.1;have k:s.length+List.length (α:=ba.q) e.2.1<=4000:=by omega
  obtain⟨n,o,p⟩:=zi1 ((List.length (α:=ba.q) e.2.1:Int),e.2.1,(i:Int),(i:Int),(l.length:Int),l,l,c) l.length ⟨ub4 _,Int.ofNat_lt.2 m⟩ s d.2 k;refine⟨uT,eU (show List.length (α:=ba.q) e.2.1<=1000000000 by omega),n,o.trans ?_,p⟩;rw[f,g]) [] ⟨rfl,λ_ h=>(nomatch h)⟩
 rw[List.take_length]at a;exact a
def toNat_lt(h:0<=a/\a<(n:Int)):Int.toNat a<n:=by omega
structure PdI (n i:Nat) (s:Int×(List Int)×(List Int)×(List db.q)):Prop where
 a:s.2.1.length=n
 b:s.2.2.1.length=n
 len:s.2.2.2.length<=i
 at_:∀ x∈s.2.2.2,0<=x.1/\x.1<(n:Int)
def zi3(k:Int×ar.q×(List aA.q))(n:Nat)(z:nx n k.2.2)(B:k.2.2.length<=4000)(s:Int×(List Int)×(List Int)×(List db.q))(w:PdI n 0 s):
  YJ k s/\PdI n k.2.2.length (MW k s):=
 dK (step:=Dr k True) (PdI n) k.2.2 (λi e s p h=>by
  have y:=eO p;have C:=fI;have c:=z e (ubg p);have m:Int.toNat e.1<n:=toNat_lt c;have u:0<=e.1/\e.1<(s.2.1.length:Int):=by rw[h.a];exact c
  have f:0<=e.1/\e.1<(s.2.2.1.length:Int):=by rw[h.b];exact c
  have t:Int.toNat e.1<s.2.1.length:=by rw[h.a];exact m
  have d:Int.toNat e.1<s.2.2.1.length:=by rw[h.b];exact m
  have g:∀ v,(s.2.1.set (Int.toNat e.1) v).length=n:=λv=>by rw[udp];exact h.a
  have A:∀ v,(s.2.2.1.set (Int.toNat e.1) v).length=n:=λv=>by rw[udp];exact h.b
  have r:=h.len;refine⟨uT,(ou y rfl).2,λ_=>⟨h.a,h.b,uc3 h.len,h.at_⟩,λ_=>⟨u,t,u,t,by rw[g];exact c,by rw[g];exact m,f,d,f,d,λ_=>⟨g _,h.b,uc3 h.len,h.at_⟩,λ_=>⟨f,d,f,d,?_,?_⟩⟩⟩;show s.2.2.2.length+1<=maxLen/\(s.2.2.2.length+1)*24<=140737488355328;omega;refine⟨g _,A _,?_,λx o=>?_⟩;show(_++[_]).length<=i+1;rw[ub6];exact udk h.len;rcases udt.1 o with l|l
  exact h.at_ x l;rw[ucf.1 l];exact c) s w
def Xq(b:n<=1000000)(h:0<=a/\a<(n:Int)):0<=a/\a<18446744073709551616:=by omega
def zic(a:n<=1000000){s:List aA.q}(h:nx n s):jD Jr s:=by refine⟨λ_ _ _ _=>uT,Cc,λx d y e=>?_⟩;have b:=h x d;have c:=h y e;show J ((tA.f (x,y,())).1<0)=J (Cc x<Cc y);exact udh.2 (qkt (Xq a b) (Xq a c))
def Qh(n:Nat):(lH n).length=n:=by unfold lH;rw[ubc,uc0]
def RN(l:List aq.q)(y:aa [.sl db,i64]):Prop:=List.length (α:=db.q) y.1<=4000/\(∀ x:db.q,x∈(y.1:List db.q)->0<=x.1/\x.1<(l.length:Int))/\(y.2.1=0->l.length<=2000)
def Zm(c:ar.q)(l:List aq.q)(h:dC l):(xB (c,l,())).s7 (RN l):=by
 unfold xB;refine⟨h,λi=>⟨ufh _,λ_ h=>(nomatch h),λp=>?_⟩,λi=>?_⟩;have a:((px.f (c,l,())).1 != 0)=true:=i;have e:(px.f (c,l,())).1=0:=p;rw[e]at a;cases a;have a:(px.f (c,l,())).1=0:=by simpa using i
 obtain⟨b,t⟩:=Tk c l h a;have g:l.length<=1000000:=uep b (by decide);refine ii (A:=λ(s:List aA.q)=>s.length=fu l/\nx l.length s) (eU (uep b (by decide))) (Zi c l b t) (λs d=>?_);have m:(ki s).length<=4000:=by unfold ki;rw[oS,d.1];omega
 have k:nx l.length (ki s):=λx u=>d.2 x (zw.1 u);have n:=d.1;refine⟨by omega,zic g d.2,Ch g (by decide),Ch g (by decide),ii (A:=PdI l.length (ki s).length) (eU (uep m (by decide))) (zi3 (((ki s).length:Int),c,ki s) l.length k m _ ⟨Qh _,Qh _,ufb _,λ_ h=>(nomatch h)⟩) (λr o=>⟨uep o.len m,o.at_,λ_=>b⟩)⟩
def dO:Ct:=⟨[.d ar,.d (.sl aq)],[.sl db,i64],λx=>(xB x).get,λx=>[dC x.2.1]⟩
def qmo:ag prog 61 dO:=cq qtd _ (λx _ a=>(dt (Zm x.1 x.2.1 a)).1)
def Zl(c:ar.q)(l:List aq.q)(h:dC l):RN l (dO.f (c,l,())):=(dt (Zm c l h)).2
def qh0:Cx:=cx [(61,dO),(63,A9),(62,EH)] []
def DO:CxOK prog qh0:=aQ aH ⟨qmo,Zt,qmt,uT⟩ trivial
abbrev Hb:Pt:=⟨92,0,⟨[(28,.d i64),(27,.d i64),(26,.d (.sl aq)),(6,.d (.sl db))],[.x 2 47 ar,.r 2 2 0,.o 8 52 aC]⟩,⟨[(6,.d (.sl db))],[.x 2 47 ar,.r 2 2 0,.o 8 52 aC]⟩,⟨[],[]⟩⟩
def Di(k:Int×(List aq.q)×(List db.q)×ar.q)(b:Prop)(i:Int)(e:aq.q)(s:(List aC.q)):Fr ((List aC.q)):=
 let a:=EH.f (e,());Jd b (Jd (s.length + [a.1].length<=maxLen/\(s.length + [a.1].length)*48<=140737488355328) (Jv (s++[a.1])))
def qi7:Hb.M.X->Fr Hb.Out:=FG (λx=>(x.1.1,(x.1.2.1,x.1.2.2.1,x.1.2.2.2.1,x.2.1),x.2.2.1)) (λk=>k.1) (λk=>k.2.1) Di (λk s=>((k.2.2.1,()),(k.2.2.2,s,())))
def zd3:af prog (.loop (au f26 0)) Hb.M Hb qi7:=
 cX DO (λi k s=>((i,k.1,k.2.1,k.2.2.1,()),k.2.2.2,s,())) aq.j
def rA:=λk s=>bw (Di k True) 0 k.2.1 s
def Y5:=λk s=>bY (Di k True) 0 k.2.1 s
abbrev Hc:Pt:=⟨92,2,⟨[(40,.d i64),(39,.d i64),(38,.d (.sl db)),(11,.d i64)],[.x 2 47 ar,.r 2 2 0,.o 8 52 aC]⟩,⟨[(11,.d i64)],[.x 2 47 ar,.r 2 2 0,.o 8 52 aC]⟩,⟨[],[]⟩⟩
def Dj(k:Int×(List db.q)×ar.q)(b:Prop)(i:Int)(e:db.q)(s:Int×(List aC.q)):Fr (Int×(List aC.q)):=
 let l:=Int.toNat 2;let h:=(s.2.length:Int);let g:=e.2.2.1;let d:=Int.toNat 0;let a:=[e.1,e.2.1,g].getD d 0;let c:=s.2.getD a.toNat aC.j;Jd b (Jd ((0:Int)<=0/\0<(3:Int)) (Jd (0<=[e.1,e.2.1,g].getD d 0/\[e.1,e.2.1,g].getD d 0<h) (Jd (a.toNat<s.2.length) (Jd ((0:Int)<=2/\2<(3:Int)) (Jd (0<=[e.1,e.2.1,g].getD d 0/\[e.1,e.2.1,g].getD d 0<h) (Jd (a.toNat<s.2.length) (Jd ((0:Int)<=2/\2<(3:Int)) (Jv (I6.wrap (s.1 + [e.1,e.2.1,g].getD l 0),s.2.set a.toNat (c.1,c.2.1,I6.wrap (c.2.2.1 + [e.1,e.2.1,g].getD l 0),c.2.2.2))))))))))
def qi8:Hc.M.X->Fr Hc.Out:=FG (λx=>(x.1.1,(x.1.2.1,x.1.2.2.1,x.2.1),(x.1.2.2.2.1,x.2.2.1))) (λk=>k.1) (λk=>k.2.1) Dj (λk s=>((s.1,()),(k.2.2,s.2,())))
def zd4:af prog (.loop (au f26 1)) Hc.M Hc qi8:=
 cX DO (λi k s=>((i,k.1,k.2.1,s.1,()),k.2.2,s.2,())) db.j
def uf:=λk s=>bw (Dj k True) 0 k.2.1 s
def Y6:=λk s=>bY (Dj k True) 0 k.2.1 s
end Go.Proofs.YtdadnmgajcfkfaaGreat
