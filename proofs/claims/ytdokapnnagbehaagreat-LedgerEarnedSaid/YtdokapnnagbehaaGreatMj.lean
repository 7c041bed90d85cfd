/-
  Parts of the proof, one behind the other.
-/
import Derived.Test.YtdokapnnagbehaaGreatMi
import Derived.Defers
import Derived.MapKept
import Derived.Carry
import Derived.WalkKit
set_option linter.all false
set_option maxRecDepth 100000
set_option maxHeartbeats 4000000
open Option renaming some->U,none->V
open Bool renaming true->Z,false->Y
open Decidable renaming decide->J
open Go Go.RowKit
variable {T α σ ρ β:Type} {P:Program} {ad:Addr} {arr cs cur:Array Value} {f:FuncId} {x a y day:Int} {k:IntKind} {l:List Int} {xs vs news:List Value} {off i n b c d j B m len:Nat} {F F' K:Nat->Prop} {R g R':Nat->Value->Prop} {o:Oper} {p:Prop} {e ety t ty el:TypeId} {v u vx:Value} {w w' W' W:World}
namespace Go.Proofs.YtdokapnnagbehaaGreat
open Go Go.Ab Go.RowKit Go.Proofs Tryz
open Go.Ab.Fr renaming val->Jv,need->Jd,br->Jb
abbrev sD:Type:=Bool×dG.den×List ak.den
def kp(s:aB.den):sD:=(s.2.1,s.2.2.1,s.2.2.2.1)
def qxv{a b:dG.den}:yP a b=Z↔a=b:=by
 obtain⟨g,i,j,k,_⟩:=a;constructor;intro h;simp only[yP,udc,ufh]at h;obtain⟨c,d,e,f,_⟩:=h;rw[c,d,e,f];intro h;cases h;simp[yP]
def Rw{a b:aB.den}:ni a b=Z↔kp a=kp b:=by
 unfold ni kp;simp only[udc,ufh,qxv,KI,ueg]
def fh(c:Int->sD)(b:Int):Int->List aB.den->Prop
 |a,[]=>a=b
 |a,s::l=>s.1.1=a/\a<s.1.2.1/\s.2.2.2.2.1=(0:Int)/\(∀ d,a<=d->d<s.1.2.1->kp s=c d)/\(∀ t∈l.head?,kp s≠kp t)/\fh c b s.1.2.1 l
def fh.le{c:Int->sD}{b:Int}:{a:Int} -> {l:List aB.den}->fh c b a l->a<=b
 |a,[],h=>Int.le_of_eq h
 |a,s::l,h=>ue3 (uet h.2.1) (fh.le h.2.2.2.2.2)
def fh.at_{c:Int->sD}{b:Int}{s:aB.den}{l:List aB.den}(h:fh c b a (s::l)):kp s=c a:=h.2.2.2.1 a (ufa a) h.2.1
def iW:List aB.den->aB.den->List aB.den
 |[],s=>[s]
 |[x],s=>if ni x s=Z then [((x.1.1,s.1.2.1,()),x.2)]else [x,s]
 |x::y::r,s=>x::iW (y::r) s
def qws(s:aB.den):(y:aB.den)->(r:List aB.den)->∃ a b,iW (y::r) s=a::b/\kp a=kp y
 |y,[]=>by
  unfold iW;split;exact⟨_,_,rfl,rfl⟩;exact⟨_,_,rfl,rfl⟩
 |y,z::r=>⟨y,_,rfl,rfl⟩
def fh.push{u:Int->sD}{m n:Int}{s:aB.den}(b:s.1.1=m/\s.1.2.1=n/\s.2.2.2.2.1=(0:Int))(f:m<n)(g:∀ d,m<=d->d<n->kp s=u d):{a:Int} -> {l:List aB.den}->fh u m a l->fh u n a (iW l s)
 |a,[],h=>by
  have w:=h;subst w;refine⟨b.1,by rw[b.2.1];exact f,b.2.2,λd i j=>g d i (by rw[b.2.1]at j;exact j),λt c=>(by cases c),b.2.1⟩
 |a,[x],h=>by
  have q:=h.2.2.2.2.2;unfold iW;by_cases o:ni x s=Z;rw[ufv o];have k:=Rw.1 o;refine⟨h.1,?_,h.2.2.1,λd i j=>?_,λt c=>(by cases c),?_⟩;show a<s.1.2.1;rw[b.2.1];have i:=h.2.1;rw[q]at i;exact Int.lt_trans i f;have p:d<n:=by
   have:d<s.1.2.1:=j;rw[b.2.1]at this;exact this
  by_cases v:d<m;exact h.2.2.2.1 d i (by rw[q];exact v);exact k.trans (g d (ufk.1 v) p);exact b.2.1;rw[ufw o];have k:=λe=>o (Rw.2 e);refine⟨h.1,h.2.1,h.2.2.1,h.2.2.2.1,λt c=>?_,?_⟩;simp at c;subst c;exact k;rw[q];exact⟨b.1,by rw[b.2.1];exact f,b.2.2,λd i j=>g d i (by rw[b.2.1]at j;exact j),λt c=>(by cases c),b.2.1⟩
 |a,x::y::r,h=>by
  refine⟨h.1,h.2.1,h.2.2.1,h.2.2.2.1,λt c=>?_,fh.push b f g h.2.2.2.2.2⟩;obtain⟨A,z,e,k⟩:=qws s y r;rw[e]at c;simp at c;subst c;rw[k];exact h.2.2.2.2.1 y (by simp)
def OJ(h:aC.den):List az.den:=(bE h).map (bZ h)
def mP(a:aB.den)(out:List aB.den)(day:Int):List aB.den:=
 if a.1.1=day then out else iW out ((a.1.1,day,()),a.2)
def lG:List az.den->aB.den->List aB.den->aB.den×List aB.den
 |[],a,out=>(a,out)
 |c::l,a,out=>lG l (Bl ((c.2.1,a.1.2.1,()),a.2) c) (mP a out c.2.1)
def Th(h:aC.den):aB.den:=((h.2.2.1.1.1,0,()),Z,h.2.2.1.2.1,h.2.2.1.2.2.1,0,())
def eH(h:aC.den):List aB.den:=mP (lG (OJ h) (Th h) []).1 (lG (OJ h) (Th h) []).2 h.2.2.1.1.2.1
abbrev lX:Pt:=⟨68,0,⟨[(5,.d i64)],[.x 2 114 aC,.r 2 2 0,.x 3 24 zll,.r 3 3 0]⟩,⟨[],[.x 3 24 zll,.r 3 3 0]⟩,⟨[(4,.d .bool)],[]⟩⟩
abbrev sg:Type:=ag []×cR [.x 2 114 aC,.r 2 2 0,.x 3 24 zll,.r 3 3 0]
def wg(e:az.den)(s:sg):Fr (sg ⊕ lX.R.X):=
 Jb (J (((List.length e.2.2.2.2.1):Int)>50)) (Jv (.inr ((Y,()),()))) (Jv (.inl ((),s.2.1,(s.2.2.1.1,()),())))
def lj(x:lX.M.X):Int×List az.den×sg:=(x.1.1,x.2.1.2.2.2.1,x.1.2,x.2)
def Rg(x:lX.M.X):Prop:=True
def rA(s:sg):lX.E.X:=((),(s.2.2.1.1,()),())
def qK:sg:=(aW _,bN _)
def Hq:lX.R.X:=(aW _,bN _)
def qsy:ae prog (.loop (au f52 0)) lX.M lX (FL wg lj Rg rA Rd.back qK Hq):=
 qf aH (λ_ _=>.n .o) az.dflt (λx=>((x.2.1.2.2.2.1.length:Nat):Int)) (λx s=>((I6.wrap (x.1.1+1),s.1),s.2)) (λ_ _=>rfl)
def md(y:lX.M.X):sg ⊕ lX.R.X:=dt wg ((lj y).2.1.drop (lj y).1.toNat) (lj y).2.2
def T6(y:lX.M.X):Prop:=jo wg ((lj y).2.1.drop (lj y).1.toNat) (lj y).2.2
abbrev lY:Pt:=⟨68,2,⟨[(6,.d i64)],[.x 3 24 zll,.r 3 3 0]⟩,⟨[],[]⟩,⟨[(4,.d .bool)],[]⟩⟩
abbrev zms:Type:=ag []×cR [.x 3 24 zll,.r 3 3 0]
def zo(e:aQ.den)(s:zms):Fr (zms ⊕ lY.R.X):=
 Jb (bif bif J (((List.length e.2.2.1):Int)>200)then Z else J (((List.length e.2.2.2.1):Int)>200)then Z else J (((List.length e.2.2.2.2.1):Int)>200)) (Jv (.inr ((Y,()),()))) (Jv (.inl ((),(s.2.1.1,()),())))
def pT(x:lY.M.X):Int×List aQ.den×zms:=(x.1.1,x.2.1.1,x.1.2,x.2)
def Rh(x:lY.M.X):Prop:=True
def qvo(s:zms):lY.E.X:=((),())
def qe2:zms:=(aW _,bN _)
def Hr:lY.R.X:=(aW _,bN _)
def qsz:ae prog (.loop (au f52 1)) lY.M lY (FL zo pT Rh qvo Rd.back qe2 Hr):=
 qf aH (λ_ _=>.n .o) aQ.dflt (λx=>((x.2.1.1.length:Nat):Int)) (λx s=>((I6.wrap (x.1.1+1),s.1),s.2)) (λ_ _=>rfl)
def D2(y:lY.M.X):zms ⊕ lY.R.X:=dt zo ((pT y).2.1.drop (pT y).1.toNat) (pT y).2.2
def T7(y:lY.M.X):Prop:=jo zo ((pT y).2.1.drop (pT y).1.toNat) (pT y).2.2
def qjz(x:ag [.d aC,.d zll]):Fr (aa [.bool]):=
 let a:=((0,()),x.1,(x.2.1.1,()),());let g:=md a;let c:=((0,()),((rA (dO qK g)).2.1.1,()),());let b:=D2 ((0,()),((rA (dO qK (dt wg (List.drop (lj a).1.toNat (lj a).2.1) (lj a).2.2))).2.1.1,()),());Jb (bif bif J (((List.length x.1.2.2.2.1):Int)>60)then Z else J (((List.length x.2.1.1):Int)>100)then Z else J (((List.length x.1.2.2.1.2.2.1):Int)>50)) (Jv (Y,())) (Jd (InL (Rg a) (lj a)) (Jd (T6 a) (Jb (dF g) (Jd (InL (Rh c) (pT c)) (Jd (T7 c) (Jb (dF b) (Jv (Z,())) (Jv ((zej Hr b).1.1,()))))) (Jv ((zej Hq g).1.1,())))))
def qj0:af prog 52 (bg [.d aC,.d zll] [.bool] qjz):=
 oP aH qsy qsz
def qV(c:az.den):Bool:=J (c.2.2.2.2.1.length<=50)
def tV(v:aQ.den):Bool:=J (v.2.2.1.length<=200)&&(J (v.2.2.2.1.length<=200)&&J (v.2.2.2.2.1.length<=200))
def mW(h:aC.den)(t:zll.den):Bool:=(J (h.2.2.2.1.length<=60)&&(J (t.1.length<=100)&&J (h.2.2.1.2.2.1.length<=50)))&&(h.2.2.2.1.all qV&&t.1.all tV)
def Gl:Ct:=⟨[.d aC,.d zll],[.bool],λx=>(mW x.1 x.2.1,()),λ_=>[]⟩
def rc(n:Nat)(k:Nat):J ((n:Int)>(k:Int))=!J (n<=k):=by
 rw[udx];simp only[ucv,ucu,uav];omega
def qhc(e:az.den)(s:sg):(wg e s).get=if qV e=Z then .inl s else .inr ((Y,()),()):=by
 show(if J ((e.2.2.2.2.1.length:Int)>(50:Nat))=Z then _ else _)=_;rw[rc];unfold qV;cases J (e.2.2.2.2.1.length<=50)<;>rfl
def qma(e:aQ.den)(s:zms):(zo e s).get=if tV e=Z then .inl s else .inr ((Y,()),()):=by
 show(if (bif bif J ((e.2.2.1.length:Int)>(200:Nat))then Z else J ((e.2.2.2.1.length:Int)>(200:Nat))then Z else J ((e.2.2.2.2.1.length:Int)>(200:Nat)))=Z then _ else _)=_;rw[rc,rc,rc];unfold tV;cases J (e.2.2.1.length<=200)<;>cases J (e.2.2.2.1.length<=200)<;>cases J (e.2.2.2.2.1.length<=200)<;>rfl
def P7(l:List T)(s:σ):gm (λ_ s=>s) l s=s:=by
 induction l with
 |nil=>rfl
 |cons e r a=>exact a
def qh1:af prog 52 Gl:=
 conv qj0 _ _ (λw F x vs y _=>by
  obtain⟨h,t,_⟩:=x;obtain⟨v,A,rfl,z,C,B,rfl,q,_⟩:=y;have r:=aA.wf z.2.2;have o:=aA.wf q.2.2;have n:=uB r.2.2.2.1.1;have k:=uB o.1.1;have g:=qt qhc h.2.2.2.1 ((),(h,(t,())));rw[Fq,P7]at g;have a:md ((0,()),(h,(t,())))=if h.2.2.2.1.all qV=Z then .inl ((),(h,(t,())))else .inr ((Y,()),()):=g
  have c:=qt qma t.1 ((),(t,()));rw[Fq,P7]at c;have d:D2 ((0,()),(t,()))=if t.1.all tV=Z then .inl ((),(t,()))else .inr ((Y,()),()):=c
  have u:∀ s,T6 s:=λs=>ph (step:=wg) (λe s=>⟨λ_=>uT,λ_=>uT⟩) _ _;have p:∀ s,T7 s:=λs=>ph (step:=zo) (λe s=>⟨λ_=>uT,λ_=>uT⟩) _ _;have j:(bif bif J ((h.2.2.2.1.length:Int)>(60:Nat))then Z else J ((t.1.length:Int)>(100:Nat))then Z else J ((h.2.2.1.2.2.1.length:Int)>(50:Nat)))=!(J (h.2.2.2.1.length<=60)&&(J (t.1.length<=100)&&J (h.2.2.1.2.2.1.length<=50))):=by
   rw[rc,rc,rc];cases J (h.2.2.2.1.length<=60)<;>cases J (t.1.length<=100)<;>cases J (h.2.2.1.2.2.1.length<=50)<;>rfl
  have f:dF (md ((0,()),(h,(t,()))))=Z->(rA (dO qK (md ((0,()),(h,(t,())))))).2.1=t:=by
   rw[a];cases h.2.2.2.1.all qV with
   |true=>exact λ_=>rfl
   |false=>exact λm=>(by cases m)
  have l:dF (md ((0,()),(h,(t,()))))=Z->(((rA (dO qK (md ((0,()),(h,(t,())))))).2.1.1.length:Int))<=9223372036854775807:=λm=>by
   rw[f m];exact k
  refine⟨⟨λ_=>uT,λ_=>⟨⟨uT,ufa _,ub4 _,n⟩,u _,λm=>⟨⟨uT,ufa _,ub4 _,l m⟩,p _,λ_=>uT,λ_=>uT⟩,λ_=>uT⟩⟩,?_⟩;show(if (bif bif J ((h.2.2.2.1.length:Int)>(60:Nat))then Z else J ((t.1.length:Int)>(100:Nat))then Z else J ((h.2.2.1.2.2.1.length:Int)>(50:Nat)))=Z then ((Y,()):Bool×Unit)else
   if dF (md ((0,()),(h,(t,()))))=Z then (if dF (D2 ((0,()),((rA (dO qK (md ((0,()),(h,(t,())))))).2.1,())))=Z then (Z,())else ((zej Hr (D2 ((0,()),((rA (dO qK (md ((0,()),(h,(t,())))))).2.1,())))).1.1,()))
   else ((zej Hq (md ((0,()),(h,(t,()))))).1.1,()))=(mW h t,())
  rw[j];unfold mW;by_cases b:h.2.2.2.1.all qV=Z;rw[ufv b]at a;rw[f (by rw[a];rfl),a,d,b];cases (J (h.2.2.2.1.length<=60)&&(J (t.1.length<=100)&&J (h.2.2.1.2.2.1.length<=50)))<;>cases t.1.all tV<;>rfl
  have i:h.2.2.2.1.all qV=false:=by simpa using b
  rw[a,i];cases (J (h.2.2.2.1.length<=60)&&(J (t.1.length<=100)&&J (h.2.2.1.2.2.1.length<=50)))<;>rfl)
def lv(a:Int):List cY.den->Int->Int
 |[],d=>d
 |b::r,d=>if b.1<a then lv a r d else b.2.1
def Oa:Ct:=⟨[.d (.sl cY),.d i64],[i64],λx=>(lv x.2.1 x.1 10000,()),λ_=>[]⟩
def Vb:Code->Code
 |.seq _ (.scope c)=>c
 |_=>.skip
def Ru:Code->Code
 |.seq a _=>a
 |_=>.skip
noncomputable def Aj:Code:=(f195.body.map Vb).getD .skip
noncomputable def NN:Code:=(f195.body.map Ru).getD .skip
noncomputable def NO:Code:=(findLabel Aj 0).getD .skip
def nQ:LS:=⟨[(0,.d (.sl cY)),(1,.d i64)],[]⟩
def rJ:Pt:=⟨20,0,nQ,⟨[],[]⟩,⟨[(4,.d i64)],[]⟩⟩
def HG(x:nQ.X):Fr rJ.Out:=
 match x with
 |((l,a,_),_)=>Jb ((l.length:Int)==0) (Jv (Rd.back ((10000,()),())))
  (Jd (0<=(0:Int)/\(0:Int)<l.length)
   (Jb (J ((l.getD (Int.toNat 0) cY.dflt).1<a))
    (Jd (0<=(U (1:Int)).getD 0/\(U (1:Int)).getD 0<=(none:Option Int).getD l.length/\(none:Option Int).getD l.length<=l.length)
     (Jv (Rd.next ((List.take ((none:Option Int).getD l.length-(U (1:Int)).getD 0).toNat (List.drop ((U (1:Int)).getD 0).toNat l),a,()),()))))
    (Jd (0<=(0:Int)/\(0:Int)<l.length) (Jv (Rd.back (((l.getD (Int.toNat 0) cY.dflt).2.1,()),()))))))
def Fc(x:nQ.X):Fr rJ.Out:=Jv (.back ((lv x.1.2.1 x.1.1 10000,()),()))
def qyp:gi prog 0 Aj nQ rJ HG:=gi.of_run aH (bs:=0) rfl rfl rfl (λ_=>aY _ 0) (λx=>by kernel_rfl)
def qyq:gi prog 0 NO nQ rJ HG:=gi.of_run aH (bs:=0) rfl rfl rfl (λ_=>aY _ 0) (λx=>by kernel_rfl)
def qbe (l:List cY.den) (a:Int) (Q:rJ.Out->Prop) (c:Q (.back ((lv a l 10000,()),()))) :
  (HG ((l,a,()),())).satP λ
   |.next g=>True/\g.1.1.length<l.length/\(Fc g).satP Q
   |.out y=>Q (.out y)
   |.back z=>Q (.back z)
   |.pan p=>Q (.pan p):=by
 cases l with
 |nil=>exact⟨λ_=>c,λh=>by cases h⟩
 |cons b r=>
  have f:(0:Int)<((b::r).length:Int):=by simp only[uc9];omega
  have i:(((b::r).length:Int)==0)=false:=by simp;omega
  refine⟨λh=>(by rw[i]at h;cases h),λ_=>⟨⟨ufa 0,f⟩,λh=>⟨⟨by decide,?_,ufa _⟩,uT,?_,?_⟩,λh=>⟨⟨ufa 0,f⟩,?_⟩⟩⟩;show(1:Int)<=((b::r).length:Int);omega;show(List.take (((b::r).length:Int)-1).toNat r).length<(b::r).length;rw[uc5];omega;show Q (.back ((lv a (List.take (((b::r).length:Int)-1).toNat r) 10000,()),()));have e:List.take (((b::r).length:Int)-1).toNat r=r:=ua3 (by simp);have d:=ucx h;rw[e];have:lv a (b::r) 10000=lv a r 10000:=ufv d;rw[<- this];exact c;have d:=uch h;have:lv a (b::r) 10000=b.2.1:=ufw d;rw[this]at c;exact c
def qbf:ae prog (.scope Aj) nQ rJ Fc:=
 gi.scope (n:=20) (id:=0) (N:=nQ) (rest:=NO) (by kernel_rfl) qyp qyq (inv:=λ_=>True) (μ:=λx=>x.1.1.length)
  (by
   rintro⟨⟨l,a,_⟩,_⟩ _ Q b;exact qbe l a Q b)
  (λ_ _ _=>uT)
def qbg:af prog 195 Oa:=
 cQ (QM (run:=sq (cr prog dB 0 bw NN 0) (rJ.han dB.Γ nQ Fc)) (fn:=f195) (c:=.seq NN (.scope Aj)) (ps:=[.d (.sl cY),.d i64]) (rs:=[i64])
  (fr:=λx=>Jv (lv x.2.1 x.1 10000,())) ([],0,()) (by kernel_rfl) (by kernel_rfl)
  (λE=>z8 (zmz aH (aY _ 0)) (ae.run aH rfl qbf)) (λx=>by kernel_rfl)) _ _ (λ_ _ _ _ _ _=>⟨uT,rfl⟩)
def yp:aQ.den:=(0,(0,0,0,0,()),[],[],[],0,())
def cq(day:Int):List aQ.den->aQ.den×Int
 |[]=>(yp,7)
 |v::r=>if v.1<=day then (v,0)else cq day r
def xC(T:Ty)(n:Nat)(x:ag [.d (.sl T)]):Fr (aa [.sl T]):=
 let a:=([]:List T.den);let b:=(a++x.1,());Jd (x.1=[] ->
   (Jb Z (Jv (a,())) (Jd (a.length+x.1.length<=maxLen/\(a.length+x.1.length)*n<=140737488355328) (Jv b))).ok /\
   (Jb Z (Jv (a,())) (Jd (a.length+x.1.length<=maxLen/\(a.length+x.1.length)*n<=140737488355328) (Jv b))).get =
    (Jb Y (Jv (a,())) (Jd (a.length+x.1.length<=maxLen/\(a.length+x.1.length)*n<=140737488355328) (Jv b))).get)
  (Jb Y (Jv (a,())) (Jd (a.length+x.1.length<=maxLen/\(a.length+x.1.length)*n<=140737488355328) (Jv b)))
def mB(T:Ty):Ct:=⟨[.d (.sl T)],[.sl T],λx=>(x.1,()),λx=>[x.1.length<=1000000]⟩
def Hc{T:Ty}(b:n<=1000){l:List T.den}(c:l.length<=1000000):(xC T n (l,())).ok/\(xC T n (l,())).get=(l,()):=by
 have a:([]:List T.den).length+l.length<=maxLen/\(([]:List T.den).length+l.length)*n<=140737488355328:=by
  refine⟨by simp;unfold maxLen;omega,?_⟩;have:(([]:List T.den).length+l.length)*n<=1000000*1000:=uee (by simp;omega) b;omega
 refine aF (λh=>?_) (aR rfl (aF a ⟨uT,rfl⟩));subst h;exact⟨⟨λ_=>uT,λh=>by cases h⟩,rfl⟩
def qdn:af prog 190 (mB cY):=
 cQ (aS aH f190 (fr:=xC cY 16)) _ _
  (λ_ _ x _ _ a=>Hc (by decide) a)
def qdo:af prog 191 (mB i64):=
 cQ (aS aH f191 (fr:=xC i64 8)) _ _
  (λ_ _ x _ _ a=>Hc (by decide) a)
def Bc:af prog 71 (mB ak):=
 cQ (aS aH f71 (fr:=xC ak 40)) _ _
  (λ_ _ x _ _ a=>Hc (by decide) a)
def iI(g:Int->Bool):List Int->Int->Option Int
 |[],_=>V
 |x::r,i=>if g x=Z then U i else iI g r (i+1)
abbrev xB:PT:=.fn [i64] [.bool]
def wB:LS:=⟨[(0,.d aK),(1,xB),(7,.d i64),(8,.d i64)],[]⟩
def uZ:Pt:=⟨19,0,wB,⟨[],[]⟩,⟨[(4,.d i64)],[]⟩⟩
def PR(x:wB.X):Fr uZ.Out:=
 match x with
 |((l,g,n,i,_),_)=>Jb (J (i<n))
  (Jd (0<=i/\i<l.length)
   (Jb (g (l.getD i.toNat i64.dflt,())).1 (Jv (Rd.back ((i,()),())))
    (Jv (Rd.next ((l,g,n,I6.wrap (i+1),()),())))))
  (Jv (Rd.out ((),())))
def sR(l:List Int)(n i:Int):Prop:=0<=i/\i<=n/\n=l.length/\n<=9223372036854775807
def MJ(x:wB.X):Fr uZ.Out:=
 Jd (sR x.1.1 x.1.2.2.1 x.1.2.2.2.1) (Jb (iI (λn=>(x.1.2.1 (n,())).1) (x.1.1.drop x.1.2.2.2.1.toNat) x.1.2.2.2.1).isSome
   (Jv (.back (((iI (λn=>(x.1.2.1 (n,())).1) (x.1.1.drop x.1.2.2.2.1.toNat) x.1.2.2.2.1).getD (-1),()),()))) (Jv (.out ((),()))))
def qyy:ae prog (au f241 0) wB uZ PR:=ae.of_run aH (bs:=0) rfl rfl rfl (λ_=>aY _ 0) (λx=>by kernel_rfl)
def qpu (l:List Int) (g:aa [i64]->aa [.bool]) (n i:Int) (c:sR l n i) (Q:uZ.Out->Prop) (a:(Jb (iI (λn=>(g (n,())).1) (l.drop i.toNat) i).isSome (Jv (Rd.back (((iI (λn=>(g (n,())).1) (l.drop i.toNat) i).getD (-1),()),()))) (Jv (Rd.out ((),())))  : Fr uZ.Out).satP Q) :
  (PR ((l,g,n,i,()),())).satP λ
   |.next b=>sR b.1.1 b.1.2.2.1 b.1.2.2.2.1/\(b.1.2.2.1-b.1.2.2.2.1).toNat<(n-i).toNat/\(MJ b).satP Q
   |.out y=>Q (.out y)
   |.back z=>Q (.back z)
   |.pan p=>Q (.pan p):=by
 obtain⟨u,v,q,r⟩:=c;subst q;refine⟨λhi=>?_,λhi=>?_⟩;have h:i<(l.length:Int):=ucx hi;obtain⟨k,rfl⟩:∃ k:Nat,i=k:=⟨i.toNat,by omega⟩;have m:k<l.length:=by omega
 have o:l.getD (k:Int).toNat i64.dflt=l[k]:=by
  rw[show(k:Int).toNat=k by omega,uah,uaq m];rfl
 have t:I6.wrap ((k:Int)+1)=k+1:=IntWalk.i64_in _ (by omega);have s:l.drop (k:Int).toNat=l[k]::l.drop (k+1):=by
  exact(ual m)
 rw[s]at a;dsimp only[Fr.satP];rw[o,t];refine⟨⟨by omega,by omega⟩,λd=>?_,λd=>?_⟩;have:iI (λn=>(g (n,())).1) (l[k]::l.drop (k+1)) k=U (k:Int):=ufv d;rw[this]at a;exact a.1 rfl;have f:¬ (g (l[k],())).1=true:=by rw[d];decide
 have:iI (λn=>(g (n,())).1) (l[k]::l.drop (k+1)) k=iI (λn=>(g (n,())).1) (l.drop (k+1)) (k+1):=ufw f;rw[this]at a;have j:sR l l.length ((k:Int)+1):=⟨by omega,by omega,rfl,r⟩;refine⟨j,by omega,j,?_⟩;exact a;have h:¬ i<(l.length:Int):=uch hi;have e:l.drop i.toNat=[]:=ua2 (by omega);rw[e]at a;exact a.2 rfl
def qq2:ae prog (.loop (au f241 0)) wB uZ MJ:=by
 refine ae.loop qyy (μ:=λx=>(x.1.2.2.1-x.1.2.2.2.1).toNat) ?_ (λx Q h=>h.1);rintro⟨⟨l,g,n,i,_⟩,_⟩ a Q b;exact qpu l g n i a Q b.2
def Gs:Ct:=⟨[.d aK,xB],[i64],λx=>((iI (λn=>(x.2.1 (n,())).1) x.1 0).getD (-1),()),λ_=>[]⟩
def qnj:af prog 241 Gs:=
 cQ (cS aH qq2 (ps:=[.d aK,xB]) (fr:=λx=>Jd (sR x.1 x.1.length 0) (Jb (iI (λn=>(x.2.1 (n,())).1) x.1 0).isSome (Jv ((iI (λn=>(x.2.1 (n,())).1) x.1 0).getD (-1),())) (Jv (-1,()))))) _ _ (λw F x vs c _=>by
  obtain⟨l,g,_⟩:=x;obtain⟨v,f,rfl,e,_⟩:=c;have a:=mv e;have b:sR l l.length 0:=⟨by omega,by omega,rfl,a⟩;refine aF b ?_;cases h:iI (λn=>(g (n,())).1) l 0 with
  |some k=>exact aZ rfl ⟨uT,rfl⟩
  |none=>exact aR rfl ⟨uT,rfl⟩)
def Qu(g:Int->Bool):(l:List Int)->(i:Int)->0<=i->J ((iI g l i).getD (-1)>=0)=l.any g
 |[],i,_=>rfl
 |x::r,i,h=>by
  unfold iI;simp;split;rename_i a;rw[a];simpa using h;rename_i a;rw[Qu g r (i+1) (by omega)];simp at a;rw[a];rfl
def FX:Ct:=⟨[.d aK,xB],[.bool],λx=>(x.1.any λn=>(x.2.1 (n,())).1,()),λ_=>[]⟩
noncomputable def Xl:Cx:=cx [(241,Gs)] []
def Xm:CxOK prog Xl:=aP aG ⟨qnj,uT⟩ trivial
def qaq:af prog 232 FX:=
 cQ (aS Xm f232 (fr:=λx=>Jv (J ((Gs.f (x.1,x.2.1,())).1>=0),())) (ps:=[.d aK,xB])) _ _
  (λ_ _ x _ _ _=>by
   obtain⟨l,g,_⟩:=x;exact⟨uT,ufu (Qu (λn=>(g (n,())).1) l 0 (ufa 0)) rfl⟩)
def Bu(n:Int):Bool:=bif J (n<0)then Z else J (n>100000)
def Gk:Ct:=⟨[.d i64],[.bool],λx=>(Bu x.1,()),λ_=>[]⟩
def qg9:af prog 233 Gk:=
 cQ (aS aH f233 (fr:=λx=>Jv (Bu x.1,())) (ps:=[.d i64])) _ _ (λ_ _ _ _ _ _=>⟨uT,rfl⟩)
def qha(l:List Int):(!l.any Bu)=kG l:=by
 rw[List.not_any_eq_all_not];congr 1;funext n;unfold Bu;rw[udx];by_cases h:n<0;simp[h];omega;simp[h];omega
noncomputable def Xn:Cx:=cx [(232,FX),(233,Gk)] []
def Xo:CxOK prog Xn:=aP aG ⟨qaq,qg9,uT⟩ trivial
def qhb:af prog 214 wQ:=
 cQ (aS Xo f214 (fr:=λx=>Jd (∀ (y:aa [i64]),fi [i64] y->True) (Jv (!(FX.f (x.1,λy=>Gk.f (y.1,()),())).1,()))) (ps:=[.d aK])) _ _
  (λ_ _ x _ _ _=>by
   obtain⟨l,_⟩:=x;exact⟨⟨λ_ _=>uT,uT⟩,ufu (qha l) rfl⟩)
def qb(v:aQ.den):Bool:=
 J (1<=v.1/\v.1<=292194/\0<=v.2.2.2.2.2.1/\v.2.2.2.2.2.1<=1000000000000000/\v.2.2.1.length<=100/\1<=v.2.2.2.1.length/\v.2.2.2.1.length<=100/\v.2.2.2.2.1.length=8) &&
  (kG [v.2.1.1,v.2.1.2.1,v.2.1.2.2.1,v.2.1.2.2.2.1]&&(kG v.2.2.2.1&&(kG v.2.2.2.2.1&&wJ v.2.2.1)))
def AF:Ct:=⟨[.d aQ],[.bool],λx=>(qb x.1,()),λ_=>[]⟩
noncomputable def Xp:Cx:=cx [(214,wQ),(215,Au),(190,mB cY),(191,mB i64)] []
def LY:CxOK prog Xp:=aP aG ⟨qhb,NP,qdn,qdo,uT⟩ trivial
def zB(a b:Int):Bool:=bif bif bif J (a<1)then Z else J (a>292194)then Z else J (b<0)then Z else J (b>1000000000000000)
def zC(n z p:Nat):Bool:=bif bif bif J ((n:Int)>100)then Z else J ((z:Int)<1)then Z else J ((z:Int)>100)then Z else (p:Int) != 8
def QA(x:ag [.d aQ]):Fr (aa [.bool]):=
 Jb (zB x.1.1 x.1.2.2.2.2.2.1) (Jv (Y,()))
  (Jb (zC x.1.2.2.1.length x.1.2.2.2.1.length x.1.2.2.2.2.1.length) (Jv (Y,()))
   (Jv (bif bif bif (wQ.f ([x.1.2.1.1,x.1.2.1.2.1,x.1.2.1.2.2.1,x.1.2.1.2.2.2.1],())).1 then (wQ.f (x.1.2.2.2.1,())).1 else Y then (wQ.f (x.1.2.2.2.2.1,())).1 else Y then (Au.f (x.1.2.2.1,())).1 else Y,())))
def zc5(a b:Int)(n z p:Nat):(!(zB a b || zC n z p))=J (1<=a/\a<=292194/\0<=b/\b<=1000000000000000/\n<=100/\1<=z/\z<=100/\p=8):=by
 have c:zB a b=J (a<1\/a>292194\/b<0\/b>1000000000000000):=by
  unfold zB;simp;cases J (a<1)<;>cases J (a>292194)<;>cases J (b<0)<;>simp
 have d:zC n z p=J ((n:Int)>100\/(z:Int)<1\/(z:Int)>100\/(p:Int)≠8):=by
  unfold zC;simp;cases J ((n:Int)>100)<;>cases J ((z:Int)<1)<;>cases J ((z:Int)>100)<;>simp[bne,Bool.beq_eq_decide_eq]
 rw[c,d,udx];simp;omega
def zbk:af prog 194 AF:=
 cQ (aS LY f194 (fr:=QA)) _ _
  (λ_ _ x _ _ _=>by
   obtain⟨v,_⟩:=x;unfold qb;rw[<- zc5];unfold QA;cases a:zB v.1 v.2.2.2.2.2.1 with
   |true=>exact aZ rfl ⟨uT,rfl⟩
   |false=>
    refine aR rfl ?_;cases b:zC v.2.2.1.length v.2.2.2.1.length v.2.2.2.2.1.length with
    |true=>exact aZ rfl ⟨uT,rfl⟩
    |false=>
     refine aR rfl ⟨uT,ufu ?_ rfl⟩;show(bif bif bif kG _ then kG _ else Y then kG _ else Y then wJ _ else Y)=_;cases kG [v.2.1.1,v.2.1.2.1,v.2.1.2.2.1,v.2.1.2.2.2.1]<;>cases kG v.2.2.2.1<;>cases kG v.2.2.2.2.1<;>rfl)
def LC(v:aQ.den):Prop:=v.2.2.1.length<=1000000/\v.2.2.2.1.length<=1000000/\v.2.2.2.2.1.length<=1000000
def qbt:Ct:=⟨[.d aQ],[aQ],λx=>(x.1,()),λx=>[LC x.1]⟩
def qvz:af prog 142 qbt:=
 cQ (aS LY f142 (fr:=λx=>Jd (x.1.2.2.1.length<=1000000) (Jd (x.1.2.2.2.1.length<=1000000) (Jd (x.1.2.2.2.2.1.length<=1000000) (Jv (x.1,()))))) (ps:=[.d aQ])) _ _
  (λ_ _ x _ _ a=>⟨⟨a.1,a.2.1,a.2.2,uT⟩,rfl⟩)
section
open Go.Shelf
attribute [local go_sem] Oper.semAt_some
def zly(f:Nat->Nat)(k:Nat):List Nat:=(List.range k).map f
def tX(f:Nat->Nat)(k:Nat):zly f (k+1)=zly f k++[f k]:=by simp[zly,ud1]
def BQ(f:Nat->Nat)(k:Nat):(zly f k).length=k:=by simp[zly]
def Wy(c:Nat->Nat->Value)(k:Nat):Value:=.agg #[c k 0,c k 1,c k 2,c k 3,c k 4,c k 5,c k 6,c k 7,c k 8]
def qa9 (n:Nat) (T:1<=n) (l m g b off len t:Nat) (c:Nat->Nat->Value) (s:len<=1000000) (A:Option Addr) (F:0<len->A=U ⟨b,off,V⟩/\b<g) (J y:List (Fin len)->World->Prop)
  (H:∀ a (k:Fin len) W,J a W->a.length<len->YieldAt Fence.wide (n-1) prog l #[.int .i64 ((k.1:Nat):Int),Wy c k.1] W λe W'=>
   (e=.returned (.bool Z)/\J (a++[k]) W'/\cw g m m W W')\/(e=.returned (.bool Y)/\y (a++[k]) W'))
  (W:World) (o:W.heap[m]?= U (.cells #[.slice A len t] 22 (0,0))) (L:∀ k j,k<len->j<9->W.cell? ⟨b,off+(k*9+j),V⟩=U (c k j)) (E:J [] W) :
  CallsIn Fence.wide n prog 189 #[.func (.yield l) #[] #[],.pointer (U ⟨m,0,V⟩)] W λe W'=>(∃ v,e=.returned v) /\
   ((∃ C:List (Fin len),C.map Fin.val=zly (λj=>len-1-j) len/\J C W')\/(∃ a:List (Fin len),(∃ k,k<=len/\a.map Fin.val=zly (λj=>len-1-j) k)/\y a W')):=by
 have x:Fence.wide.round=none:=rfl;refine callsIn_of_wp func189 rfl trivial ?_ x;simp only[ntmps189,ucq,uc9,udl,Nat.reduceAdd,Nat.reduceSub,ubn,ubo,ucy,ubx,udm,uc4];have Q:=aO o 0
 gi_wp2
 gi_loopw [3] (λi wr=>∃ (k:Nat) (a:List (Fin len)),k<=len/\i=.int .i64 ((len:Int)-1-k)/\a.map Fin.val=zly (λj=>len-1-j) k/\J a wr/\cw g m m W wr)
  (λi _=>(intOf i+1).toNat)
 case atStart=>exact⟨0,[],uff _,by simp,rfl,E,cw.refl _ _ _ _⟩
 case round=>
  obtain⟨k,a,S,rfl,f,p,h⟩:=hrel;have R:=aO (h.2.1.trans o) 0;by_cases N:k<len
  ·obtain⟨rfl,K⟩:=F (by omega);obtain⟨fn,tmps,r,z,B,G⟩:=H a ⟨len-1-k,by omega⟩ wr p (by have:=uft List.length f;rw[BQ,ud2]at this;omega);have d:∀ j,j<9->wr.cell? ⟨b,off+(len-1-k)*9+j,V⟩=U (c (len-1-k) j):=λj M=>by
    rw[ueh];exact(h.1.cell K).trans (L _ j (by omega) M)
   have O:=d 0 (by omega);have x1:=d 1 (by omega);have x2:=d 2 (by omega);have x3:=d 3 (by omega);have x4:=d 4 (by omega);have x5:=d 5 (by omega);have x6:=d 6 (by omega);have x7:=d 7 (by omega);have x8:=d 8 (by omega);rw[uey]at O;have D:((len-1-k:Nat):Int)=(len:Int)-1-k:=by omega
   rw[D]at B;unfold Wy at B
   gi_wp2
   refine G.mono ?_;rintro e P (⟨rfl,u,w⟩|⟨rfl,q⟩)
   ·gi_wp2
    go_roundw
    case rel=>exact⟨k+1,a++[⟨len-1-k,by omega⟩],by omega,by simp;omega,by rw[tX,udw,f];rfl,u,h.trans w⟩
    case measure=>simp[intOf];omega
   gi_wp2
   refine ue1 (ue2 rfl _ _ _) rfl ?_;exact⟨⟨_,rfl⟩,.inr ⟨_,⟨k+1,by omega,by rw[tX,udw,f];rfl⟩,q⟩⟩
  ·obtain rfl:k=len:=by omega
   gi_wp2
   go_end0
   exact⟨⟨_,rfl⟩,.inl ⟨_,f,p⟩⟩
end
end Go.Proofs.YtdokapnnagbehaaGreat
namespace Go.Ab
open Go Go.RowKit
open Go.Ab.Fr renaming val->Jv,need->Jd,br->Jb
def Ty.plain:Ty->Bool
 |.fm _=>Y
 |.ic _ _=>Y
 |.sl e=>e.plain&&J (0<e.size)
 |.pair a b=>a.plain&&b.plain
 |_=>Z
def LI:{t:Ty} -> {x:t.den} -> {g:Nat->Value->Prop}->0<t.size->aA w F t x g->∃ j u,g j u
 |.int _,_,_,_,h=>⟨0,_,h.1⟩
 |.bool,_,_,_,h=>⟨0,_,h⟩
 |.str,_,_,_,h=>⟨0,_,h.1⟩
 |.sl _,_,_,_,h=>by
  obtain⟨A,c,d,_⟩:=h;exact⟨0,_,d⟩
 |.unit,_,_,h,_=>absurd h (by decide)
 |.pair a b,_,_,h,f=>by
  by_cases i:0<a.size;exact LI i f.1;have k:0<b.size:=by simp only[Ty.size]at h;omega
  obtain⟨j,u,l⟩:=LI k f.2;exact⟨_,u,l⟩
 |.fm _,_,_,_,h=>by
  obtain⟨r,arr,m,d,_⟩:=h;exact⟨0,_,d⟩
 |.ic _ _,_,_,_,h=>by
  rcases h with ⟨ty,u,_,e,_⟩|⟨_,e⟩
  exact⟨0,_,e⟩;exact⟨0,_,e⟩
 |.fc _,_,_,_,h=>by
  obtain⟨u,d,_⟩:=h;exact⟨0,_,d⟩
def GU{a:Addr}(h:w.cell? a=U u):∃ arr ty p,w.heap[a.block]?= U (.cells arr ty p):=by
 unfold World.cell? at h;split at h;rename_i arr ty p b;exact⟨arr,ty,p,b⟩;cases h
def aA.only{G:Nat->Prop}(f:∀ b,F b->(∃ arr ty p,w.heap[b]?= U (.cells arr ty p))->G b):{t:Ty} -> {x:t.den} -> {g:Nat->Value->Prop}->t.plain=Z->aA w F t x g->aA w G t x g
 |.int _,_,_,_,h=>h
 |.bool,_,_,_,h=>h
 |.str,_,_,_,h=>h
 |.sl e,_,_,d,h=>by
  obtain⟨A,c,m,n,o,q⟩:=h;simp only[Ty.plain,udc,ucu]at d;refine⟨A,c,m,n,o,λi x z=>?_⟩;obtain⟨ad,r,v,l⟩:=q i x z;obtain⟨j,u,y⟩:=LI d.2 l;have k:=GU y;have s:(ad.add (i*e.size+j)).block=ad.block:=by unfold Addr.add;split<;>rfl
  rw[s]at k;exact⟨ad,r,f _ v k,aA.only f d.1 l⟩
 |.unit,_,_,_,_=>trivial
 |.pair a b,_,_,d,h=>by
  simp only[Ty.plain,udc]at d;exact⟨aA.only f d.1 h.1,aA.only f d.2 h.2⟩
 |.fm _,_,_,d,_=>by cases d
 |.ic _ _,_,_,d,_=>by cases d
 |.fc _,_,_,_,h=>h
def bu.only{G:Nat->Prop}(a:∀ b,F b->(∃ arr ty p,w.heap[b]?= U (.cells arr ty p))->G b){t:Ty}{x:t.den}(c:t.plain=Z)(h:bu w F t x v):bu w G t x v:=
 ⟨h.1,h.2.1,h.2.2.only a c⟩
end Go.Ab
namespace Go.Proofs.YtdokapnnagbehaaGreat
open Go Go.Ab Go.RowKit Go.Proofs Go.Shelf Tryz
open Go.Ab.Fr renaming val->Jv,need->Jd,br->Jb
section
attribute [local go_sem] Oper.semAt_some
structure VC where
 p:Nat->Int
 A:Nat->Option Addr
 l:Nat->Nat
 c:Nat->Nat
def gj(d:VC):Array Value:=#[.int .i64 (d.p 0),.int .i64 (d.p 1),.int .i64 (d.p 2),.int .i64 (d.p 3),.int .i64 (d.p 4),.slice (d.A 0) (d.l 0) (d.c 0),.slice (d.A 1) (d.l 1) (d.c 1),.slice (d.A 2) (d.l 2) (d.c 2),.int .i64 (d.p 5)]
def i9(d:VC):Value:=.agg (gj d)
def Wz{x:aQ.den}(h:aA w F aQ x g):∃ d:VC,(∀ j u,(gj d)[j]?= U u->g j u)/\d.p 0=x.1:=by
 obtain⟨n,⟨b0,b1,f,i,_⟩,⟨b,k,o,_⟩,⟨c,l,q,_⟩,⟨e,m,r,_⟩,s,_⟩:=h;refine⟨⟨λj=>match j with|0=>x.1|1=>x.2.1.1|2=>x.2.1.2.1|3=>x.2.1.2.2.1|4=>x.2.1.2.2.2.1|_=>x.2.2.2.2.2.1,λj=>match j with|0=>b|1=>c|_=>e,λj=>match j with|0=>x.2.2.1.length|1=>x.2.2.2.1.length|_=>x.2.2.2.2.1.length,λj=>match j with|0=>k|1=>l|_=>m⟩,λj u a=>?_,rfl⟩
 match j,a with
 |0,a=>cases a;exact n.1
 |1,a=>cases a;exact b0.1
 |2,a=>cases a;exact b1.1
 |3,a=>cases a;exact f.1
 |4,a=>cases a;exact i.1
 |5,a=>cases a;exact o
 |6,a=>cases a;exact q
 |7,a=>cases a;exact r
 |8,a=>cases a;exact s.1
 |j+9,a=>simp[gj]at a
def zc4{x:aQ.den}(h:bu w F aQ x v):∃ d:VC,v=i9 d/\d.p 0=x.1:=by
 obtain⟨cs,rfl⟩:=h.2.1.1 rfl;have g:=h.1;obtain⟨d,f,e⟩:=Wz h.2.2;refine⟨d,?_,e⟩;congr 1;apply ufn;exact g;intro i a b;have:=f i (gj d)[i] (uam b);have c:cs[i]?= U (gj d)[i]:=this;rw[uam a]at c;exact ud3 c
def iZ:Array Value:=#[.int .i64 0,.int .i64 0,.int .i64 0,.int .i64 0,.int .i64 0,.slice V 0 0,.slice V 0 0,.slice V 0 0,.int .i64 0]
def Ny(F:Nat->Prop)(x:aQ.den)(d:VC)(W w':World):Prop:=
 ∃ F',bu w' F' aQ x (i9 d)/\∀ b,F' b->(F b\/W.heap.size<=b)/\∃ arr ty p,w'.heap[b]?= U (.cells arr ty p)
def qvx{x:aQ.den}(i:∀ b,F b->b<w.heap.size)(g:Below w.heap.size w W)(n:bu w F aQ x v)(m:LC x):
  Calls prog 142 #[v] W λe w'=>∃ d,e=.returned (i9 d)/\Below W.heap.size W w'/\Ny F x d W w':=by
 have f:=n.mono (λ_ h=>h) (λb h=>g.block b (i b h));refine(qvz.2 W F (x,()) [v] (λb h=>ucb (i b h) g.size) ⟨v,[],rfl,f,rfl⟩ m).mono ?_;rintro e w' ⟨u,F',rfl,c,o,j,k⟩;have a:=k;obtain⟨d,rfl,_⟩:=zc4 a;exact⟨d,rfl,c,λb=>F' b/\∃ arr ty p,w'.heap[b]?= U (.cells arr ty p),a.only (λb h l=>⟨h,l⟩) rfl,λb h=>⟨(j b h.1).1,h.2⟩⟩
structure AtI (w:World) (day:Int) (sv:Value) (fr:Nat->Int) (pre:List (Fin len)) (W:World):Prop where
 x3:Boxed W (w.heap.size+1) 3 (.int .i64 day)
 x4:W.heap[w.heap.size+2]?= some (.cells iZ 140 (0,0))
 x5:Boxed W (w.heap.size+3) 47 (.int .i64 0)
 xs:Boxed W (w.heap.size+4) 22 sv
 bel:Below w.heap.size w W
 sz:w.heap.size+5<=W.heap.size
 no:∀ k∈pre,¬ fr k.1<=day
structure AtX (w:World) (F:Nat->Prop) (day:Int) (x:Nat->aQ.den) (fr:Nat->Int) (c:Code) (pre:List (Fin len)) (W:World):Prop where
 ret:c=.ret
 res:∃ ini k d F',pre=ini++[k]/\(∀ k∈ini,¬ fr k.1<=day)/\fr k.1<=day/\W.heap[w.heap.size+2]?= some (.cells (gj d) 140 (0,0))/\bu W F' aQ (x k.1) (i9 d)/\(∀ b,F' b->(F b\/w.heap.size<=b)/\∃ arr ty p,W.heap[b]?= some (.cells arr ty p))
 x5:Boxed W (w.heap.size+3) 47 (.int .i64 0)
 bel:Below w.heap.size w W
def qs{X g:World}{row:Option Nat}{p:Nat×Nat}(h:X.heap[b]?= U (.cells cs t p))(d:X.grownBy g row)(f:∀ r,row=U r->B<=r/\∃ o:Obj,X.heap[r]?= U o/\o.isCells=Y):g.heap[b]?= U (.cells cs t p):=
 (d.block b (uaf.1 h).1 (λe=>by
  obtain⟨_,o,a,c⟩:=f b e.symm;rw[h]at a;cases a;cases c)).trans h
def qa1{f:Value}{fr:Nat->Int}(d:w.heap.size<=B):OwnFrom B (λ(c:List (Fin len)) W=>AtI w day f fr c W):=λc X g row h a b=>
 ⟨iB h.x3 a b,qs h.x4 a b,iB h.x5 a b,iB h.xs a b,h.bel.grown a h.bel.size (λk e=>ueo d (b k e).1),ueo h.sz a.size,h.no⟩
def qa2{x:Nat->aQ.den}{fr:Nat->Int}(t:w.heap.size<=B)(c:Code):OwnFrom B (λ(g:List (Fin len)) W=>AtX w F day x fr c g W):=λg X v row h a f=>by
 refine⟨h.ret,?_,iB h.x5 a f,h.bel.grown a h.bel.size (λk e=>ueo t (f k e).1)⟩;obtain⟨l,k,d,F',n,o,q,r,s,m⟩:=h.res;refine⟨l,k,d,F',n,o,q,qs r a f,s.mono (λ_ h=>h) (λb j=>?_),λb j=>?_⟩;obtain⟨_,arr,ty,p,i⟩:=m b j;rw[i];exact qs i a f;obtain⟨u,arr,ty,p,i⟩:=m b j;exact⟨u,arr,ty,p,qs i a f⟩
def LN(w0:Nat)(c:Nat->VC)(a:Nat->Nat->Act)(k:Nat)(d:Act)(W:World):Prop:=∃ b,w0<=b/\W.heap[b]?= U (.cells (gj (c k)) 140 (0,0))/\d=a k b
def qaz{w0:Nat}{c:Nat->VC}{a:Nat->Nat->Act}(k:Nat)(d:Act):OwnFrom B (λ(_:Unit) W=>LN w0 c a k d W):=λ_ X l row j h i=>by
 obtain⟨b,e,f,g⟩:=j;exact⟨b,e,qs f h i,g⟩
def qbb(n:Nat)(A:Option Addr)(len a:Nat)(w:World):
  CallsIn Fence.wide n prog 141 #[.slice A len a] w λe w'=>e=.returned (.func (.func 189) #[] #[.pointer (U ⟨w.heap.size,0,V⟩)])/\w'=w.alloc (.cells #[.slice A len a] 22):=by
 refine callsIn_of_wp func141 rfl trivial ?_ rfl;simp only[ntmps141,ucq,uc9,udl,Nat.reduceAdd,Nat.reduceSub,ubn,ubo,ucy,ubx,udm,uc4]
 gi_wp2
 go_ret
 exact⟨rfl,rfl⟩
def WS(w:World)(F:Nat->Prop)(day:Int)(x:Nat->aQ.den)(fr:Nat->Int)(len:Nat)(e:Ending)(w':World):Prop:=
 (e=.returned (.tuple #[.agg iZ,.int .i64 7])/\∀ k,k<len->¬ fr k<=day) \/
 ∃ k d F',k<len/\fr k<=day/\(∀ j,k<j->j<len->¬ fr j<=day)/\e=.returned (.tuple #[i9 d,.int .i64 0])/\bu w' F' aQ (x k) (i9 d)/\(∀ b,F' b->(F b\/w.heap.size<=b)/\b<w'.heap.size)
def Vh{s q o m k i f d b:Value}(h:W.heap[B]?= U (.cells #[s,q,o,m,k,i,f,d,b] t (0,0)))(a c e g j l n p r:Value):
  (W.setCells B 0 [a,c,e,g,j,l,n,p,r]).heap[B]?= U (.cells #[a,c,e,g,j,l,n,p,r] t (0,0)):=by
 have u:=uc1 W B 0 _ t a h;rw[show(#[s,q,o,m,k,i,f,d,b]:Array Value).setIfInBounds 0 a = #[a,q,o,m,k,i,f,d,b] from rfl]at u;have v:=uc1 _ B 1 _ t c u;rw[show(#[a,q,o,m,k,i,f,d,b]:Array Value).setIfInBounds 1 c = #[a,c,o,m,k,i,f,d,b] from rfl]at v;have w:=uc1 _ B 2 _ t e v;rw[show(#[a,c,o,m,k,i,f,d,b]:Array Value).setIfInBounds 2 e = #[a,c,e,m,k,i,f,d,b] from rfl]at w;have x:=uc1 _ B 3 _ t g w;rw[show(#[a,c,e,m,k,i,f,d,b]:Array Value).setIfInBounds 3 g = #[a,c,e,g,k,i,f,d,b] from rfl]at x;have y:=uc1 _ B 4 _ t j x;rw[show(#[a,c,e,g,k,i,f,d,b]:Array Value).setIfInBounds 4 j = #[a,c,e,g,j,i,f,d,b] from rfl]at y;have z:=uc1 _ B 5 _ t l y;rw[show(#[a,c,e,g,j,i,f,d,b]:Array Value).setIfInBounds 5 l = #[a,c,e,g,j,l,f,d,b] from rfl]at z;have A:=uc1 _ B 6 _ t n z;rw[show(#[a,c,e,g,j,l,f,d,b]:Array Value).setIfInBounds 6 n = #[a,c,e,g,j,l,n,d,b] from rfl]at A;have C:=uc1 _ B 7 _ t p A;rw[show(#[a,c,e,g,j,l,n,d,b]:Array Value).setIfInBounds 7 p = #[a,c,e,g,j,l,n,p,b] from rfl]at C;have D:=uc1 _ B 8 _ t r C;exact D
def DE{k:Nat}(h:k≠B):(vs:List Value)->(o:Nat)->(W:World)->(W.setCells B o vs).heap[k]?= W.heap[k]?
 |[],_,_=>rfl
 |v::r,o,W=>(DE h r (o+1) _).trans (uck W _ k v h)
def KJ(h:n<=B):(vs:List Value)->(o:Nat)->(W:World)->Below n W (W.setCells B o vs)
 |[],_,W=>ufi n W
 |v::r,o,W=>((ufi n W).setCell h v).trans (KJ h r (o+1) _)
def KK:(vs:List Value)->(o:Nat)->(W:World)->KeepsOthers W (W.setCells B o vs)
 |[],_,W=>KeepsOthers.refl W
 |v::r,o,W=>(KeepsOthers.setCell W _ v).trans (KK r (o+1) _)
def qoy(h:Below W.heap.size W W'):KeepsFrom B W W':=
 ⟨h.size,λk o _ a _=>(h.block k (uaf.1 a).1).trans a⟩
def NL{R:Ending->World->Prop}{D z:Nat}{l m p q s t u v w x y A B C E F G a b c d e f g h i k:Value}{n:Int}(z4:W.heap[z+2]?= U (.cells #[l,m,p,q,s,t,u,v,w] 140 (0,0)))(z5:Boxed W (z+3) 47 (.int .i64 n))(K:W.heap[D]?= U (.deferred (U [])))(hD:z+5<=D)(L:R (.returned (.tuple #[.agg #[l,m,p,q,s,t,u,v,w],.int .i64 n])) (W.putObj D (.deferred V))):
  bodyPostM Fence.wide 8 prog f86 R .ret { tmps:=#[x,y,A,B,.pointer (U ⟨z+1+1,0,V⟩),.pointer (U ⟨z+1+1+1,0,V⟩),C,E,F,G,a,b,c,d,e,f,g,h,i,k],defers:=[{ target:=.collected D,args:=#[] }] } W:=by
 have M:=(World.putObj_heap_other (r:=D) (o:=.deferred V) (by omega)).trans z4;have N:=(World.putObj_heap_other (r:=D) (o:=.deferred V) (by omega)).trans z5;obtain⟨O,P,Q,S,T,u5,u6,u7,u8⟩:=zj4 λj _=>aO M j;have H:=aO N 0;refine⟨by simp,.inl ⟨_,_,rfl,run_takeDeferred K,?_⟩⟩;refine⟨.tuple #[.agg #[l,m,p,q,s,t,u,v,w],.int .i64 n],?_,L⟩;simp[results,results86,go_sem,O,P,Q,S,T,u5,u6,u7,u8,H]
def qa5(b off len g:Nat)(day:Int)(c:Nat->VC)(x:Nat->aQ.den)(F:Nat->Prop)(w:World)(hlen:len<=1000000)(A:Option Addr)(hA:0<len->A=U ⟨b,off,V⟩/\b<w.heap.size)(hbF:∀ q,F q->q<w.heap.size)(hc:∀ k j u,k<len->(gj (c k))[j]?= U u->w.cell? ⟨b,off+(k*9+j),V⟩=U u)(t:∀ k W,k<len->Below w.heap.size w W->Calls prog 142 #[i9 (c k)] W λe w'=>∃ d,e=.returned (i9 d)/\Below W.heap.size W w'/\Ny F (x k) d W w'):
  CallsIn Fence.wide 8 prog 86 #[.agg #[.slice A len g],.int .i64 day] w λe w'=>WS w F day x (λk=>(c k).p 0) len e w'/\Below w.heap.size w w':=by
 refine callsIn_of_wp_marks func86 rfl trivial ?_ rfl;simp only[ntmps86,ucq,uc9,udl,Nat.reduceAdd,Nat.reduceSub,ubn,ubo,ucy,ubx,udm,uc4]
 gi_wp2_with (refine⟨uT,?_⟩;gi_at_call 141;refine(qbb _ _ _ _ _).mono ?_;rintro e w' ⟨rfl,rfl⟩)
 let L:List Obj:=[.cells #[.slice A len g] 24,.cells #[.int .i64 day] 3,.cells iZ 140,.cells #[.int .i64 0] 47,.cells #[.slice A len g] 22]
 obtain⟨M,hsz,a⟩:=zj8 L w;show Code.wpIn _ _ _ _ _ _ (als w L);generalize als w L=W0 at *;replace hsz:W0.heap.size=w.heap.size+5:=hsz;have q4:=a 4 _ rfl;have hI0:AtI w day (.slice A len g) (λk=>(c k).p 0) ([]:List (Fin len)) W0:=⟨a 1 _ rfl,a 2 _ rfl,a 3 _ rfl,q4,M,by omega,λk hk=>by cases hk⟩;refine wpIn_rangeFunc_ownH rfl (by omega) (gf:=189) (lb:=#[.pointer (U ⟨w.heap.size+1+1+1+1,0,V⟩)]) rfl trivial (enters_of func189 (by kernel_rfl) rfl)
  (α:=Fin len) (encs:=λ(k:Fin len)=>#[.int .i64 ((k.1:Nat):Int),i9 (c k.1)]) (Kp:=cw w.heap.size (w.heap.size+4) (w.heap.size+4)) (S:=λys=>ys.map Fin.val=zly (λj=>len-1-j) len) (Sp:=λf=>∃ k,k<=len/\f.map Fin.val=zly (λj=>len-1-j) k) (N:=len) (w0:=W0)
  (λl J Jx W hW _ _ hY h0=>qa9 7 (by omega) l (w.heap.size+4) w.heap.size b off len g (λk j=>(gj (c k)).getD j undef) hlen A hA J Jx hY W ((hW.block _ (by omega)).trans q4) (λk j hk hj=>have hb:=(hA (by omega)).2;((hW.mono (by omega)).cell (p:=⟨b,off+(k*9+j),V⟩) hb).trans ((M.cell (p:=⟨b,off+(k*9+j),V⟩) hb).trans (hc k j _ hk (by match j,hj with|0,_|1,_|2,_|3,_|4,_|5,_|6,_|7,_|8,_=>rfl)))) h0)
  (λh k=>h.trans k) (λW l o o' hl ho hoc how=>⟨belowK_b (w:=w) (ue9 _) W l o o' (by omega) ho hoc how,World.putObj_heap_other (by omega),World.putObj_heap_other (by omega)⟩) (ufi _ _) (λ_=>rfl)
  (λf W=>AtI w day (.slice A len g) (λk=>(c k).p 0) f W)
  (λcd f W=>AtX w F day x (λk=>(c k).p 0) cd f W)
  (qa1 (by omega)) (qa2 (by omega)) hI0
  (λk a' W=>LN W0.heap.size c (λk Bx=>{ tmps:=#[.agg #[.slice A len g],.int .i64 day,.pointer (U ⟨w.heap.size,0,V⟩),.pointer (U ⟨w.heap.size+1,0,V⟩),.pointer (U ⟨w.heap.size+1+1,0,V⟩),.pointer (U ⟨w.heap.size+1+1+1,0,V⟩),undef,.pointer (U ⟨Bx,0,V⟩),
   .pointer (U ⟨w.heap.size,0,V⟩),.slice A len g,.func (.func 189) #[] #[.pointer (U ⟨w.heap.size+1+1+1+1,0,V⟩)],.int .i64 (k:Int),i9 (c k),undef,undef,undef,undef,undef,undef,undef],defers:=[] }) k.1 a' W)
  (λk a'=>qaz k.1 a') ?assign ?body ?done ?stop
 case assign=>
  rintro l f ⟨k,G⟩ W K hi P;unfold i9 gj
  gi_wp2
  have hsz1:=hi.sz;have hB:=(ufi w.heap.size W).alloc (by have:=hi.bel.size;omega) (.cells (gj (c k)) 140);exact P _ _ ((KeepsOthers.alloc _ _).from _) (cw.below ((ufi _ W).alloc (ue9 _) _) hi.bel.size (by omega) (by omega))
   ⟨hi.x3.alloc _,(udb _ _ _ (by omega)).trans hi.x4,hi.x5.alloc _,hi.xs.alloc _,hi.bel.alloc hi.bel.size _,by simp;omega,hi.no⟩ ⟨W.heap.size,by omega,World.alloc_heap_new W _,rfl⟩
 case body=>
  rintro l f ⟨k,G⟩ a' W hl ⟨r,hr⟩ hi ⟨Bx,hBx,bX,rfl⟩ hlt;have O:=bX;unfold gj at O;obtain⟨y0,y1,y2,y3,y4,y5,y6,y7,y8⟩:=zj4 λj _=>aO O j;simp at y0 y1 y2 y3 y4 y5 y6 y7 y8;have c3:=hi.x3.cell;have v:=t k W G hi.bel;unfold i9 gj at v;clear O hr hc t
  gi_wp2
  refine⟨uT,?_⟩;refine(CallsIn.inRound l (callsIn_wide.2 v)).mono ?_;rintro e i ⟨d,rfl,C,hres⟩;have hsz1:=hi.sz;have H:=(C.block (w.heap.size+2) (by omega)).trans hi.x4;have R:i.heap[w.heap.size+3]?= _:=(C.block (w.heap.size+3) (by omega)).trans hi.x5;unfold iZ at H;obtain⟨u0,u1,u2,u3,u4,u5,u6,u7,u8⟩:=zj4 λj _=>aO H j;simp at u0 u1 u2 u3 u4 u5 u6 u7 u8;have ff:∀ j,i.frozen? ⟨w.heap.size+2,j,V⟩=false:=λj=>by simp[World.frozen?,H]
  have g5:=aO R 0;have h5:i.frozen? ⟨w.heap.size+3,0,V⟩=false:=by simp[World.frozen?,R]
  gi_wp2
  have s:(c k).p 0<=day:=by assumption
  have s4:=Vh H (.int .i64 (d.p 0)) (.int .i64 (d.p 1)) (.int .i64 (d.p 2)) (.int .i64 (d.p 3)) (.int .i64 (d.p 4)) (.slice (d.A 0) (d.l 0) (d.c 0)) (.slice (d.A 1) (d.l 1) (d.c 1)) (.slice (d.A 2) (d.l 2) (d.c 2)) (.int .i64 (d.p 5));have s5:Boxed (i.setCells (w.heap.size+2) 0 [.int .i64 (d.p 0),.int .i64 (d.p 1),.int .i64 (d.p 2),.int .i64 (d.p 3),.int .i64 (d.p 4),.slice (d.A 0) (d.l 0) (d.c 0),.slice (d.A 1) (d.l 1) (d.c 1),.slice (d.A 2) (d.l 2) (d.c 2),.int .i64 (d.p 5)]) (w.heap.size+3) 47 (.int .i64 0):=(DE (by omega) _ _ _).trans R;have kk:=KK (B:=w.heap.size+2) [.int .i64 (d.p 0),.int .i64 (d.p 1),.int .i64 (d.p 2),.int .i64 (d.p 3),.int .i64 (d.p 4),.slice (d.A 0) (d.l 0) (d.c 0),.slice (d.A 1) (d.l 1) (d.c 1),.slice (d.A 2) (d.l 2) (d.c 2),.int .i64 (d.p 5)] 0 i;have bb:=KJ (B:=w.heap.size+2) (n:=w.heap.size) (by omega) [.int .i64 (d.p 0),.int .i64 (d.p 1),.int .i64 (d.p 2),.int .i64 (d.p 3),.int .i64 (d.p 4),.slice (d.A 0) (d.l 0) (d.c 0),.slice (d.A 1) (d.l 1) (d.c 1),.slice (d.A 2) (d.l 2) (d.c 2),.int .i64 (d.p 5)] 0 i;have oo:∀ q,q≠w.heap.size+2->(i.setCells (w.heap.size+2) 0 [.int .i64 (d.p 0),.int .i64 (d.p 1),.int .i64 (d.p 2),.int .i64 (d.p 3),.int .i64 (d.p 4),.slice (d.A 0) (d.l 0) (d.c 0),.slice (d.A 1) (d.l 1) (d.c 1),.slice (d.A 2) (d.l 2) (d.c 2),.int .i64 (d.p 5)]).heap[q]?= i.heap[q]? := λq a=>DE a _ _ _;show KeepsFrom _ W ((i.setCells (w.heap.size+2) 0 [.int .i64 (d.p 0),.int .i64 (d.p 1),.int .i64 (d.p 2),.int .i64 (d.p 3),.int .i64 (d.p 4),.slice (d.A 0) (d.l 0) (d.c 0),.slice (d.A 1) (d.l 1) (d.c 1),.slice (d.A 2) (d.l 2) (d.c 2),.int .i64 (d.p 5)]).setCell ⟨w.heap.size+3,0,V⟩ (.int .i64 0))/\AtX w F day x (λk=>(c k).p 0) .ret (f++[⟨k,G⟩]) ((i.setCells (w.heap.size+2) 0 [.int .i64 (d.p 0),.int .i64 (d.p 1),.int .i64 (d.p 2),.int .i64 (d.p 3),.int .i64 (d.p 4),.slice (d.A 0) (d.l 0) (d.c 0),.slice (d.A 1) (d.l 1) (d.c 1),.slice (d.A 2) (d.l 2) (d.c 2),.int .i64 (d.p 5)]).setCell ⟨w.heap.size+3,0,V⟩ (.int .i64 0));generalize i.setCells (w.heap.size+2) 0 [.int .i64 (d.p 0),.int .i64 (d.p 1),.int .i64 (d.p 2),.int .i64 (d.p 3),.int .i64 (d.p 4),.slice (d.A 0) (d.l 0) (d.c 0),.slice (d.A 1) (d.l 1) (d.c 1),.slice (d.A 2) (d.l 2) (d.c 2),.int .i64 (d.p 5)]=W2 at *;obtain⟨F',hF1,hF2⟩:=hres;have T:Below w.heap.size w W2:=(hi.bel.trans (C.mono hi.bel.size)).trans bb;have hne:∀ q,F' q->q≠w.heap.size+2/\q≠w.heap.size+3:=λq a=>by
   have hs0:=hi.sz;rcases(hF2 q a).1 with h|h
   have:=hbF q h;omega;omega
  have z:∀ q,F' q->(W2.setCell ⟨w.heap.size+3,0,V⟩ (.int .i64 0)).heap[q]?= i.heap[q]? := λq a=>(uck _ _ q _ (hne q a).2).trans (oo q (hne q a).1);refine⟨(qoy C).trans ((kk.trans (KeepsOthers.setCell _ _ _)).from _),rfl,⟨f,⟨k,G⟩,d,F',rfl,hi.no,s,(uck _ _ _ _ (by show w.heap.size+2≠w.heap.size+3;omega)).trans s4,hF1.mono (λ_ h=>h) z,λq a=>?_⟩,s5.set _,T.setCell (p:=⟨w.heap.size+3,0,V⟩) (by show w.heap.size<=w.heap.size+3;omega) _⟩;obtain⟨q1,arr,ty,p,q2⟩:=hF2 q a;exact⟨q1.elim .inl (λh=>.inr (ueo hi.bel.size h)),arr,ty,p,(z q a).trans q2⟩;have s:¬ (c k).p 0<=day:=by simp_all
  exact⟨KeepsFrom.refl _ _,cw.refl _ _ _ _,hi.x3,hi.x4,hi.x5,hi.xs,hi.bel,hi.sz,λq a=>(uds.1 a).elim (hi.no q) (λe=>by simp at e;subst e;exact s)⟩
 case done=>
  rintro D zs W hD hzs hi P;have H:=hi.x4;have R:W.heap[w.heap.size+3]?= _:=hi.x5;unfold iZ at H;obtain⟨u0,u1,u2,u3,u4,u5,u6,u7,u8⟩:=zj4 λj _=>aO H j;simp at u0 u1 u2 u3 u4 u5 u6 u7 u8;have ff:∀ j,W.frozen? ⟨w.heap.size+2,j,V⟩=false:=λj=>by simp[World.frozen?,H]
  have g5:=aO R 0;have h5:W.frozen? ⟨w.heap.size+3,0,V⟩=false:=by simp[World.frozen?,R]
  clear t hc
  gi_wp2
  have s4:=Vh H (.int .i64 0) (.int .i64 0) (.int .i64 0) (.int .i64 0) (.int .i64 0) (.slice V 0 0) (.slice V 0 0) (.slice V 0 0) (.int .i64 0);have s5:Boxed (W.setCells (w.heap.size+2) 0 [.int .i64 0,.int .i64 0,.int .i64 0,.int .i64 0,.int .i64 0,.slice V 0 0,.slice V 0 0,.slice V 0 0,.int .i64 0]) (w.heap.size+3) 47 (.int .i64 0):=(DE (by omega) _ _ _).trans R;have kk:=(KK (B:=w.heap.size+2) [.int .i64 0,.int .i64 0,.int .i64 0,.int .i64 0,.int .i64 0,.slice V 0 0,.slice V 0 0,.slice V 0 0,.int .i64 0] 0 W).same D _ P rfl;have bb:=hi.bel.trans (KJ (B:=w.heap.size+2) (n:=w.heap.size) (by omega) [.int .i64 0,.int .i64 0,.int .i64 0,.int .i64 0,.int .i64 0,.slice V 0 0,.slice V 0 0,.slice V 0 0,.int .i64 0] 0 W);have kk':=(KeepsOthers.setCell (W.setCells (w.heap.size+2) 0 [.int .i64 0,.int .i64 0,.int .i64 0,.int .i64 0,.int .i64 0,.slice V 0 0,.slice V 0 0,.slice V 0 0,.int .i64 0]) ⟨w.heap.size+3,0,V⟩ (.int .i64 7)).same D _ kk rfl;have bb':=bb.setCell (p:=⟨w.heap.size+3,0,V⟩) (by show w.heap.size<=w.heap.size+3;omega) (.int .i64 7);refine NL ((uck _ _ _ _ (by show w.heap.size+2≠w.heap.size+3;omega)).trans s4) (s5.set (.int .i64 7)) kk' (by omega) ⟨.inl ⟨rfl,λk hk=>?_⟩,bb'.trans (belowK_b (w:=w) (ue9 _) _ D _ _ (by omega) kk' rfl rfl)⟩;have hm:k∈zs.map Fin.val:=by
   rw[hzs];exact ue6.2 ⟨len-1-k,ud9.2 (by omega),by show len-1-(len-1-k)=k;omega⟩
  obtain⟨q,a,rfl⟩:=ue6.1 hm;exact hi.no q a
 case stop=>
  rintro D cd f W hD ⟨m,hm,y⟩ h P;obtain rfl:=h.ret
  gi_wp2
  obtain⟨Q,k,d,F',e1,e2,e3,e4,e5,e6⟩:=h.res;refine NL e4 h.x5 P (by omega) ⟨.inr ⟨k.1,d,F',k.2,e3,λj hj1 hj2=>?_,rfl,?_,λq a=>?_⟩,h.bel.trans (belowK_b (w:=w) (ue9 _) _ D _ _ (by omega) P rfl rfl)⟩;subst e1;have hl:=uft List.length y;rw[BQ,ud2,ub6]at hl;obtain rfl:m=Q.length+1:=by simpa using hl.symm
  rw[tX,udw]at y;obtain⟨h2,h3⟩:=List.append_inj' y rfl;have hlast:k.1=len-1-Q.length:=by simpa using h3
  have hin:j∈(Q.map Fin.val):=by
   rw[h2];exact ue6.2 ⟨len-1-j,ud9.2 (by omega),by show len-1-(len-1-j)=j;omega⟩
  obtain⟨q,a,rfl⟩:=ue6.1 hin;exact e2 q a;refine e5.mono (λ_ h=>h) (λq a=>?_);obtain⟨_,arr,ty,p,E⟩:=e6 q a;exact World.putObj_heap_other (λe=>by subst e;rw[P]at E;cases E);obtain⟨h1,arr,ty,p,E⟩:=e6 q a;refine⟨h1,?_⟩;have:=(uaf.1 E).1;simpa[World.putObj]using this
end
section
def zc6{l:List aQ.den}(h:aA w F (.sl aQ) l (λ_ u=>u=v)):
  ∃ (A:Option Addr) (f:Nat) (b off:Nat) (c:Nat->VC),v=.slice A l.length f/\(0<l.length->A=U ⟨b,off,V⟩/\F b) /\
   (∀ k j u,k<l.length->(gj (c k))[j]?= U u->w.cell? ⟨b,off+(k*9+j),V⟩=U u)/\∀ k x,l[k]?= U x->(c k).p 0=x.1/\bu w F aQ x (i9 (c k)):=by
 obtain⟨A,f,D,S,E,B⟩:=h;by_cases K:0<l.length;obtain⟨ad,G,N,O⟩:=B 0 l[0] (uaq K);have g:ad.spot=none:=by
  have a:w.cell? (ad.add (0*aQ.size+0))=U (.int .i64 l[0].1):=O.1.1;have P:ad.add (0*aQ.size+0)=ad:=by simp[Addr.add]
  rw[P]at a;unfold World.cell? at a;split at a;split at a;cases a;rename_i g;cases t:ad.spot with
  |none=>rfl
  |some _=>rw[t]at g;exact absurd rfl g
  cases a
 obtain⟨b,off,sp⟩:=ad;subst g;have n:∀ k,∃ d:VC,∀ x,l[k]?= U x->(∀ j u,(gj d)[j]?= U u->w.cell? ⟨b,off+(k*9+j),V⟩=U u)/\d.p 0=x.1/\bu w F aQ x (i9 d):=by
  intro k;cases s:l[k]? with
  |none=>exact⟨⟨λ_=>0,λ_=>V,λ_=>0,λ_=>0⟩,λx z=>by cases z⟩
  |some x=>
   obtain⟨M,m,_,L⟩:=B k x s;rw[G]at m;cases m;obtain⟨d,H,C⟩:=Wz L;refine⟨d,λy R=>?_⟩;cases R;have i:=λj u q=>by
    have:=H j u q;rw[show aQ.size=9 from rfl]at this;have e:(⟨b,off,V⟩:Addr).add (k*9+j)=⟨b,off+(k*9+j),V⟩:=by unfold Addr.add;split<;>simp_all
    rw[e]at this;exact this
   refine⟨i,C,rfl,⟨λ_=>⟨_,rfl⟩,λ_=>rfl⟩,?_⟩;refine L.mono (λ_ h=>h) (λ_ _=>rfl) λj u q Q=>?_;have r:=q;have E:=H j (gj d)[j] (uam r);have B:=Q.symm.trans E;show(gj d)[j]?= U u;rw[uam r];exact B.symm
 obtain⟨c,o⟩:=Classical.axiomOfChoice n;refine⟨A,f,b,off,c,D.symm,λ_=>⟨G,N⟩,λk j u s q=>(o k l[k] (uaq s)).1 j u q,λk x z=>(o k x z).2⟩;refine⟨A,f,0,0,λ_=>⟨λ_=>0,λ_=>V,λ_=>0,λ_=>0⟩,D.symm,λh=>absurd h K,λk j u s=>absurd s (by omega),λk x z=>?_⟩;have:=(uak.1 z).1;omega
def LB(day:Int)(b:List aQ.den):(a:List aQ.den)->(∀ v∈a,¬ v.1<=day)->cq day (a++b)=cq day b
 |[],_=>rfl
 |v::a,h=>by
  have c:=h v (by simp);have:cq day (v::a++b)=cq day (a++b):=ufw c;rw[this];exact LB day b a λx d=>h x (by simp[d])
def zc1{l:List aQ.den}(h:∀ v∈l,¬ v.1<=day):cq day l.reverse=(yp,7):=by
 have:=LB day [] l.reverse λv a=>h v (List.mem_reverse.1 a);rw[udr]at this;exact this
def zc2{l:List aQ.den}{k:Nat}{x:aQ.den}(d:l[k]?= U x)(g:x.1<=day)(h:∀ j y,k<j->l[j]?= U y->¬ y.1<=day):cq day l.reverse=(x,0):=by
 obtain⟨b,rfl⟩:=uak.1 d;have a:l=l.take k++l[k]::l.drop (k+1):=by
  rw[<- ual b,uba]
 have e:l.reverse=(l.drop (k+1)).reverse++(l[k]::(l.take k).reverse):=by
  conv=>lhs;rw[a]
  simp
 rw[e,LB];exact ufv g;intro v f;obtain⟨j,c⟩:=ubs (List.mem_reverse.1 f);rw[ub1]at c;exact h _ v (by omega) c
def bJ(t:zll.den):Prop:=t.1.length<=1000000/\∀ v∈t.1,LC v
def G6:Ct:=⟨[.d zll,.d i64],[aQ,i64],λx=>((cq x.2.1 x.1.1.reverse).1,(cq x.2.1 x.1.1.reverse).2,()),λx=>[bJ x.1]⟩
def qt9(w:World)(F:Nat->Prop):bu w F aQ yp (.agg iZ):=by
 have a:inR .i64 0:=⟨by decide,by decide⟩;refine⟨rfl,⟨λ_=>⟨_,rfl⟩,λ_=>rfl⟩,⟨rfl,a⟩,⟨⟨rfl,a⟩,⟨rfl,a⟩,⟨rfl,a⟩,⟨rfl,a⟩,uT⟩,?_,?_,?_,⟨rfl,a⟩,uT⟩
 all_goals exact⟨V,0,rfl,ue9 _,uff _,λi x b=>by simp[yp]at b⟩
def Uz{x:aQ.den}{n:Int}(h:bu w F aQ x u)(a : -9223372036854775808<=n/\n<=9223372036854775807):gT w F [aQ,i64] (x,n,()) (.tuple #[u,.int .i64 n]):=
 ⟨_,rfl,_,_,rfl,h,_,_,rfl,⟨rfl,⟨λh=>(by cases h),λ⟨cs,h⟩=>(by cases h)⟩,rfl,a⟩,rfl⟩
def zbr:af prog 86 G6:=by
 refine⟨enters (fn:=f86) (by kernel_rfl) rfl rfl,λw F xs vs hbd hr hok=>?_⟩;obtain⟨⟨l,ut⟩,day,_⟩:=xs;obtain⟨va,vs',rfl,hva,vb,vs'',rfl,hvb,hn⟩:=hr;cases hn;have hva':bu w F zll (l,ut) va:=hva;have hvb':bu w F i64 day vb:=hvb;have hb2:vb=.int .i64 day:=by
  have h:aE prog w F (λ_ _=>True) (dE i64 day) vb:=fT hvb';exact h.2.1
 subst hb2;obtain⟨cs,rfl⟩:=hva'.2.1.1 rfl;have hs:cs.size=1:=hva'.1;obtain⟨hsl,_⟩:aA w F (.sl aQ) l (λj u=>cs[j]?= some u)/\True:=⟨hva'.2.2.1,uT⟩;have hcs:cs = #[cs.getD 0 undef]:=by
  apply ufn
  ·simp[hs]
  ·intro i h1 h2;have:i=0:=by omega
   subst this;simp[Array.getD,hs]
 rw[hcs];have hsl':aA w F (.sl aQ) l (λ_ u=>u=cs.getD 0 undef):=by
  obtain⟨A,c,h1,h2⟩:=hsl;refine⟨A,c,?_,h2⟩;simp[Array.getD,hs];rw[uam (by omega)]at h1;exact(ud3 h1).symm
 obtain⟨A,cap,b,off,c,e1,hA,hc,hx⟩:=zc6 hsl';rw[e1];obtain⟨hfew1,hfew2⟩:bJ (l,ut):=hok;have key:=qa5 b off l.length cap day c (λk=>l.getD k aQ.dflt) F w hfew1 A (λh=>⟨(hA h).1,hbd b (hA h).2⟩) hbd hc (λk W hk hW=>by
  obtain⟨_,h2⟩:=hx k l[k] (uaq hk);have e:l.getD k aQ.dflt=l[k]:=by rw[uah,uaq hk];rfl
  rw[e];exact qvx hbd hW h2 (hfew2 _ (udi hk)))
 refine(callsIn_wide.1 key).mono ?_;rintro e w' ⟨he,hbel⟩;rcases he with ⟨rfl,hno⟩|⟨k,d,F',hk,hday,hafter,rfl,hrep,hF'⟩
 ·have hv:cq day l.reverse=(yp,7):=zc1 λv hv=>by
   obtain⟨j,hj⟩:=ubs hv;have:=hno j (uak.1 hj).1;dsimp only at this;rw[(hx j v hj).1]at this;exact this
  refine⟨_,F,rfl,hbel,λ_ h=>h,λb hb=>⟨.inl hb,ucb (hbd b hb) hbel.size⟩,?_⟩;show gT w' F [aQ,i64] ((cq day l.reverse).1,(cq day l.reverse).2,()) _;rw[hv];exact Uz (qt9 _ _) (n:=7) (by decide)
 ·have hlk:l[k]?= some l[k]:=uaq hk;have hv:cq day l.reverse=(l[k],0):=zc2 hlk (by dsimp only at hday;rw[(hx k _ hlk).1]at hday;exact hday) λj y hj hy=>by
   have:=hafter j hj (uak.1 hy).1;dsimp only at this;rw[(hx j y hy).1]at this;exact this
  have e:l.getD k aQ.dflt=l[k]:=by rw[uah,hlk];rfl
  dsimp only at hrep;rw[e]at hrep;refine⟨_,λb=>F b\/F' b,rfl,hbel,λ_ h=>.inl h,λb hb=>?_,?_⟩
  ·rcases hb with h|h
   ·exact⟨.inl h,ucb (hbd b h) hbel.size⟩
   ·exact hF' b h
  ·show gT w' _ [aQ,i64] ((cq day l.reverse).1,(cq day l.reverse).2,()) _;rw[hv];exact Uz (hrep.mono (λ_ h=>.inr h) (λ_ _=>rfl)) (n:=0) (by decide)
attribute [local go_sem] Oper.semAt_some
def qam(d c a:Nat)(k:Int)(A:Option Addr)(len b:Nat)(w:World)(h:Boxed w d 3 (.int .i64 k))(g:Boxed w c 305 (.slice A len b))(f:Boxed w a 4 (.bool Y)):
  CallsD prog 158 #[.pointer (U ⟨d,0,V⟩),.pointer (U ⟨c,0,V⟩),.pointer (U ⟨a,0,V⟩)] .returning w λe i w'=>
   i=.returning/\(∃ v,e=.returned v)/\w'=w.setCell ⟨a,0,V⟩ (.bool (J (k=len))):=by
 have j:=h.cell;have l:=g.cell;have m:=f.cell;have n:=f.frozen
 go_enter_d func158,ntmps158
 go_wp2
 go_end0
 exact⟨⟨_,rfl⟩,by rw[Bool.beq_eq_decide_eq]⟩
structure AllI (w:World) (b off cap:Nat) (bs:Nat->Bool) (k:Nat) (W:World):Prop where
 x0:Boxed W w.heap.size 305 (.slice (some ⟨b,off,none⟩) 4 cap)
 x1:Boxed W (w.heap.size+1) 4 (.bool false)
 x2:Boxed W (w.heap.size+2) 3 (.int .i64 k)
 bel:Below w.heap.size w W
 sz:w.heap.size+3<=W.heap.size
 yes:∀ j,j<k->bs j=true
structure FourFn (w:World) (b off:Nat) (g:Nat->Nat) (caps:Nat->Array Value) (bs:Nat->Bool):Prop where
 blk:b<w.heap.size
 cell:∀ k,k<4->w.cell? ⟨b,off+k,none⟩=some (.func (.func (g k)) #[] (caps k))
 enter:∀ k,k<4->∀ args w,(callFunc (g k) args).run prog w=.ok (.enter (g k) args) w
 call:∀ k,k<4->∀ W,Below w.heap.size w W->Calls prog (g k) (caps k) W λe W'=>e=.returned (.bool (bs k))/\Below W.heap.size W W'
def ND{w W: World}{b off a: Nat}{bs: Nat -> Bool}{k: Nat}{r: Bool}{s t u x y z d g h i j l m n o: Value}(hi : AllI w b off a bs k W)(A : J ((k : Int)=(4 : Nat)) = r):
    bodyPostD prog f98 (λe w' => e=.returned (.bool r) /\ Below w.heap.size w w') .ret
      { tmps := #[s, .pointer (U ⟨w.heap.size, 0, V⟩), .pointer (U ⟨w.heap.size + 1, 0, V⟩), .pointer (U ⟨w.heap.size + 1 + 1, 0, V⟩), t, u, .func (.func 158) #[] #[.pointer (U ⟨w.heap.size + 1 + 1, 0, V⟩), .pointer (U ⟨w.heap.size, 0, V⟩), .pointer (U ⟨w.heap.size + 1, 0, V⟩)], x, y, z, d, g, h, i, j, l, m, n, o],
        defers := [{ target := .fn (.func 158) #[.pointer (U ⟨w.heap.size + 1 + 1, 0, V⟩), .pointer (U ⟨w.heap.size, 0, V⟩), .pointer (U ⟨w.heap.size + 1, 0, V⟩)], args := #[] }] } W := by
  refine ufe (f := 158) (args := #[.pointer (U ⟨w.heap.size + 2, 0, V⟩), .pointer (U ⟨w.heap.size, 0, V⟩), .pointer (U ⟨w.heap.size + 1, 0, V⟩)]) (by simp) (by simp[go_sem]) ?_
  refine(qam (w.heap.size + 2) w.heap.size (w.heap.size + 1) k _ 4 a W hi.x2 hi.x0 hi.x1).mono ?_
  rintro e B w'' ⟨rfl, ⟨v, rfl⟩, rfl⟩
  have c := (hi.x1.set (.bool (J ((k : Int)=(4 : Nat))))).cell
  have q := hi.bel.setCell (p := ⟨w.heap.size + 1, 0, V⟩) (by show w.heap.size <= w.heap.size + 1;omega) (.bool (J ((k : Int)=(4 : Nat))))
  rw[A]at c q |-
  refine⟨.bool r, ?_, rfl, q⟩
  simp[results, results98, go_sem, c]
def qao(b off cap : Nat)(g : Nat -> Nat)(caps : Nat -> Array Value)(bs : Nat -> Bool)(w : World)(h : FourFn w b off g caps bs):
    Calls prog 98 #[.slice (some ⟨b, off, none⟩) 4 cap] w λe w' => e=.returned (.bool (bs 0 && (bs 1 && (bs 2 && bs 3)))) /\ Below w.heap.size w w' := by
  have hmf : ∀ (fn : Fn) (first cap : Array Value) (w : World), (Instr.makeFunc fn first cap).run prog w=.ok (.func fn first cap) w := λ_ _ _ _ => rfl
  go_enter_defers func98, ntmps98
  go_wp2
  have z0 := (udb ((w.alloc (.cells #[.slice (some ⟨b, off, none⟩) 4 cap] 305)).alloc (.cells #[.bool false] 4)) (.cells #[.int .i64 0] 3) w.heap.size (by simp only[udg];omega)).trans ((udb _ _ _ (by simp only[udg];omega)).trans (World.alloc_heap_new w (.cells #[.slice (some ⟨b, off, none⟩) 4 cap] 305)))
  have z1' := World.alloc_heap_new (w.alloc (.cells #[.slice (some ⟨b, off, none⟩) 4 cap] 305)) (.cells #[.bool false] 4)
  rw[udg]at z1'
  have z1 := (udb ((w.alloc (.cells #[.slice (some ⟨b, off, none⟩) 4 cap] 305)).alloc (.cells #[.bool false] 4)) (.cells #[.int .i64 0] 3) (w.heap.size + 1) (by simp only[udg];omega)).trans z1'
  have z2 : (((w.alloc (.cells #[.slice (some ⟨b, off, none⟩) 4 cap] 305)).alloc (.cells #[.bool false] 4)).alloc (.cells #[.int .i64 0] 3)).heap[w.heap.size + 2]?= some (.cells #[.int .i64 0] 3 (0, 0)) := by
    have := World.alloc_heap_new ((w.alloc (.cells #[.slice (some ⟨b, off, none⟩) 4 cap] 305)).alloc (.cells #[.bool false] 4)) (.cells #[.int .i64 0] 3)
    rwa [udg, udg]at this
  have hbel : Below w.heap.size w (((w.alloc (.cells #[.slice (some ⟨b, off, none⟩) 4 cap] 305)).alloc (.cells #[.bool false] 4)).alloc (.cells #[.int .i64 0] 3)) := (((ufi _ w).alloc (ue9 _) _).alloc (by simp) _).alloc (by simp;omega) _
  have hsz : (((w.alloc (.cells #[.slice (some ⟨b, off, none⟩) 4 cap] 305)).alloc (.cells #[.bool false] 4)).alloc (.cells #[.int .i64 0] 3)).heap.size = w.heap.size + 3 := by simp
  have hI0 : AllI w b off cap bs 0 (((w.alloc (.cells #[.slice (some ⟨b, off, none⟩) 4 cap] 305)).alloc (.cells #[.bool false] 4)).alloc (.cells #[.int .i64 0] 3)) := ⟨z0, z1, z2, hbel, by omega, λj hj => by omega⟩
  go_loopw [9] (λi wr => ∃ k : Nat, k <= 4 /\ i=.int .i64 k /\ AllI w b off cap bs k wr)
    (λi _ => 4 - (intOf i).toNat)
  case atStart => exact⟨0, by omega, rfl, hI0⟩
  case round =>
    obtain⟨k, hk, rfl, hi⟩ := hrel
    by_cases hlt : k < 4
    · have hc : wr.cell? ⟨b, off + k, none⟩ = some (.func (.func (g k)) #[] (caps k)) := (hi.bel.cell (p := ⟨b, off + k, none⟩) h.blk).trans (h.cell k hlt)
      have he := h.enter k hlt
      have c2 := hi.x2.cell
      have f2 := hi.x2.frozen
      go_wp2
      refine(h.call k hlt wr hi.bel).mono ?_
      rintro e w1 ⟨rfl, hb1⟩
      have hs := hi.sz
      have y0 : Boxed w1 _ _ _ := (hb1.block _ (by omega)).trans hi.x0
      have y1 : Boxed w1 _ _ _ := (hb1.block (w.heap.size + 1) (by omega)).trans hi.x1
      have y2 : Boxed w1 _ _ _ := (hb1.block (w.heap.size + 2) (by omega)).trans hi.x2
      have hi1 : AllI w b off cap bs k w1 := ⟨y0, y1, y2, hi.bel.trans (hb1.mono hi.bel.size), ueo hi.sz hb1.size, hi.yes⟩
      have d2 := y2.cell
      have e2 := y2.frozen
      clear hc he c2 f2
      cases hbk : bs k with
      | false =>
        go_wp2
        refine ND hi1 ?_
        have h4 : ¬ ((k : Int)=(4 : Nat)) := by omega
        rw[udv h4]
        have : k = 0 \/ k = 1 \/ k = 2 \/ k = 3 := by omega
        rcases this with rfl | rfl | rfl | rfl <;> rw[hbk] <;> simp
      | true =>
        go_wp2
        go_roundw
        case rel => exact⟨k + 1, by omega, by simp, y0.other (by omega) _, y1.other (by omega) _, y2.set _, hi1.bel.setCell (p := ⟨w.heap.size + 2, 0, none⟩) (by show w.heap.size <= w.heap.size + 2;omega) _, by simp;exact hi1.sz, λj hj => by
          by_cases hjk : j = k
          · rw[hjk];exact hbk
          · exact hi.yes j (by omega)⟩
        case measure => simp[intOf];omega
    · obtain rfl : k = 4 := by omega
      go_wp2
      refine ND hi ?_
      rw[hi.yes 0 (by omega), hi.yes 1 (by omega), hi.yes 2 (by omega), hi.yes 3 (by omega)]
      rfl
end
section
attribute [local go_sem] Oper.semAt_some
noncomputable def Xq:Cx:=cx [(100,jb),(102,tv),(104,oy),(106,wP)] []
def zK:CxOK prog Xq:=aP aG ⟨Ky,SK,K2,VS,uT⟩ trivial
def tq(k:Nat)(t:dm.den):Bool:=match k with
 |0=>(jb.f (t.1,())).1
 |1=>bif J ((tv.f (t.1,())).1>=1)then J ((tv.f (t.1,())).1<=1100)else Y
 |2=>(oy.f (t.2.1,())).1
 |_=>(wP.f (t.2.2.1,())).1
def wX(k:Nat):Ct:=⟨[.ptr dm],[.bool],λx=>(tq k x.1,()),λ_=>[]⟩
def zb2:af prog 99 (wX 0):=
 cQ (aS zK f99 (fr:=λx=>Jv (tq 0 x.1,())) (ps:=[.ptr dm]) (rs:=[.bool])) _ _ (λ_ _ _ _ _ _=>⟨uT,rfl⟩)
def zb3:af prog 101 (wX 1):=
 cQ (aS zK f101 (fr:=λx=>Jv (tq 1 x.1,())) (ps:=[.ptr dm]) (rs:=[.bool])) _ _ (λ_ _ _ _ _ _=>⟨uT,rfl⟩)
def zb4:af prog 103 (wX 2):=
 cQ (aS zK f103 (fr:=λx=>Jv (tq 2 x.1,())) (ps:=[.ptr dm]) (rs:=[.bool])) _ _ (λ_ _ _ _ _ _=>⟨uT,rfl⟩)
def zb5:af prog 105 (wX 3):=
 cQ (aS zK f105 (fr:=λx=>Jv (tq 3 x.1,())) (ps:=[.ptr dm]) (rs:=[.bool])) _ _ (λ_ _ _ _ _ _=>⟨uT,rfl⟩)
def dA:Nat->Nat
 |0=>99
 |1=>101
 |2=>103
 |_=>105
def Wd:(k:Nat)->k<4->af prog (dA k) (wX k)
 |0,_=>zb2
 |1,_=>zb3
 |2,_=>zb4
 |3,_=>zb5
 |n+4,h=>absurd h (by omega)
def zb6{b:Int}(g:dN (a,b,())=Z):jT (a,b,())=Z/\J (b-a>=1)=true:=by
 obtain⟨d,e,f⟩:=nc.1 g;refine⟨?_,?_⟩;have c:a<=b:=uet e;simp only[jT,udc,ucu];exact⟨d,c,f⟩;simp;omega
def zbx(t:dm.den):(tq 0 t&&(tq 1 t&&(tq 2 t&&tq 3 t)))=ju t:=by
 obtain⟨⟨a,b,_⟩,r,cs,_⟩:=t;show(jT (a,b,())&&((bif J (ry a b>=1)then J (ry a b<=1100)else Y)&&(n8 r.1 r.2.1 r.2.2.1 r.2.2.2.1&&l7 cs)))=(dN (a,b,())&&(J (b-a<=1100)&&(n8 r.1 r.2.1 r.2.2.1 r.2.2.2.1&&l7 cs)));by_cases c:dN (a,b,())=Z;have f:ry a b=b-a:=ufv c;obtain⟨g,e⟩:=zb6 c;rw[f,g,c,e];rfl;have f:ry a b=0:=ufw c;have d:dN (a,b,())=false:=by simpa using c
 rw[f,d];simp
def zbw (d f g h i j k:Value) (R:Ending->World->Prop) (w:World)
  (c:∀ a,Calls prog 98 #[.slice (U ⟨w.heap.size+1,0,V⟩) 4 a] ((w.alloc (.cells #[d,f,g,h,i,j,k] 36)).alloc (.cells #[.func (.func (dA 0)) #[] #[.pointer (U ⟨w.heap.size,0,V⟩)],.func (.func (dA 1)) #[] #[.pointer (U ⟨w.heap.size,0,V⟩)],.func (.func (dA 2)) #[] #[.pointer (U ⟨w.heap.size,0,V⟩)],.func (.func (dA 3)) #[] #[.pointer (U ⟨w.heap.size,0,V⟩)]] 29)) R)
  (l:∀ e w',R e w'->∃ r,e=.returned (.bool r)) :
  Calls prog 66 #[.agg #[d,f,g,h,i,j,k]] w R:=by
 have m:∀ (fn:Fn) (first a:Array Value) (w:World),(Instr.makeFunc fn first a).run prog w=.ok (.func fn first a) w:=λ_ _ _ _=>rfl
 go_enter func66,ntmps66
 go_wp2_with (go_at_call 98;refine(c 4).mono ?_;rintro e w' b;obtain⟨r,rfl⟩:=l e w' b)
 exact b
def Lm:af prog 66 q9:=by
 refine⟨enters (fn:=f66) (by kernel_rfl) rfl rfl,λw F xs vs p H _=>?_⟩;obtain⟨t,_⟩:=xs;obtain⟨P,Q,rfl,B,G⟩:=H;cases G;have a:bu w F dm t P:=B;obtain⟨cs,rfl⟩:=a.2.1.1 rfl;have K:cs.size=7:=a.1;obtain⟨c,d,f,g,l,m,n,rfl⟩:∃ c d f g l m n,cs = #[c,d,f,g,l,m,n]:=by
  refine⟨cs[0],cs[1],cs[2],cs[3],cs[4],cs[5],cs[6],?_⟩;apply ufn;simp[K];intro i S T;have:i<7:=by omega
  match i,this with
  |0,_|1,_|2,_|3,_|4,_|5,_|6,_=>rfl
 have L:((w.alloc (.cells #[c,d,f,g,l,m,n] 36)).alloc (.cells #[.func (.func (dA 0)) #[] #[.pointer (U ⟨w.heap.size,0,V⟩)],.func (.func (dA 1)) #[] #[.pointer (U ⟨w.heap.size,0,V⟩)],.func (.func (dA 2)) #[] #[.pointer (U ⟨w.heap.size,0,V⟩)],.func (.func (dA 3)) #[] #[.pointer (U ⟨w.heap.size,0,V⟩)]] 29)).heap.size=w.heap.size+2:=by simp
 have R:=(udb (w.alloc (.cells #[c,d,f,g,l,m,n] 36)) (.cells #[.func (.func (dA 0)) #[] #[.pointer (U ⟨w.heap.size,0,V⟩)],.func (.func (dA 1)) #[] #[.pointer (U ⟨w.heap.size,0,V⟩)],.func (.func (dA 2)) #[] #[.pointer (U ⟨w.heap.size,0,V⟩)],.func (.func (dA 3)) #[] #[.pointer (U ⟨w.heap.size,0,V⟩)]] 29) w.heap.size (by simp only[udg];omega)).trans (World.alloc_heap_new w (.cells #[c,d,f,g,l,m,n] 36));have D:=World.alloc_heap_new (w.alloc (.cells #[c,d,f,g,l,m,n] 36)) (.cells #[.func (.func (dA 0)) #[] #[.pointer (U ⟨w.heap.size,0,V⟩)],.func (.func (dA 1)) #[] #[.pointer (U ⟨w.heap.size,0,V⟩)],.func (.func (dA 2)) #[] #[.pointer (U ⟨w.heap.size,0,V⟩)],.func (.func (dA 3)) #[] #[.pointer (U ⟨w.heap.size,0,V⟩)]] 29);have q:Below w.heap.size w ((w.alloc (.cells #[c,d,f,g,l,m,n] 36)).alloc (.cells #[.func (.func (dA 0)) #[] #[.pointer (U ⟨w.heap.size,0,V⟩)],.func (.func (dA 1)) #[] #[.pointer (U ⟨w.heap.size,0,V⟩)],.func (.func (dA 2)) #[] #[.pointer (U ⟨w.heap.size,0,V⟩)],.func (.func (dA 3)) #[] #[.pointer (U ⟨w.heap.size,0,V⟩)]] 29)):=((ufi _ w).alloc (ue9 _) _).alloc (by simp) _;refine(zbw c d f g l m n (λe w'=>e=.returned (.bool (ju t))/\Below w.heap.size w w') w (λx=>?_) (λe w' h=>⟨_,h.1⟩)).mono ?_;rw[udg]at D;generalize ((w.alloc (.cells #[c,d,f,g,l,m,n] 36)).alloc (.cells #[.func (.func (dA 0)) #[] #[.pointer (U ⟨w.heap.size,0,V⟩)],.func (.func (dA 1)) #[] #[.pointer (U ⟨w.heap.size,0,V⟩)],.func (.func (dA 2)) #[] #[.pointer (U ⟨w.heap.size,0,V⟩)],.func (.func (dA 3)) #[] #[.pointer (U ⟨w.heap.size,0,V⟩)]] 29))=C at *;have E:FourFn C (w.heap.size+1) 0 dA (λ_=>#[.pointer (U ⟨w.heap.size,0,V⟩)]) (λk=>tq k t):=by
  refine⟨by omega,λk r=>?_,λk r=>(Wd k r).1,λk r W y=>?_⟩;rw[uex,aO D k]
  match k,r with
  |0,_|1,_|2,_|3,_=>rfl
  have O:W.heap[w.heap.size]?= _:=(y.block _ (by omega)).trans R;have s:aA W (λb=>F b\/b=w.heap.size) dm t (λj u=>W.cell? ((⟨w.heap.size,0,V⟩:Addr).add j)=U u):=by
   refine a.2.2.mono (λ_ h=>.inl h) (λb o=>(y.block b (by have:=p b o;omega)).trans (q.block b (p b o))) λj u _ M=>?_;have e:(⟨w.heap.size,0,V⟩:Addr).add j=⟨w.heap.size,j,V⟩:=by unfold Addr.add;split<;>simp_all
   rw[e,aO O j];exact M
  refine((Wd k r).2 W (λb=>F b\/b=w.heap.size) (t,()) [.pointer (U ⟨w.heap.size,0,V⟩)] (λb o=>?_) ⟨_,[],rfl,⟨⟨w.heap.size,0,V⟩,rfl,.inr rfl,s⟩,rfl⟩ trivial).mono ?_;have:=y.size;rcases o with h|h
  have:=p b h;omega;omega;rintro e W' ⟨v,F',rfl,z,_,_,N⟩;have A:aE prog W' F' (λ_ _=>True) (dE .bool (tq k t)) v:=fT N;exact⟨by rw[show v=.bool (tq k t) from A.2],z⟩
 refine(qao (w.heap.size+1) 0 x dA _ (λk=>tq k t) C E).mono ?_;rintro e w' ⟨rfl,o⟩;rw[zbx];exact⟨rfl,q.trans (o.mono (by omega))⟩;rintro e w' ⟨rfl,o⟩;exact⟨_,F,rfl,o,λ_ h=>h,λb h=>⟨.inl h,ucb (p b h) o.size⟩,rfl,⟨λh=>(by cases h),λ⟨cs,h⟩=>(by cases h)⟩,rfl⟩
abbrev xm:List (Int×Nat):=[(1,160),(2,161),(3,162),(4,163)]
def zT(w:World)(r:Nat)(es:List (Int×Nat)):Prop:=∃ arr a,w.heap[r]?= U (.map arr a)/\arr.toList.map (λe=>(e.key,e.val))=es.map (λx=>(Value.int .i64 x.1,Value.func (.func x.2) #[] #[]))
def Cs{i o:TypeId}{r f:Nat}{es:List (Int×Nat)}{n:Int}(s:P.underlying t=U (.map i o))(m:P.underlying i=U (.int .i64))(h:zT w r es)(q:es.find? (λx=>x.1==n)=V):
  ∃ w',(Instr.mapUpdate t (.map (U r)) (.int .i64 n) (.func (.func f) #[] #[])).run P w=.ok () w'/\zT w' r (es++[(n,f)])/\w'.heap.size=w.heap.size/\(∀ b,b≠r->w'.heap[b]?= w.heap[b]?)/\w'.os=w.os/\w'.tape=w.tape/\w'.output=w.output:=by
 obtain⟨arr,a,g,k⟩:=h;obtain⟨j,l⟩:=Ig arr.toList es 0 k;rw[q]at l;have c:(Instr.checkKey Y 10000 i (.int .i64 n)).run P w=.ok () w:=AZ m Y 9999 n;have e:(getObj r).run P w=.ok (.map arr a) w:=by simp[getObj,Sem.run,g]
 have d:=(uaf.1 g).1;refine⟨{ w with heap:=w.heap.setIfInBounds r (.map (arr.push { key:=.int .i64 n,val:=.func (.func f) #[] #[],born:=a }) (a+1)) },?_,?_,?_,?_,rfl,rfl,rfl⟩;simp[Instr.mapUpdate,ud5 s,e,c,Instr.findKey,ud5 m,l,Go.MapKept.run_setObj_map _ g];refine⟨_,_,by simp[d];exact⟨rfl,rfl⟩,?_⟩;simp[k];simp;intro b p;simp[Ne.symm p]
def Et:prog.underlying 237=U (.map 3 172):=by kernel_rfl
def Eu:prog.underlying 3=U (.int .i64):=by kernel_rfl
def qdd(w:World):Calls prog 107 #[] w λe w'=>e=.returned (.map (U w.heap.size))/\zT w' w.heap.size xm/\Below w.heap.size w w'/\w'.heap.size=w.heap.size+1:=by
 have u:=@run_makeMap prog;have D:zT (w.alloc (.map #[] 0)) w.heap.size []:=⟨#[],0,by show(w.heap.push _)[w.heap.size]?= _;exact Array.getElem?_push_size,rfl⟩
 go_enter func107,ntmps107
 obtain⟨K,E,v,c,o1,i,b1,q⟩:=Cs (n:=1) (f:=160) Et Eu D rfl;obtain⟨L,F,x,d,A,j,m,r⟩:=Cs (n:=2) (f:=161) Et Eu v rfl;obtain⟨M,G,y,g,B,k,o,s⟩:=Cs (n:=3) (f:=162) Et Eu x rfl;obtain⟨N,H,z,h,C,l,p,t⟩:=Cs (n:=4) (f:=163) Et Eu y rfl
 go_wp2
 go_ret
 refine⟨rfl,z,⟨?_,?_,?_,?_,?_⟩,?_⟩;rw[l,k,j,i];rfl;rw[p,o,m,b1];rfl;rw[t,s,r,q];rfl;rw[h,g,d,c,World.alloc,Array.size_push];omega;intro b a;rw[C b (by omega),B b (by omega),A b (by omega),o1 b (by omega),World.alloc];rw[Array.getElem?_push_lt a,uam a];rw[h,g,d,c,World.alloc,Array.size_push]
def Oe:Ct:=⟨[],[.fm xm],λ_=>((),()),λ_=>[]⟩
def qdc:af prog 107 Oe:=by
 refine⟨enters (fn:=f107) (by kernel_rfl) rfl rfl,λw F xs vs f c _=>?_⟩;have j:vs=[]:=c;subst j;refine(qdd w).mono ?_;rintro e w' ⟨rfl,⟨arr,d,c,g⟩,a,i⟩;refine⟨_,λb=>F b\/b=w.heap.size,rfl,a,λb h=>.inl h,λb h=>⟨h.elim .inl (λh=>.inr (by omega)),h.elim (λh=>by have:=f b h;omega) (λh=>by omega)⟩,?_⟩;refine⟨rfl,⟨λh=>(by cases h),λ⟨cs,h⟩=>(by cases h)⟩,w.heap.size,arr,d,rfl,.inr rfl,c,g⟩
end
noncomputable def Xj:Cx:=cx [(107,Oe),(108,zmx),(160,Gb),(161,Gc),(162,Gd),(163,Ge)] []
def Xk:CxOK prog Xj:=aP aG ⟨qdc,Pk,qdh,qdi,qdj,qdk,uT⟩ trivial
def qE(c:az.den):Bool:=bif bif (xm.find? (λx=>x.1==c.2.2.1)).isSome then (zmx.f (c.1,())).1 else Y then (zmx.f (c.2.1,())).1 else Y
def I7(x:ag [.d az]):Fr (aa [.bool]):=
 let a:=x.1.2.2.1;Jd (qE x.1=Z->a=1->True)
  (Jd (qE x.1=Z->a≠1->(a=2->True)/\(a≠2->(a=3->True)/\(a≠3->a=4)))
   (Jv (bif qE x.1 then (bif a==1 then Gb.f (x.1,())else bif a==2 then Gc.f (x.1,())else bif a==3 then Gd.f (x.1,())else Ge.f (x.1,())).1 else Y,())))
def qdg(k:Int):(xm.find? (λx=>x.1==k)).isSome=J (k=1\/k=2\/k=3\/k=4):=by
 rw[udx];simp only[List.find?_isSome,xm,uei,List.not_mem_nil,or_false,ufh,ucu];constructor;rintro⟨x,rfl|rfl|rfl|rfl,h⟩;exact .inl h.symm;exact .inr (.inl h.symm);exact .inr (.inr (.inl h.symm));exact .inr (.inr (.inr h.symm));rintro(h|h|h|h);exact⟨(1,160),.inl rfl,h.symm⟩;exact⟨(2,161),.inr (.inl rfl),h.symm⟩;exact⟨(3,162),.inr (.inr (.inl rfl)),h.symm⟩;exact⟨(4,163),.inr (.inr (.inr rfl)),h.symm⟩
def qc9(c:az.den):(I7 (c,())).ok/\(I7 (c,())).get=(gl c,()):=by
 have g:=qdg c.2.2.1;have i:qE c=Z->c.2.2.1=1\/c.2.2.1=2\/c.2.2.1=3\/c.2.2.1=4:=by
  intro h;unfold qE at h;rw[g]at h;by_cases f:c.2.2.1=1\/c.2.2.1=2\/c.2.2.1=3\/c.2.2.1=4;exact f;rw[udv f]at h;cases h
 refine⟨⟨λ_ _=>uT,λh j=>⟨λ_=>uT,λb=>⟨λ_=>uT,λd=>?_⟩⟩,uT⟩,?_⟩;rcases i h with a|a|a|a
 exact absurd a j;exact absurd a b;exact absurd a d;exact a;show(bif qE c then (bif c.2.2.1==1 then (GY c,())else bif c.2.2.1==2 then (GZ c,())else bif c.2.2.1==3 then (Ha c,())else (Hb c,())).1 else Y,())=(gl c,());unfold qE gl Jp;rw[g];show((bif bif bif _ then g8 c.1 else Y then g8 c.2.1 else Y then _ else Y),())=_;by_cases a:c.2.2.1=1;simp only[a,true_or,decide_true,cond_true,beq_self_eq_true,if_true];cases g8 c.1<;>cases g8 c.2.1<;>rfl
 by_cases b:c.2.2.1=2;simp[b];cases g8 c.1<;>cases g8 c.2.1<;>rfl
 by_cases d:c.2.2.1=3;simp[d];cases g8 c.1<;>cases g8 c.2.1<;>rfl
 by_cases e:c.2.2.1=4;simp[e];cases g8 c.1<;>cases g8 c.2.1<;>rfl
 simp[a,b,d,e]
def GW:af prog 67 ou:=
 conv (aS Xk f67 (fr:=I7) (ps:=[.d az]) (rs:=[.bool])) _ _
  (λ_ _ x _ _ _=>by
   obtain⟨c,_⟩:=x;obtain⟨a,b⟩:=qc9 c;exact⟨a,b⟩)
noncomputable def Xh:Cx:=cx [(67,ou),(66,q9),(140,fM)] []
def LW:CxOK prog Xh:=aP aG ⟨GW,Lm,oT,uT⟩ trivial
abbrev ma:Pt:=⟨34,0,⟨[(8,.d i64),(7,.d i64),(6,.d (.sl az))],[.x 1 114 aC,.r 1 1 0]⟩,⟨[],[.x 1 114 aC,.r 1 1 0]⟩,⟨[(2,.d .bool)],[]⟩⟩
abbrev zmt:Type:=ag []×cR [.x 1 114 aC,.r 1 1 0]
def zq(e:az.den)(s:zmt):Fr (zmt ⊕ ma.R.X):=
 Jb (bif !(ou.f (e,())).1 then Z else !(fM.f (s.2.1.2.2.1.1,e.2.1,())).1) (Jv (.inr ((Y,()),()))) (Jv (.inl ((),s.2.1,())))
def pW(x:ma.M.X):Int×List az.den×zmt:=(x.1.1,x.1.2.2.1,x.1.2.2.2,x.2)
def Rk(x:ma.M.X):Prop:=x.1.2.1=(x.1.2.2.1.length:Int)
def CT(s:zmt):ma.E.X:=((),s.2.1,())
def Bj:zmt:=(aW _,bN _)
def Hu:ma.R.X:=(aW _,bN _)
def qs4:ae prog (.loop (au f85 0)) ma.M ma (FL zq pW Rk CT Rd.back Bj Hu):=
 qf LW (λ_ _=>.n .o) az.dflt (λx=>x.1.2.1) (λx s=>((I6.wrap (x.1.1+1),x.1.2.1,x.1.2.2.1,s.1),s.2)) (λ_ h=>h)
def vL(y:ma.M.X):zmt ⊕ ma.R.X:=dt zq ((pW y).2.1.drop (pW y).1.toNat) (pW y).2.2
def qu3(y:ma.M.X):Prop:=jo zq ((pW y).2.1.drop (pW y).1.toNat) (pW y).2.2
def qj8(x:ag [.d aC]):Fr (aa [.bool]):=
 let a:=((0,((List.length x.1.2.2.2.1):Int),x.1.2.2.2.1,()),x.1,());let c:=vL a;let b:=CT (dO Bj c);Jd (InL (Rk a) (pW a)) (Jd (qu3 a) (Jb (dF c) (Jv (bif (q9.f (b.2.1.2.2.1,())).1 then J (((List.length b.2.1.2.2.2.1):Int)<=2000)else Y,())) (Jv ((zej Hu c).1.1,()))))
def qj9:af prog 85 (bg [.d aC] [.bool] qj8):=
 cS LW qs4
def zal(e:az.den)(s:zmt):(zq e s).get=if (gl e&&gr s.2.1.2.2.1.1.1 s.2.1.2.2.1.1.2.1 e.2.1)=Z then .inl s else .inr ((Y,()),()):=by
 show(if (bif !(gl e)then Z else !(gr s.2.1.2.2.1.1.1 s.2.1.2.2.1.1.2.1 e.2.1))=Z then _ else _)=_;cases gl e<;>cases gr s.2.1.2.2.1.1.1 s.2.1.2.2.1.1.2.1 e.2.1<;>rfl
def qgl(l:List T)(s:σ):gm (λ(_:T) (s:σ)=>s) l s=s:=by
 induction l with
 |nil=>rfl
 |cons e r a=>exact a
def qyg:af prog 85 Gr:=
 conv qj9 _ _ (λw F x vs i _=>by
  obtain⟨h,_⟩:=x;obtain⟨v,k,rfl,j,_⟩:=i;have g:=aA.wf j.2.2;have d:(h.2.2.2.1.length:Int)<=9223372036854775807:=uB g.2.2.2.1.1;refine⟨⟨⟨rfl,ufa _,ub4 _,d⟩,ph (step:=zq) (λe s=>⟨λ_=>uT,λ_=>uT⟩) _ _,λ_=>uT,λ_=>uT⟩,?_⟩;have a:=qt (f:=λ_ s=>s) zal h.2.2.2.1 ((),(h,()));rw[qan,qgl]at a;have b:vL ((0,(h.2.2.2.1.length:Int),h.2.2.2.1,()),(h,()))=if (h.2.2.2.1.all λc=>gl c&&gr h.2.2.1.1.1 h.2.2.1.1.2.1 c.2.1)=Z then .inl ((),(h,()))else .inr ((Y,()),()):=a
  show(if dF (vL ((0,(h.2.2.2.1.length:Int),h.2.2.2.1,()),(h,())))=Z then
   ((bif ju (CT (dO Bj (vL ((0,(h.2.2.2.1.length:Int),h.2.2.2.1,()),(h,()))))).2.1.2.2.1 then J (((CT (dO Bj (vL ((0,(h.2.2.2.1.length:Int),h.2.2.2.1,()),(h,()))))).2.1.2.2.2.1.length:Int)<=2000)else Y,()):Bool×Unit)
   else ((zej Hu (vL ((0,(h.2.2.2.1.length:Int),h.2.2.2.1,()),(h,())))).1.1,()))=(zl2 h,())
  rw[b];unfold zl2;cases l:(h.2.2.2.1.all λc=>gl c&&gr h.2.2.1.1.1 h.2.2.1.1.2.1 c.2.1)with
  |false=>
   show((Y,()):Bool×Unit)=_;rw[ued]
  |true=>
   show((bif ju h.2.2.1 then J ((h.2.2.2.1.length:Int)<=2000)else Y,()):Bool×Unit)=_;rw[uem];have:J ((h.2.2.2.1.length:Int)<=2000)=J (h.2.2.2.1.length<=2000):=by
    rw[udx];simp only[ucu];omega
   rw[this];cases ju h.2.2.1<;>rfl)
abbrev Ii:Ty:=.pair i64 (.pair i64 (.pair i64 (.pair i64 (.pair i64 .unit))))
def zjx(f:Ii.den):List Int:=[f.1,f.2.1,f.2.2.1,f.2.2.2.1,f.2.2.2.2.1]
def fj:List Int->Int->Int×Int
 |[],m=>(m,0)
 |b::r,m=>if (bpF m b).2=0 then fj r (bpF m b).1 else bpF m b
noncomputable def CQ:Cx:=cx [(194,AF),(104,oy),(136,j6),(195,Oa),(95,iC)] []
def Mg:CxOK prog CQ:=aP aG ⟨zbk,K2,xn,qbg,wL,uT⟩ trivial
def MQ:LS:=⟨[(8,.d i64),(9,.d i64),(59,.d Ii),(60,.d i64)],[.x 3 140 aQ,.r 3 3 0]⟩
def EQ:LS:=⟨[(8,.d i64),(9,.d i64)],[.x 3 140 aQ,.r 3 3 0]⟩
def yD:Pt:=⟨79,1,MQ,EQ,⟨[],[]⟩⟩
def fQ(x:MQ.X):Fr yD.Out:=
 Jb (J (x.1.2.2.2.1<5))
  (Jd (0<=x.1.2.2.2.1/\x.1.2.2.2.1<((5:Nat):Int))
   (Jb ((iC.f (x.1.1,(zjx x.1.2.2.1).getD x.1.2.2.2.1.toNat 0,())).2.1 != 0)
    (Jv (Rd.out (((iC.f (x.1.1,(zjx x.1.2.2.1).getD x.1.2.2.2.1.toNat 0,())).1,(iC.f (x.1.1,(zjx x.1.2.2.1).getD x.1.2.2.2.1.toNat 0,())).2.1,()),x.2)))
    (Jv (Rd.next (((iC.f (x.1.1,(zjx x.1.2.2.1).getD x.1.2.2.2.1.toNat 0,())).1,(iC.f (x.1.1,(zjx x.1.2.2.1).getD x.1.2.2.2.1.toNat 0,())).2.1,x.1.2.2.1,I6.wrap (x.1.2.2.2.1+1),()),x.2)))))
  (Jv (Rd.out ((x.1.1,x.1.2.1,()),x.2)))
def qy0:ae prog (au f147 0) MQ yD fQ:=ae.of_run Mg (bs:=0) rfl rfl rfl (λ_=>aY _ 0) (λx=>by kernel_rfl)
def sS(i e:Int):Prop:=0<=i/\i<=5/\e=0
def FQ(x:MQ.X):Fr yD.Out:=Jd (sS x.1.2.2.2.1 x.1.2.1) (Jv (.out (((fj ((zjx x.1.2.2.1).drop x.1.2.2.2.1.toNat) x.1.1).1,(fj ((zjx x.1.2.2.1).drop x.1.2.2.2.1.toNat) x.1.1).2,()),x.2)))
def qpy (m e i:Int) (f:Ii.den) (y:cR [.x 3 140 aQ,.r 3 3 0]) (c:sS i e) (Q:yD.Out->Prop) (b:Q (.out (((fj ((zjx f).drop i.toNat) m).1,(fj ((zjx f).drop i.toNat) m).2,()),y))) :
  (fQ ((m,e,f,i,()),y)).satP λ
   |.next d=>sS d.1.2.2.2.1 d.1.2.1/\(5-d.1.2.2.2.1).toNat<(5-i).toNat/\(FQ d).satP Q
   |.out y=>Q (.out y)
   |.back z=>Q (.back z)
   |.pan p=>Q (.pan p):=by
 obtain⟨s,t,rfl⟩:=c;refine⟨λhi=>?_,λhi=>?_⟩;have h:i<5:=ucx hi;obtain⟨k,rfl⟩:∃ k:Nat,i=k:=⟨i.toNat,by omega⟩;have l:k<(zjx f).length:=by show k<5;omega
 have q:I6.wrap ((k:Int)+1)=k+1:=IntWalk.i64_in _ (by omega);have n:(zjx f).getD (k:Int).toNat 0=(zjx f)[k]:=by
  rw[show(k:Int).toNat=k by omega,uah,uaq l];rfl
 have o:(zjx f).drop (k:Int).toNat=(zjx f)[k]::(zjx f).drop (k+1):=by
  exact ual l
 rw[o]at b;rw[n,q];show(0<=(k:Int)/\(k:Int)<((5:Nat):Int))/\(((bpF m (zjx f)[k]).2 != 0)=Z->Q (.out (((bpF m (zjx f)[k]).1,(bpF m (zjx f)[k]).2,()),y)))/\(((bpF m (zjx f)[k]).2 != 0)=Y->sS (k+1) (bpF m (zjx f)[k]).2/\(5-((k:Int)+1)).toNat<(5-(k:Int)).toNat/\(FQ (((bpF m (zjx f)[k]).1,(bpF m (zjx f)[k]).2,f,(k:Int)+1,()),y)).satP Q);refine⟨⟨by omega,by omega⟩,λg=>?_,λg=>?_⟩;have a:¬ (bpF m (zjx f)[k]).2=0:=by simpa using g
 have e:fj ((zjx f)[k]::(zjx f).drop (k+1)) m=bpF m (zjx f)[k]:=ufw a;rw[e]at b;exact b;have a:(bpF m (zjx f)[k]).2=0:=by simpa using g
 have e:fj ((zjx f)[k]::(zjx f).drop (k+1)) m=fj ((zjx f).drop (k+1)) (bpF m (zjx f)[k]).1:=ufv a;rw[e]at b;have j:sS ((k:Int)+1) (bpF m (zjx f)[k]).2:=⟨by omega,by omega,a⟩;refine⟨j,by omega,j,?_⟩;have:((k:Int)+1).toNat=k+1:=by omega
 exact b;have h:¬ i<5:=uch hi;have:i=5:=by omega
 subst this;exact b
def qq7:ae prog (.loop (au f147 0)) MQ yD FQ:=by
 refine ae.loop qy0 (μ:=λx=>(5-x.1.2.2.2.1).toNat) ?_ (λx Q h=>h.1);rintro⟨⟨m,e,f,i,_⟩,y⟩ a Q b;exact qpy m e i f y a Q b.2
def lO(v:aQ.den)(r:dG.den)(c:ak.den):List Int:=
 [([v.2.1.1,v.2.1.2.1,v.2.1.2.2.1,v.2.1.2.2.2.1]:List Int).getD r.1.toNat 0,lv r.2.2.1 v.2.2.1 10000,v.2.2.2.1.getD r.2.2.2.1.toNat 0,v.2.2.2.2.1.getD c.1.toNat 0,c.2.2.2.2.1]
def dJ(v:aQ.den)(r:dG.den)(c:ak.den):Int×Int:=
 if (qb v&&(n8 r.1 r.2.1 r.2.2.1 r.2.2.2.1&&o7 c.1 c.2.1 c.2.2.1 c.2.2.2.1 c.2.2.2.2.1))=Z then
  if r.2.2.2.1>=v.2.2.2.1.length then (0,7)else
   if (fj (lO v r c) r.2.1).2=0 then (if (fj (lO v r c) r.2.1).1<v.2.2.2.2.2.1 then v.2.2.2.2.2.1 else (fj (lO v r c) r.2.1).1,0)else (0,(fj (lO v r c) r.2.1).2)
 else (0,1)
def ox:Ct:=⟨[.d aQ,.d dG,.d ak],[i64,i64],λx=>((dJ x.1 x.2.1 x.2.2.1).1,(dJ x.1 x.2.1 x.2.2.1).2,()),λ_=>[]⟩
def I3(x:ag [.d aQ,.d dG,.d ak]):Fr (aa [i64,i64]):=
 Jb (bif bif !(AF.f (x.1,())).1 then Z else !(oy.f (x.2.1,())).1 then Z else !(j6.f (x.2.2.1,())).1) (Jv (0,1,()))
  (Jb (J (x.2.1.2.2.2.1>=x.1.2.2.2.1.length)) (Jv (0,7,()))
   (Jd (0<=x.2.1.1/\x.2.1.1<((4:Nat):Int))
    (Jd (0<=x.2.1.2.2.2.1/\x.2.1.2.2.2.1<x.1.2.2.2.1.length)
     (Jd (0<=x.2.2.1.1/\x.2.2.1.1<x.1.2.2.2.2.1.length)
      (Jd (sS 0 0)
       (Jb ((fj (lO x.1 x.2.1 x.2.2.1) x.2.1.2.1).2 != 0) (Jv (0,(fj (lO x.1 x.2.1 x.2.2.1) x.2.1.2.1).2,()))
        (Jv (if (fj (lO x.1 x.2.1 x.2.2.1) x.2.1.2.1).1<x.1.2.2.2.2.2.1 then x.1.2.2.2.2.2.1 else (fj (lO x.1 x.2.1 x.2.2.1) x.2.1.2.1).1,0,()))))))))
def qvc:af prog 147 (bg [.d aQ,.d dG,.d ak] [i64,i64] I3):=
 cS Mg qq7
def qua(a b c:Bool):(bif bif !a then Z else !b then Z else !c)=!(a&&(b&&c)):=by cases a<;>cases b<;>cases c<;>rfl
def zc3{v:aQ.den}(h:qb v=Z):v.2.2.2.2.1.length=8:=by
 unfold qb at h;rw[udc]at h;have a:=ucx h.1;exact a.2.2.2.2.2.2.2
def qxu{k v z:Int}(h:n8 k v a z=Z):0<=k/\k<4/\0<=z:=by
 have b:=ucx h;exact⟨b.1,b.2.1,b.2.2.2.2.2.2.1⟩
def qej{p l g d s:Int}(h:o7 p l g d s=Z):0<=p/\p<8:=by
 have a:=ucx h;exact⟨a.1,a.2.1⟩
def qu9(v:aQ.den)(k val a z:Int)(c:ak.den):(I3 (v,(k,val,a,z,()),c,())).ok/\(I3 (v,(k,val,a,z,()),c,())).get=((dJ v (k,val,a,z,()) c).1,(dJ v (k,val,a,z,()) c).2,()):=by
 obtain⟨p,l,g,d,s,_⟩:=c;unfold dJ;have m:(bif bif !(AF.f (v,())).1 then Z else !(oy.f ((k,val,a,z,()),())).1 then Z else !(j6.f ((p,l,g,d,s,()),())).1)=!(qb v&&(n8 k val a z&&o7 p l g d s)):=qua _ _ _;by_cases h:(qb v&&(n8 k val a z&&o7 p l g d s))=Z;rw[ufv h];refine aR (by rw[m,h];rfl) ?_;rw[udc,udc]at h;obtain⟨q,r,t⟩:=h;obtain⟨w,y,x⟩:=qxu r;obtain⟨n,o⟩:=qej t;have u:=zc3 q;by_cases e:z>=(v.2.2.2.1.length:Int);rw[ufv e];exact aZ (uea e) ⟨uT,rfl⟩;rw[ufw e];have j:=ufj.1 e;refine aR (udv e) (aF ⟨w,by omega⟩ (aF ⟨x,j⟩ (aF ⟨n,?_⟩ (aF ⟨by omega,by omega,rfl⟩ ?_))));show p<(v.2.2.2.2.1.length:Int);rw[u];exact o;by_cases i:(fj (lO v (k,val,a,z,()) (p,l,g,d,s,())) val).2=0;have b:((fj (lO v (k,val,a,z,()) (p,l,g,d,s,())) val).2 != 0)=false:=by rw[i];rfl
 rw[ufv i];exact aR b ⟨uT,rfl⟩;have b:=ufl.2 i;rw[ufw i];exact aZ b ⟨uT,rfl⟩;rw[ufw h];simp only[Bool.not_eq_true]at h;exact aZ (by rw[m,h];rfl) ⟨uT,rfl⟩
def qvb:af prog 147 ox:=
 cQ qvc _ _ (λ_ _ x _ _ _=>by
  obtain⟨v,⟨k,val,a,z,_⟩,c,_⟩:=x;exact qu9 v k val a z c)
noncomputable def Fk:FuncId->Option (Func×(Nat->St->Option Tr)):=cu [(146,(f146,bw)),(193,(f193,bw))]
def ZW:∀ f fn Λ,Fk f=U (fn,Λ)->prog.funcs[f]?= U fn/\∀ c a,fn.body=U c->bP prog a Λ c 0:=λf fn Λ h=>by
 simp only[Fk,cu]at h;split at h;rename_i b;subst b;cases h;exact⟨by kernel_rfl,λc a _=>aY c 0⟩;split at h;rename_i b;subst b;cases h;exact⟨by kernel_rfl,λc a _=>aY c 0⟩;cases h
noncomputable def CY:Cx:=cW [(147,ox)] [] (fU prog dB Fk)
def MA:CxOK prog CY:=cZ aG ⟨qvb,uT⟩ trivial (gG aH ZW)
def MY:LS:=⟨[(16,.d (.sl ak)),(17,.d i64),(18,.d i64),(9,.d i64),(10,.d .bool)],[.x 3 140 aQ,.r 3 3 0,.x 4 33 dG,.r 4 4 0,.x 160001 3 i64,.g 8 193 [160001]]⟩
def EY:LS:=⟨[(9,.d i64),(10,.d .bool)],[]⟩
def rK:Pt:=⟨43,0,MY,EY,⟨[(6,.d i64),(7,.d i64)],[]⟩⟩
def PS(v:aQ.den)(r:dG.den)(l:List ak.den)(n i s:Int)(b:Bool)(q:Int)(c:ak.den):Fr rK.Out:=
 Jb ((ox.f (v,r,c,())).2.1 != 0) (Jv (Rd.back ((0,(ox.f (v,r,c,())).2.1,()),())))
  (Jb b
   (Jb (J ((ox.f (v,r,c,())).1>I6.wrap (4000000000000000000-q)))
    (Jv (Rd.next ((l,n,I6.wrap (i+1),0,Y,()),(v,r,q,()))))
    (Jv (Rd.next ((l,n,I6.wrap (i+1),I6.wrap (q+(ox.f (v,r,c,())).1),Z,()),(v,r,I6.wrap (q+(ox.f (v,r,c,())).1),())))))
   (Jv (Rd.next ((l,n,I6.wrap (i+1),s,b,()),(v,r,q,())))))
def fY(x:MY.X):Fr rK.Out:=
 Jb (J (x.1.2.2.1<x.1.2.1))
  (Jd (0<=x.1.2.2.1/\x.1.2.2.1<x.1.1.length) (PS x.2.1 x.2.2.1 x.1.1 x.1.2.1 x.1.2.2.1 x.1.2.2.2.1 x.1.2.2.2.2.1 x.2.2.2.1 (x.1.1.getD x.1.2.2.1.toNat ak.dflt)))
  (Jv (Rd.out ((x.1.2.2.2.1,x.1.2.2.2.2.1,()),())))
def qy4:ae prog (au f88 0) MY rK fY:=ae.of_run MA (bs:=0) rfl rfl rfl (λ_=>aY _ 0) (λx=>by kernel_rfl)
def ge(v:aQ.den)(r:dG.den):List ak.den->Int->Bool->Int×Bool×Int
 |[],q,b=>(if b=Z then q else 0,b,0)
 |c::l,q,b=>if (dJ v r c).2=0 then
   (if b=Z then (if (dJ v r c).1>4000000000000000000-q then ge v r l q Y else ge v r l (q+(dJ v r c).1) Z)else ge v r l q Y)
  else (0,Y,(dJ v r c).2)
def qu8{v:aQ.den}{r:dG.den}{c:ak.den}(h:(dJ v r c).2=0):0<=(dJ v r c).1:=by
 unfold dJ at h |-;split;rename_i d;split;exact ufa 0;rename_i f;split;have b:=(Bool.and_eq_true_iff.1 d).1;have a:0<=v.2.2.2.2.2.1:=by
  unfold qb at b;rw[udc]at b;exact(ucx b.1).2.2.1
 split;exact a;rename_i e;exact ue3 a (ufk.1 e);exact ufa 0;exact ufa 0
def nO(l:List ak.den)(n i s:Int)(b:Bool)(q:Int):Prop:=0<=i/\i<=n/\n=l.length/\n<=9223372036854775807/\0<=q/\q<=4000000000000000000/\s=if b=Z then q else 0
def TE(y:Int×Bool×Int):Fr rK.Out:=Jb (y.2.2 != 0) (Jv (Rd.back ((0,y.2.2,()),()))) (Jv (Rd.out ((y.1,y.2.1,()),())))
def FY(x:MY.X):Fr rK.Out:=Jd (nO x.1.1 x.1.2.1 x.1.2.2.1 x.1.2.2.2.1 x.1.2.2.2.2.1 x.2.2.2.1) (TE (ge x.2.1 x.2.2.1 (x.1.1.drop x.1.2.2.1.toNat) x.2.2.2.1 x.1.2.2.2.2.1))
def qp8(v:aQ.den)(r:dG.den)(l:List ak.den)(n i s:Int)(b:Bool)(q:Int)(t:nO l n i s b q)(Q:rK.Out->Prop)(a:(TE (ge v r (l.drop i.toNat) q b)).satP Q):
  (fY ((l,n,i,s,b,()),(v,r,q,()))).satP λ
   |.next g=>nO g.1.1 g.1.2.1 g.1.2.2.1 g.1.2.2.2.1 g.1.2.2.2.2.1 g.2.2.2.1/\(g.1.2.1-g.1.2.2.1).toNat<(n-i).toNat/\(FY g).satP Q
   |.out y=>Q (.out y)
   |.back z=>Q (.back z)
   |.pan p=>Q (.pan p):=by
 obtain⟨O,P,rfl,w,D,E,F⟩:=t;refine⟨λhi=>?_,λhi=>?_⟩;have o:i<(l.length:Int):=ucx hi;obtain⟨k,rfl⟩:∃ k:Nat,i=k:=⟨i.toNat,by omega⟩;have G:k<l.length:=by omega
 have K:l.getD (k:Int).toNat ak.dflt=l[k]:=by
  rw[show(k:Int).toNat=k by omega,uah,uaq G];rfl
 have N:I6.wrap ((k:Int)+1)=k+1:=IntWalk.i64_in _ (by omega);have L:l.drop (k:Int).toNat=l[k]::l.drop (k+1):=by
  exact ual G
 have M:((k:Int)+1).toNat=k+1:=by omega
 rw[L]at a;refine⟨⟨by omega,o⟩,?_⟩;rw[K];unfold PS;rw[N];generalize l[k]=c at *;have m:((l.length:Int)-((k:Int)+1)).toNat<((l.length:Int)-k).toNat:=by omega
 refine⟨λu=>?_,λu=>?_⟩;have d:=ufl.1 u;have e:ge v r (c::l.drop (k+1)) q b=(0,Y,(dJ v r c).2):=ufw d;rw[e]at a;exact a.1 u;have d:(dJ v r c).2=0:=by
  have:((dJ v r c).2 != 0)=false:=u;simpa using this
 have H:=qu8 d;have e:ge v r (c::l.drop (k+1)) q b=(if b=Z then (if (dJ v r c).1>4000000000000000000-q then ge v r (l.drop (k+1)) q Y else ge v r (l.drop (k+1)) (q+(dJ v r c).1) Z)else ge v r (l.drop (k+1)) q Y):=ufv d;rw[e]at a;have B:I6.wrap (4000000000000000000-q)=4000000000000000000-q:=IntWalk.i64_in _ (by omega);refine⟨λx=>?_,λx=>?_⟩;rw[ufv x]at a;rw[B];refine⟨λA=>?_,λA=>?_⟩;have j:(dJ v r c).1>4000000000000000000-q:=ucx A;rw[ufv j]at a;have h:nO l l.length ((k:Int)+1) 0 Y q:=⟨by omega,by omega,rfl,w,D,E,rfl⟩;refine⟨h,m,h,?_⟩;exact a;have j:¬ (dJ v r c).1>4000000000000000000-q:=uch A;rw[ufw j]at a;have C:I6.wrap (q+(ox.f (v,r,c,())).1)=q+(dJ v r c).1:=IntWalk.i64_in (q+(dJ v r c).1) (by omega);rw[C];have h:nO l l.length ((k:Int)+1) (q+(dJ v r c).1) Z (q+(dJ v r c).1):=⟨by omega,by omega,rfl,w,by omega,by omega,rfl⟩;refine⟨h,m,h,?_⟩;exact a;subst x;have h:nO l l.length ((k:Int)+1) s Y q:=⟨by omega,by omega,rfl,w,D,E,F⟩;refine⟨h,m,h,?_⟩;exact a;have o:¬ i<(l.length:Int):=uch hi;have e:l.drop i.toNat=[]:=ua2 (by omega);rw[e]at a;subst F;exact a.2 rfl
def qro:ae prog (.loop (au f88 0)) MY rK FY:=by
 refine ae.loop qy4 (μ:=λx=>(x.1.2.1-x.1.2.2.1).toNat) ?_ (λx Q h=>h.1);rintro⟨⟨l,n,i,s,b,_⟩,v,r,q,_⟩ a Q c;exact qp8 v r l n i s b q a Q c.2
def wl(v:aQ.den)(r:dG.den)(l:List ak.den):Int×Int:=
 if (ge v r l 0 Z).2.2=0 then (if (ge v r l 0 Z).2.1=Z then ((ge v r l 0 Z).1,0)else (0,5))else (0,(ge v r l 0 Z).2.2)
def wZ:Ct:=⟨[.d aQ,.d dG,.d (.sl ak)],[i64,i64],λx=>((wl x.1 x.2.1 x.2.2.1).1,(wl x.1 x.2.1 x.2.2.1).2,()),λ_=>[]⟩
def qlj(x:ag [.d aQ,.d dG,.d (.sl ak)]):Fr (aa [i64,i64]):=
 let a:=ge x.1 x.2.1 x.2.2.1 0 Z;Jd (nO x.2.2.1 x.2.2.1.length 0 0 Z 0)
  (Jb (a.2.2 != 0) (Jv (0,a.2.2,()))
   (Jb (!a.2.1) (Jv (0,5,())) (Jv (a.1,0,()))))
def zdh:af prog 88 (bg [.d aQ,.d dG,.d (.sl ak)] [i64,i64] qlj):=
 cS MA qro
def zdg:af prog 88 wZ:=
 cQ zdh _ _ (λw F x vs g _=>by
  obtain⟨v,r,l,_⟩:=x;obtain⟨k,h,rfl,_,m,i,rfl,_,n,j,rfl,d,_⟩:=g;have a:=mv d;have f:nO l l.length 0 0 Z 0:=⟨by omega,by omega,rfl,a,by decide,by decide,rfl⟩;refine aF f ?_;unfold wl;generalize ge v r l 0 Z=y;obtain⟨s,b,e⟩:=y;by_cases c:e=0;subst c;refine aR rfl ?_;cases b with
  |true=>exact aR rfl ⟨uT,rfl⟩
  |false=>exact aZ rfl ⟨uT,rfl⟩
  rw[ufw c];exact aZ (ufl.2 c) ⟨uT,rfl⟩)
end Go.Proofs.YtdokapnnagbehaaGreat
