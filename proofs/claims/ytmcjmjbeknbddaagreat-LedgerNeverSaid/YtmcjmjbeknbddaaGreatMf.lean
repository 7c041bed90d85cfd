/-
  Parts of the proof, one behind the other.
-/
import Derived.Test.YtmcjmjbeknbddaaGreatMe
import Derived.Defers
import Derived.MapKept
import Derived.Carry
import Derived.WalkKit
import Derived.Deep.RegionLaw
set_option linter.all false
set_option maxRecDepth 100000
set_option maxHeartbeats 4000000
open Go Go.RowKit
variable {T α σ ρ β:Type} {P:Program} {ad:Addr} {arr cs cur:Array Value} {f:FuncId} {x a y day:Int} {k:IntKind} {l:List Int} {xs vs news:List Value} {off i n b c d j B m len:Nat} {F F' K:Nat->Prop} {R g R':Nat->Value->Prop} {o:Oper} {p:Prop} {e ety t ty el:TypeId} {v u vx:Value} {w w' W' W:World}
namespace Go.Proofs.YtmcjmjbeknbddaaGreat
open Go Go.Ab Go.RowKit Go.Proofs Tryz
open Go.Ab.Fr renaming val->Jv,need->Jd,br->Jb
noncomputable def Xc:Cx:=cx [(204,wS),(203,ja)] []
def LT:CxOK prog Xc:=aP aG ⟨Sy,JG,uT⟩ trivial
def eY:List Int->Bool
 |a::b::r=>decide (a<=b)&&eY (b::r)
 |_=>true
def Vs:(l:List Int)->(a b:Int)->eY (l++[a,b])=(eY (l++[a])&&decide (a<=b))
 |[],a,b=>by simp[eY]
 |[x],a,b=>by simp[eY]
 |x::y::l,a,b=>by
  have:=Vs (y::l) a b;simp only[uc1,eY] at this |-;rw[this,ud8]
abbrev mc:Pt:=⟨21,0,⟨[(0,.d aK),(3,.d i64)],[]⟩,⟨[],[]⟩,⟨[(2,.d .bool)],[]⟩⟩
def IB (x:mc.M.X):Fr mc.Out:=
 let a:=x.1.2.1;Jb (decide (a>0))
  (Jd (0<=a/\a<x.1.1.length)
   (Jd (0<=I6.wrap (a-1)/\I6.wrap (a-1)<x.1.1.length)
    (Jb (wS.f (x.1.1.getD a.toNat i64.dflt,x.1.1.getD (I6.wrap (a-1)).toNat i64.dflt,())).1
     (Jv (Rd.back ((false,()),())))
     (Jv (Rd.next ((x.1.1,I6.wrap (a-1),()),()))))))
  (Jv (Rd.out ((),())))
def qzx:ae prog (au f177 0) mc.M mc IB:=
 dn LT
def sU (l:List Int) (i:Int):Prop:=-1<=i/\i<l.length/\(l.length:Int)<=9223372036854775807
def ML (x:mc.M.X):Fr mc.Out:=
 Jd (sU x.1.1 x.1.2.1) (Jb (eY (x.1.1.take (x.1.2.1+1).toNat)) (Jv (Rd.out ((),()))) (Jv (Rd.back ((false,()),()))))
def zam (l:List Int) (k:Nat) (h:k+1<l.length):eY (l.take (k+2))=(eY (l.take (k+1))&&decide (l[k]<=l[k+1])):=by
 have e1:=(uas (show k<l.length by omega)).symm;have e2:l.take (k+2)=l.take k++[l[k],l[k+1]]:=by
  have e3:=(uas h).symm;rw[e3,e1,ucp];rfl
 rw[e2,e1,Vs]
def qp6 (l:List Int) (i:Int) (hinv:sU l i) (Q:mc.Out->Prop)
  (hq:(Jb (eY (l.take (i+1).toNat)) (Jv (Rd.out ((),()))) (Jv (Rd.back ((false,()),()))):Fr mc.Out).satP Q) :
  (IB ((l,i,()),())).satP λ
   |.next x'=>sU x'.1.1 x'.1.2.1/\x'.1.2.1.toNat<i.toNat/\(ML x').satP Q
   |.out y=>Q (.out y)
   |.back z=>Q (.back z)
   |.pan p=>Q (.pan p):=by
 obtain⟨h1,h2,h3⟩:=hinv;refine⟨λhi=>?_,λhi=>?_⟩
 ·have hi':i>0:=ucv hi;obtain⟨k,hk⟩:∃ k:Nat,i=k+1:=⟨(i-1).toNat,by omega⟩;subst hk;have hw:I6.wrap ((k:Int)+1-1)=k:=by rw[show(k:Int)+1-1=k by omega]; exact IntWalk.i64_in _ (by omega)
  have hl:k+1<l.length:=by omega
  have g1:l.getD ((k:Int)+1).toNat i64.dflt=l[k+1]:=by
   rw[show((k:Int)+1).toNat=k+1 by omega,uah,uap hl]; rfl
  have g2:l.getD (k:Int).toNat i64.dflt=l[k]:=by
   rw[show(k:Int).toNat=k by omega,uah,uap (show k<l.length by omega)]; rfl
  have e1:((k:Int)+1+1).toNat=k+2:=by omega
  rw[e1,zam l k hl] at hq;dsimp only[IB,Fr.satP];rw[hw,g1,g2];have hI:sU l k:=⟨by omega,by omega,h3⟩;refine⟨⟨(show(0:Int)<=(k:Int)+1 by omega),h2⟩,⟨(show(0:Int)<=(k:Int) by omega),(show(k:Int)<(l.length:Int) by omega)⟩,λhc=>?_,λhc=>?_⟩
  ·have hc':¬ l[k]<=l[k+1]:=by have:=ucv hc; exact Int.not_le.2 this
   rw[udr hc',ud9] at hq;exact hq.2 rfl
  ·have hc':l[k]<=l[k+1]:=by have:=ucf hc; exact ufe.1 this
   rw[ud6 hc',uei] at hq;exact⟨hI,by omega,hI,by rw[show((k:Int)+1).toNat=k+1 by omega]; exact hq⟩
 ·have hi':¬ i>0:=ucf hi;have:eY (l.take (i+1).toNat)=true:=by
   rcases uel (i+1).toNat 1 with h|h
   ·rw[show(i+1).toNat=0 by omega]; rfl
   ·rw[show(i+1).toNat=1 by omega];cases l<;>rfl
  rw[this] at hq;exact hq.1 rfl
def qrl:ae prog (.loop (au f177 0)) mc.M mc ML:=by
 refine ae.loop qzx (μ:=λx=>x.1.2.1.toNat) ?_ (λx Q h=>h.1);rintro⟨⟨l,i,_⟩,_⟩ hinv Q hq;exact qp6 l i hinv Q hq.2
def G5:Ct:=⟨[.d aK],[.bool],λx=>(eY x.1,()),λ_=>[]⟩
def ql0 (x:ag [.d aK]):Fr (aa [.bool]):=
 Jd (sU x.1 (I6.wrap (x.1.length-1))) (Jb (eY (x.1.take (I6.wrap (x.1.length-1)+1).toNat)) (Jv (true,())) (Jv (false,())))
def zaf:af prog 177 G5:=
 conv (cS LT qrl (fr:=ql0)) _ _ λw F xs vs hr _=>by
  obtain⟨l,_⟩:=xs;obtain⟨v,vs',rfl,hv,_⟩:=hr;have hwf:=aA.wf hv.2.2;have hlen:=hwf.1;have hw:I6.wrap ((l.length:Int)-1)=l.length-1:=IntWalk.i64_in _ (by simp only[maxLen] at hlen; omega);have ht:l.take ((l.length:Int)-1+1).toNat=l:=ua2 (by omega);refine⟨⟨?_,λ_=>uT,λ_=>uT⟩,?_⟩
  ·show sU l (I6.wrap ((l.length:Int)-1));simp only[maxLen] at hlen;exact⟨by omega,by omega,by omega⟩
  ·show(if eY (l.take (I6.wrap ((l.length:Int)-1)+1).toNat)=true then (true,()) else (false,()))=(eY l,());rw[hw,ht];cases eY l<;>rfl
noncomputable def Xd:Cx:=cx [(177,G5),(203,ja)] []
def LU:CxOK prog Xd:=aP aG ⟨zaf,JG,uT⟩ trivial
def QC (x:ag [.d ak]):Fr (aa [.bool]):=
 let b:=(false,());let a:=x.1.2;Jb (bif decide (x.1.1>=0) then decide (x.1.1<8) else false) (Jb (bif decide (a.2.2.2.1>=1) then decide (a.2.2.2.1<=10000) else false) (Jb (G5.f ([0,a.2.2.1,I6.wrap (a.1-1),I6.wrap (a.2.1-1),999999999999999],())).1 (Jv (decide (a.2.2.1<a.1),())) (Jv b)) (Jv b)) (Jv b)
def qll:af prog 126 (bg [.d ak] [.bool] QC):=
 aS LU f126
def QB (x:ag [.d i64,.d i64]):Fr (aa [i64]):=
 let a:=ja.f (x.2.1,());Jb (ja.f (x.1,())).1 (Jb a.1 (Jv (0,())) (Jv (-1,()))) (Jb a.1 (Jv (1,())) (Jb (decide (x.1<x.2.1)) (Jv (-1,())) (Jb (decide (x.1>x.2.1)) (Jv (1,())) (Jv (0,())))))
def qlk:af prog 171 (bg [.d i64,.d i64] [i64] QB):=
 aS LU f171
def QE (x:ag [.d cn,.d i64]):Fr (aa [.bool]):=
 Jv (bif decide (x.2.1>=(tu.f ((x.1.1,x.1.2.1,()),())).1.1) then decide (x.2.1<(tu.f ((x.1.1,x.1.2.1,()),())).1.2.1) else false,())
def qlr:af prog 144 (bg [.d cn,.d i64] [.bool] QE):=
 aS LR f144
def QG (x:ag [.d cn]):Fr (aa [i64]):=
 Jv (I6.wrap ((tu.f ((x.1.1,x.1.2.1,()),())).1.2.1-(tu.f ((x.1.1,x.1.2.1,()),())).1.1),())
def qlu:af prog 84 (bg [.d cn] [i64] QG):=
 aS LR f84
def Rz {n:Int} (h:Wf i64 n) : -9223372036854775808<=n/\n<=9223372036854775807:=h
def WA {n:Int} (h : -9223372036854775808<=n/\n<=9223372036854775807):(n = -9223372036854775808/\I6.wrap (n-1)=9223372036854775807)\/(-9223372036854775808<n/\I6.wrap (n-1)=n-1):=by
 by_cases hn:n = -9223372036854775808
 ·left;subst hn;exact⟨rfl,by kernel_rfl⟩
 ·right;exact⟨by omega,cz (by omega)⟩
def qel (p l g d s:Int) (hl : -9223372036854775808<=l/\l<=9223372036854775807) (hg : -9223372036854775808<=g/\g<=9223372036854775807) :
  (eY [0,d,I6.wrap (l-1),I6.wrap (g-1),999999999999999]&&decide (d<l))=decide (0<=d/\d<l/\l<=g/\g<=1000000000000000):=by
 rw[udt];simp only[eY,uc9,ucs];rcases WA hl with ⟨h1,h2⟩|⟨h1,h2⟩<;>rcases WA hg with ⟨h3,h4⟩|⟨h3,h4⟩<;>rw[h2,h4]
 ·omega
 ·omega
 ·omega
 ·constructor
  ·rintro⟨⟨a1,a2,a3,a4,_⟩,a5⟩;exact⟨a1,a5,by omega,by omega⟩
  ·rintro⟨a1,a2,a3,a4⟩;exact⟨⟨a1,by omega,by omega,by omega,uT⟩,a2⟩
def xn:af prog 126 j6:=
 conv qll _ _ (λw F x vs hr _=>by
  obtain⟨⟨p,l,g,d,s,_⟩,_⟩:=x;obtain⟨v,vs',rfl,hv,_⟩:=hr;have hwf:=aA.wf hv.2.2;refine⟨by simp[av,Fr.ok,QC],?_⟩;have hb:=qel p l g d s (Rz hwf.2.1) (Rz hwf.2.2.1);show(if (bif decide (p>=0) then decide (p<8) else false)=true then (if (bif decide (s>=1) then decide (s<=10000) else false)=true then (if eY [0,d,I6.wrap (l-1),I6.wrap (g-1),999999999999999]=true then (decide (d<l),()) else (false,())) else (false,())) else (false,()))=(o7 p l g d s,());have h1:(if eY [0,d,I6.wrap (l-1),I6.wrap (g-1),999999999999999]=true then ((decide (d<l),()):Bool×Unit) else (false,()))=(decide (0<=d/\d<l/\l<=g/\g<=1000000000000000),()):=by
   rw[<- hb];cases eY [0,d,I6.wrap (l-1),I6.wrap (g-1),999999999999999]<;>rfl
  rw[h1];have h2:∀ (a b c:Bool),(if a=true then (if b=true then ((c,()):Bool×Unit) else (false,())) else (false,()))=(a&&(b&&c),()):=λa b c=>by cases a<;>cases b<;>rfl
  rw[h2];congr 1;rw[udt];simp only[o7,uba,uc9,ucs];exact⟨λ⟨⟨a1,a2⟩,⟨a3,a4⟩,a5⟩=>⟨a1,a2,a3,a4,a5⟩,λ⟨a1,a2,a3,a4,a5⟩=>⟨⟨a1,a2⟩,⟨a3,a4⟩,a5⟩⟩)
def l5 (a b:Int):Int:=if a<b then -1 else if b<a then 1 else 0
def mC:Ct:=⟨[.d i64,.d i64],[i64],λx=>(l5 x.1 x.2.1,()),λ_=>[]⟩
def Be:af prog 171 mC:=
 conv qlk _ _ (λ_ _ x _ _ _=>by
  obtain⟨a,b,_⟩:=x;refine⟨by simp[av,Fr.ok,QB],?_⟩;show(if decide (a<b)=true then ((-1:Int),()) else if decide (a>b)=true then (1,()) else (0,()))=(if a<b then -1 else if b<a then 1 else 0,());by_cases h1:a<b
  ·rw[if_pos (ud6 h1),if_pos h1]
  ·rw[if_neg (by simp[h1]),if_neg h1];by_cases h2:b<a
   ·rw[if_pos (ud6 h2),if_pos h2]
   ·rw[if_neg (by simpa using h2),if_neg h2])
def qno (a b d:Int):(bif decide (d>=(rn (a,b,())).1) then decide (d<(rn (a,b,())).2.1) else false)=gr a b d:=by
 unfold rn;by_cases h:dN (a,b,())=true
 ·rw[if_pos h];obtain⟨h1,h2,h3⟩:=nc.1 h;simp only[uba,gr];rw[udt];simp only[uc9,ucs,Ty.den,PT.den];constructor
  ·rintro⟨a1,a2⟩; exact⟨h1,h3,a1,a2⟩
  ·rintro⟨_,_,a1,a2⟩; exact⟨a1,a2⟩
 ·rw[if_neg h];have h':¬ (1<=a/\a<b/\b<=292195):=λhh=>h (nc.2 hh);simp only[uba,gr];rw[udt];simp only[uc9,ucs];constructor
  ·rintro⟨a1,a2⟩;have a1':(0:Int)<=d:=a1;have a2':d<(0:Int):=a2;omega
  ·rintro⟨a1,a2,a3,a4⟩;exact absurd ⟨a1,by omega,a2⟩ h'
def oT:af prog 144 fM:=
 conv qlr _ _ (λ_ _ x _ _ _=>by
  obtain⟨⟨a,b,_⟩,d,_⟩:=x;refine⟨by simp[av,Fr.ok,QE],?_⟩;exact ufm (·,()) (qno a b d))
def ry (a b:Int):Int:=if dN (a,b,())=true then b-a else 0
def tv:Ct:=⟨[.d cn],[i64],λx=>(ry x.1.1 x.1.2.1,()),λ_=>[]⟩
def SK:af prog 84 tv:=
 conv qlu _ _ (λ_ _ x _ _ _=>by
  obtain⟨⟨a,b,_⟩,_⟩:=x;refine⟨by simp[av,Fr.ok,QG],?_⟩;show(I6.wrap ((rn (a,b,())).2.1-(rn (a,b,())).1),())=(ry a b,());unfold rn ry;by_cases h:dN (a,b,())=true
  ·rw[if_pos h,if_pos h];obtain⟨h1,h2,h3⟩:=nc.1 h;have hw:I6.wrap (b-a)=b-a:=cz (by omega);exact ufm (·,()) hw
  ·rw[if_neg h,if_neg h];rfl)
abbrev cY:Ty:=.pair i64 (.pair i64 .unit)
noncomputable def Xe:Cx:=cx [(126,j6)] []
def s7:CxOK prog Xe:=aP aG ⟨xn,uT⟩ trivial
abbrev lR:Pt:=⟨26,0,⟨[(14,.d i64),(13,.d i64),(12,.d (.sl ak)),(1,.d (.sl ak))],[]⟩,⟨[],[]⟩,⟨[(4,.d .bool)],[]⟩⟩
abbrev sf:Type:=ag [.d (.sl ak)]×cR []
def zk (e:(ak.den×ak.den)) (s:sf):Fr (sf ⊕ lR.R.X):=
 Jb (!(e.1.1==e.2.1&&(e.1.2.1==e.2.2.1&&(e.1.2.2.1==e.2.2.2.1&&(e.1.2.2.2.1==e.2.2.2.2.1&&(e.1.2.2.2.2.1==e.2.2.2.2.2.1&&true)))))) (Jv (.inr ((false,()),()))) (Jv (.inl ((s.1.1,()),())))
def pQ (x:lR.M.X):Int×List (ak.den×ak.den)×sf:=(x.1.1,x.1.2.2.1.zip x.1.2.2.2.1,x.1.2.2.2,x.2)
def Rb (x:lR.M.X):Prop:=x.1.2.1=(x.1.2.2.1.length:Int)/\x.1.2.2.1.length=x.1.2.2.2.1.length
def qvk (s:sf):lR.E.X:=((),())
def qez:sf:=(aW _,bN _)
def Ho:lR.R.X:=(aW _,bN _)
def qrs:ae prog (.loop (au f189 0)) lR.M lR (FL zk pQ Rb qvk Rd.back qez Ho):=
 zdl s7 (λ_ _=>.n (.z .o)) ak.dflt ak.dflt (λx=>x.1.2.2.1) (λx=>x.1.2.2.2.1) (λx=>x.1.2.1) (λx s=>((I6.wrap (x.1.1+1),x.1.2.1,x.1.2.2.1,s.1),s.2)) (λ_ h=>h)
def D1 (y:lR.M.X):sf ⊕ lR.R.X:=dt zk ((pQ y).2.1.drop (pQ y).1.toNat) (pQ y).2.2
def quy (y:lR.M.X):Prop:=jo zk ((pQ y).2.1.drop (pQ y).1.toNat) (pQ y).2.2
abbrev jp:Pt:=⟨32,0,⟨[(8,.d i64),(7,.d i64),(6,.d (.sl ak)),(0,.d (.sl ak)),(3,.d i64)],[]⟩,⟨[(0,.d (.sl ak))],[]⟩,⟨[(2,.d .bool)],[]⟩⟩
abbrev fH:Type:=ag [.d (.sl ak),.d i64]×cR []
def zt (e:ak.den) (s:fH):Fr (fH ⊕ jp.R.X):=
 Jb (bif decide (e.1<=s.1.2.1) then true else !(j6.f ((e.1,e.2.1,e.2.2.1,e.2.2.2.1,e.2.2.2.2.1,()),())).1) (Jv (.inr ((false,()),()))) (Jv (.inl ((s.1.1,e.1,()),())))
def pY (x:jp.M.X):Int×List ak.den×fH:=(x.1.1,x.1.2.2.1,x.1.2.2.2,x.2)
def Rm (x:jp.M.X):Prop:=x.1.2.1=(x.1.2.2.1.length:Int)
def rB (s:fH):jp.E.X:=((s.1.1,()),())
def qL:fH:=(aW _,bN _)
def Hv:jp.R.X:=(aW _,bN _)
def qta:ae prog (.loop (au f88 0)) jp.M jp (FL zt pY Rm rB Rd.back qL Hv):=
 qf s7 (λ_ _=>.n .o) ak.dflt (λx=>x.1.2.1) (λx s=>((I6.wrap (x.1.1+1),x.1.2.1,x.1.2.2.1,s.1),s.2)) (λ_ h=>h)
def vM (y:jp.M.X):fH ⊕ jp.R.X:=dt zt ((pY y).2.1.drop (pY y).1.toNat) (pY y).2.2
def qu5 (y:jp.M.X):Prop:=jo zt ((pY y).2.1.drop (pY y).1.toNat) (pY y).2.2
abbrev jR:Pt:=⟨37,0,⟨[(8,.d i64),(7,.d i64),(6,.d (.sl cY)),(0,.d (.sl cY)),(3,.d i64)],[]⟩,⟨[(0,.d (.sl cY))],[]⟩,⟨[(2,.d .bool)],[]⟩⟩
abbrev gL:Type:=ag [.d (.sl cY),.d i64]×cR []
def zp (e:cY.den) (s:gL):Fr (gL ⊕ jR.R.X):=
 Jb (bif bif bif decide (e.1<=s.1.2.1) then true else decide (e.1>200) then true else decide (e.2.1<0) then true else decide (e.2.1>100000)) (Jv (.inr ((false,()),()))) (Jv (.inl ((s.1.1,e.1,()),())))
def pU (x:jR.M.X):Int×List cY.den×gL:=(x.1.1,x.1.2.2.1,x.1.2.2.2,x.2)
def Ri (x:jR.M.X):Prop:=x.1.2.1=(x.1.2.2.1.length:Int)
def yv (s:gL):jR.E.X:=((s.1.1,()),())
def xo:gL:=(aW _,bN _)
def Hs:jR.R.X:=(aW _,bN _)
def qs0:ae prog (.loop (au f213 0)) jR.M jR (FL zp pU Ri yv Rd.back xo Hs):=
 qf s7 (λ_ _=>.n .o) cY.dflt (λx=>x.1.2.1) (λx s=>((I6.wrap (x.1.1+1),x.1.2.1,x.1.2.2.1,s.1),s.2)) (λ_ h=>h)
def yN (y:jR.M.X):gL ⊕ jR.R.X:=dt zp ((pU y).2.1.drop (pU y).1.toNat) (pU y).2.2
def qu1 (y:jR.M.X):Prop:=jo zp ((pU y).2.1.drop (pU y).1.toNat) (pU y).2.2
def qib (x:ag [.d (.sl ak),.d (.sl ak)]):Fr (aa [.bool]):=
 let a:=((0,((List.length x.1):Int),x.1,x.2.1,()),());let b:=D1 a;Jb (((List.length x.1):Int) != ((List.length x.2.1):Int)) (Jv (false,())) (Jd (InL (Rb a) (pQ a)) (Jd (quy a) (Jb (dF b) (Jv (true,())) (Jv ((zej Ho b).1.1,())))))
def qic:af prog 189 (bg [.d (.sl ak),.d (.sl ak)] [.bool] qib):=
 cS s7 qrs
def qkd (x:ag [.d (.sl ak)]):Fr (aa [.bool]):=
 let a:=((0,((List.length x.1):Int),x.1,x.1,-1,()),());let c:=vM a;let b:=((List.length (rB (dO qL c)).1.1):Int);Jd (InL (Rm a) (pY a)) (Jd (qu5 a) (Jb (dF c) (Jv (bif decide (b>=1) then decide (b<=8) else false,())) (Jv ((zej Hv c).1.1,()))))
def qke:af prog 88 (bg [.d (.sl ak)] [.bool] qkd):=
 cS s7 qta
def qj1 (x:ag [.d (.sl cY)]):Fr (aa [.bool]):=
 let a:=((0,((List.length x.1):Int),x.1,x.1,-1,()),());let b:=yN a;Jd (InL (Ri a) (pU a)) (Jd (qu1 a) (Jb (dF b) (Jv (decide (((List.length (yv (dO xo b)).1.1):Int)<=100),())) (Jv ((zej Hs b).1.1,()))))
def qj2:af prog 213 (bg [.d (.sl cY)] [.bool] qj1):=
 cS s7 qs0
def uB {l:List T} (h:l.length<=maxLen):(l.length:Int)<=9223372036854775807:=by
 simp only[maxLen] at h;omega
def mv {t:Ty} {l:List t.den} (h:Fg prog w F (.d (.sl t)) l v):(l.length:Int)<=9223372036854775807:=uB (aA.wf (t:=.sl t) h.2.2).1
def kG (l:List Int):Bool:=l.all λn=>decide (0<=n/\n<=100000)
def wQ:Ct:=⟨[.d aK],[.bool],λx=>(kG x.1,()),λ_=>[]⟩
def mA (p:T->σ->Bool) (f:T->σ->σ):List T->σ->Bool
 |[],_=>true
 |e::r,s=>p e s&&mA p f r (f e s)
def gm (f:T->σ->σ):List T->σ->σ
 |[],s=>s
 |e::r,s=>gm f r (f e s)
def qt {step:T->σ->Fr (σ ⊕ ρ)} {p:T->σ->Bool} {f:T->σ->σ} {c:ρ} (h:∀ e s,(step e s).get=if p e s=true then .inl (f e s) else .inr c) :
  (l:List T)->(s:σ)->dt step l s=if mA p f l s=true then .inl (gm f l s) else .inr c
 |[],s=>rfl
 |e::r,s=>by
  simp only[dt,mA,gm];by_cases hp:p e s=true
  ·have hg:=h e s;rw[if_pos hp] at hg;simp only[hg,hp,ueh];exact qt h r (f e s)
  ·have hg:=h e s;rw[if_neg hp] at hg;have hp':p e s=false:=by simpa using hp
   simp only[hg,hp',Bool.false_and];rfl
def l6 (c:ak.den):Bool:=o7 c.1 c.2.1 c.2.2.1 c.2.2.2.1 c.2.2.2.2.1
def wH:List ak.den->Int->Bool
 |[],_=>true
 |c::r,last=>(decide (last<c.1)&&l6 c)&&wH r c.1
def l7 (l:List ak.den):Bool:=decide (1<=l.length/\l.length<=8)&&wH l (-1)
def wP:Ct:=⟨[.d (.sl ak)],[.bool],λx=>(l7 x.1,()),λ_=>[]⟩
def zbv (e:ak.den) (s:fH):(zt e s).get=if (decide (s.1.2.1<e.1)&&l6 e)=true then .inl ((s.1.1,e.1,()),()) else .inr ((false,()),()):=by
 show(if (bif decide (e.1<=s.1.2.1) then true else !(l6 e))=true then _ else _)=_;have hb:(bif decide (e.1<=s.1.2.1) then true else !(l6 e)) = !(decide (s.1.2.1<e.1)&&l6 e):=by
  have:decide (e.1<=s.1.2.1) = !decide (s.1.2.1<e.1):=by
   rw[udt];simp only[uct,ucs,uau];exact ufe.symm
  rw[this];cases decide (s.1.2.1<e.1)<;>cases l6 e<;>rfl
 rw[hb];cases (decide (s.1.2.1<e.1)&&l6 e)<;>rfl
def zbt (l l0:List ak.den) (last:Int):mA (λ(e:ak.den) (s:fH)=>decide (s.1.2.1<e.1)&&l6 e) (λe s=>((s.1.1,e.1,()),())) l ((l0,last,()),())=wH l last:=by
 induction l generalizing last with
 |nil=>rfl
 |cons c r ih=>
  show((decide (last<c.1)&&l6 c)&&_)=((decide (last<c.1)&&l6 c)&&_);rw[ih]
def zbu (l l0:List ak.den) (last:Int):(gm (λ(e:ak.den) (s:fH)=>(((s.1.1,e.1,()),()):fH)) l ((l0,last,()),())).1.1=l0:=by
 induction l generalizing last with
 |nil=>rfl
 |cons c r ih=>exact ih c.1
def qqe (n:Nat):(bif decide ((n:Int)>=1) then decide ((n:Int)<=8) else false)=decide (1<=n/\n<=8):=by
 rw[udt];simp only[uba,uc9,ucs];omega
def VS:af prog 88 wP:=
 conv qke _ _ (λw F x vs hr _=>by
  obtain⟨l,_⟩:=x;obtain⟨v,vs',rfl,hv,_⟩:=hr;have hlen:=mv hv;refine⟨⟨⟨rfl,ue5 _,ub2 _,hlen⟩,ph (step:=zt) (λe s=>⟨λ_=>uT,λ_=>uT⟩) _ _,λ_=>uT,λ_=>uT⟩,?_⟩;have hres:=qt zbv l ((l,-1,()),());rw[zbt] at hres;have hres':vM ((0,(l.length:Int),l,l,-1,()),())=if wH l (-1)=true then .inl _ else .inr _:=hres
  show(if dF (vM ((0,(l.length:Int),l,l,-1,()),()))=true then ((bif decide (((rB (dO qL (vM ((0,(l.length:Int),l,l,-1,()),())))).1.1.length:Int)>=1) then decide (((rB (dO qL (vM ((0,(l.length:Int),l,l,-1,()),())))).1.1.length:Int)<=8) else false,()):Bool×Unit) else ((zej Hv (vM ((0,(l.length:Int),l,l,-1,()),()))).1.1,()))=(l7 l,());rw[hres'];unfold l7;cases wH l (-1) with
  |true=>
   have he:(rB (dO qL (Sum.inl (gm (λ(e:ak.den) (s:fH)=>(((s.1.1,e.1,()),()):fH)) l ((l,-1,()),())):fH ⊕ jp.R.X))).1.1=l:=zbu l l (-1);show((bif decide (((rB (dO qL (Sum.inl (gm (λ(e:ak.den) (s:fH)=>(((s.1.1,e.1,()),()):fH)) l ((l,-1,()),())):fH ⊕ jp.R.X))).1.1.length:Int)>=1) then decide (((rB (dO qL (Sum.inl (gm (λ(e:ak.den) (s:fH)=>(((s.1.1,e.1,()),()):fH)) l ((l,-1,()),())):fH ⊕ jp.R.X))).1.1.length:Int)<=8) else false,()):Bool×Unit)=_;rw[he];exact ufm (·,()) ((qqe l.length).trans (uei _).symm)
  |false=>
   rw[ud9];rfl)
def oa (u b:Int):Bool:=decide (u<=200/\0<=b/\b<=100000)
def wG:List cY.den->Int->Bool
 |[],_=>true
 |c::r,last=>(decide (last<c.1)&&oa c.1 c.2.1)&&wG r c.1
def wJ (l:List cY.den):Bool:=decide (l.length<=100)&&wG l (-1)
def Au:Ct:=⟨[.d (.sl cY)],[.bool],λx=>(wJ x.1,()),λ_=>[]⟩
def qbd (u b last:Int):(bif bif bif decide (u<=last) then true else decide (u>200) then true else decide (b<0) then true else decide (b>100000)) = !(decide (last<u)&&oa u b):=by
 rw[udt];simp only[oa,ubw,udp,uct,Bool.and_eq_false_iff,ucs,uau];omega
def qw3 (e:cY.den) (s:gL):(zp e s).get=if (decide (s.1.2.1<e.1)&&oa e.1 e.2.1)=true then .inl ((s.1.1,e.1,()),()) else .inr ((false,()),()):=by
 show(if (bif bif bif decide (e.1<=s.1.2.1) then true else decide (e.1>200) then true else decide (e.2.1<0) then true else decide (e.2.1>100000))=true then _ else _)=_;have hb:=qbd e.1 e.2.1 s.1.2.1;rw[hb];cases (decide (s.1.2.1<e.1)&&oa e.1 e.2.1)<;>rfl
def qw1 (l l0:List cY.den) (last:Int):mA (λ(e:cY.den) (s:gL)=>decide (s.1.2.1<e.1)&&oa e.1 e.2.1) (λe s=>((s.1.1,e.1,()),())) l ((l0,last,()),())=wG l last:=by
 induction l generalizing last with
 |nil=>rfl
 |cons c r ih=>
  show((decide (last<c.1)&&oa c.1 c.2.1)&&_)=((decide (last<c.1)&&oa c.1 c.2.1)&&_);rw[ih]
def qw2 (l l0:List cY.den) (last:Int):(gm (λ(e:cY.den) (s:gL)=>(((s.1.1,e.1,()),()):gL)) l ((l0,last,()),())).1.1=l0:=by
 induction l generalizing last with
 |nil=>rfl
 |cons c r ih=>exact ih c.1
def qqf (n:Nat):decide ((n:Int)<=100)=decide (n<=100):=by
 rw[udt];simp only[ucs];omega
def NP:af prog 213 Au:=
 conv qj2 _ _ (λw F x vs hr _=>by
  obtain⟨l,_⟩:=x;obtain⟨v,vs',rfl,hv,_⟩:=hr;have hlen:=mv hv;refine⟨⟨⟨rfl,ue5 _,ub2 _,hlen⟩,ph (step:=zp) (λe s=>⟨λ_=>uT,λ_=>uT⟩) _ _,λ_=>uT,λ_=>uT⟩,?_⟩;have hres:=qt qw3 l ((l,-1,()),());rw[qw1] at hres;have hres':yN ((0,(l.length:Int),l,l,-1,()),())=if wG l (-1)=true then .inl _ else .inr _:=hres
  show(if dF (yN ((0,(l.length:Int),l,l,-1,()),()))=true then ((decide (((yv (dO xo (yN ((0,(l.length:Int),l,l,-1,()),())))).1.1.length:Int)<=100),()):Bool×Unit) else ((zej Hs (yN ((0,(l.length:Int),l,l,-1,()),()))).1.1,()))=(wJ l,());rw[hres'];unfold wJ;cases wG l (-1) with
  |true=>
   have he:(yv (dO xo (Sum.inl (gm (λ(e:cY.den) (s:gL)=>(((s.1.1,e.1,()),()):gL)) l ((l,-1,()),())):gL ⊕ jR.R.X))).1.1=l:=qw2 l l (-1);show((decide (((yv (dO xo (Sum.inl (gm (λ(e:cY.den) (s:gL)=>(((s.1.1,e.1,()),()):gL)) l ((l,-1,()),())):gL ⊕ jR.R.X))).1.1.length:Int)<=100),()):Bool×Unit)=_;rw[he];exact ufm (·,()) ((qqf l.length).trans (uei _).symm)
  |false=>
   rw[ud9];rfl)
def qH (a b:ak.den):Bool:=(a.1==b.1&&(a.2.1==b.2.1&&(a.2.2.1==b.2.2.1&&(a.2.2.2.1==b.2.2.2.1&&(a.2.2.2.2.1==b.2.2.2.2.1&&true)))))
def qek {a b:ak.den}:qH a b=true↔a=b:=by
 obtain⟨a1,a2,a3,a4,a5,_⟩:=a;obtain⟨b1,b2,b3,b4,b5,_⟩:=b;simp only[qH,uc9,ufc,uec]
def gy:List ak.den->List ak.den->Bool
 |[],[]=>true
 |a::l,b::m=>qH a b&&gy l m
 |_,_=>false
def KI:{l m:List ak.den}->(gy l m=true↔l=m)
 |[],[]=>by simp[gy]
 |[],b::m=>by simp[gy]
 |a::l,[]=>by simp[gy]
 |a::l,b::m=>by
  simp only[gy,uc9,udm];rw[qek,KI]
def wV:Ct:=⟨[.d (.sl ak),.d (.sl ak)],[.bool],λx=>(gy x.1 x.2.1,()),λ_=>[]⟩
def Va:{l m:List ak.den}->l.length=m.length->gy l m=(l.zip m).all λe=>qH e.1 e.2
 |[],[],_=>rfl
 |[],b::m,h=>by cases h
 |a::l,[],h=>by cases h
 |a::l,b::m,h=>by
  simp only[gy,List.zip_cons_cons,uef];rw[Va (by simpa using h)]
def qyh:{l m:List ak.den}->l.length≠m.length->gy l m=false:=λh=>by
 cases hs:gy _ _ with
 |true=>exact absurd (ufm List.length (KI.1 hs)) h
 |false=>rfl
def Fq (p:T->Bool) (l:List T) (s:σ):mA (λe _=>p e) (λ_ s=>s) l s=l.all p:=by
 induction l with
 |nil=>rfl
 |cons e r ih=>simp only[mA,uef]; rw[ih]
def qak (e:ak.den×ak.den) (s:sf):(zk e s).get=if qH e.1 e.2=true then .inl s else .inr ((false,()),()):=by
 show(if (!(qH e.1 e.2))=true then _ else _)=_;cases qH e.1 e.2<;>rfl
def qqg (a b:Nat):((a:Int) != (b:Int)) = !decide (a=b):=by
 rw[udt];simp;omega
def qal:af prog 189 wV:=
 conv qic _ _ (λw F x vs hr _=>by
  obtain⟨l,m,_⟩:=x;obtain⟨v,vs',rfl,hv,_⟩:=hr;have hlen:(l.length:Int)<=9223372036854775807:=mv hv;have hne:=qqg l.length m.length;by_cases hlm:l.length=m.length
  ·have hne':((l.length:Int) != (m.length:Int))=false:=by rw[hne,ud6 hlm]; rfl
   have hz:((l.zip m).length:Int)<=9223372036854775807:=by
    rw[udu];omega
   refine⟨⟨λ_=>uT,λ_=>⟨⟨⟨rfl,hlm⟩,ue5 _,ub2 _,hz⟩,ph (step:=zk) (λe s=>⟨λ_=>uT,λ_=>uT⟩) _ _,λ_=>uT,λ_=>uT⟩⟩,?_⟩;have hres:=qt qak (l.zip m) ((m,()),());rw[Fq,<- Va hlm] at hres;have hres':D1 ((0,(l.length:Int),l,m,()),())=if gy l m=true then .inl _ else .inr _:=hres
   show(if ((l.length:Int) != (m.length:Int))=true then ((false,()):Bool×Unit) else if dF (D1 ((0,(l.length:Int),l,m,()),()))=true then (true,()) else ((zej Ho (D1 ((0,(l.length:Int),l,m,()),()))).1.1,()))=(gy l m,());rw[hres',hne'];cases gy l m<;>rfl
  ·have hne':((l.length:Int) != (m.length:Int))=true:=by rw[hne,udr hlm]; rfl
   refine⟨⟨λ_=>uT,λhc=>(by have hc':((l.length:Int) != (m.length:Int))=false:=hc; rw[hne'] at hc'; cases hc')⟩,?_⟩;show(if ((l.length:Int) != (m.length:Int))=true then ((false,()):Bool×Unit) else _)=(gy l m,());rw[hne',qyh hlm];rfl)
abbrev dm:Ty:=.pair cn (.pair dG (.pair (.sl ak) .unit))
abbrev az:Ty:=.pair i64 (.pair i64 (.pair i64 (.pair dG (.pair (.sl ak) (.pair i64 .unit)))))
abbrev aC:Ty:=.pair i64 (.pair i64 (.pair dm (.pair (.sl az) .unit)))
abbrev qk0:Ty:=.pair i64 (.pair i64 (.pair i64 (.pair i64 .unit)))
abbrev aQ:Ty:=.pair i64 (.pair qk0 (.pair (.sl cY) (.pair aK (.pair aK (.pair i64 .unit)))))
abbrev b8:Ty:=.pair (.sl aQ) .unit
noncomputable def Xf:Cx:=cx [(86,oy),(213,Au),(88,wP),(189,wV),(144,fM)] []
def ww:CxOK prog Xf:=aP aG ⟨K2,NP,VS,qal,oT,uT⟩ trivial
def Qb (x:ag [.d az]):Fr (aa [.bool]):=
 let a:=x.1.2.2.2;Jv (bif bif (oy.f ((a.1.1,a.1.2.1,a.1.2.2.1,a.1.2.2.2.1,()),())).1 then ((List.length a.2.1):Int)==0 else false then a.2.2.1==0 else false,())
def qij:af prog 137 (bg [.d az] [.bool] Qb):=
 aS ww f137
def Qc (x:ag [.d az]):Fr (aa [.bool]):=
 let a:=x.1.2.2.2;Jv (bif bif (wP.f (a.2.1,())).1 then a.1.1==0&&(a.1.2.1==0&&(a.1.2.2.1==0&&(a.1.2.2.2.1==0&&true))) else false then a.2.2.1==0 else false,())
def qik:af prog 138 (bg [.d az] [.bool] Qc):=
 aS ww f138
def Qd (x:ag [.d az]):Fr (aa [.bool]):=
 let a:=x.1.2.2.2;Jv (bif bif bif a.2.2.1==0 then true else a.2.2.1==1 then ((List.length a.2.1):Int)==0 else false then a.1.1==0&&(a.1.2.1==0&&(a.1.2.2.1==0&&(a.1.2.2.2.1==0&&true))) else false,())
def qil:af prog 139 (bg [.d az] [.bool] Qd):=
 aS ww f139
def Qe (x:ag [.d az]):Fr (aa [.bool]):=
 let a:=x.1.2.2.2;Jv (bif bif a.2.2.1==0 then ((List.length a.2.1):Int)==0 else false then a.1.1==0&&(a.1.2.1==0&&(a.1.2.2.1==0&&(a.1.2.2.2.1==0&&true))) else false,())
def qim:af prog 140 (bg [.d az] [.bool] Qe):=
 aS ww f140
def qi1 (x:ag [.d aB,.d aB]):Fr (aa [.bool]):=
 let b:=x.1.2.2;let a:=x.2.1.2.2;Jv (bif bif x.1.2.1==x.2.1.2.1 then b.1.1==a.1.1&&(b.1.2.1==a.1.2.1&&(b.1.2.2.1==a.1.2.2.1&&(b.1.2.2.2.1==a.1.2.2.2.1&&true))) else false then (wV.f (b.2.1,a.2.1,())).1 else false,())
def qi2:af prog 148 (bg [.d aB,.d aB] [.bool] qi1):=
 aS ww f148
def GY (c:az.den):Bool:=(Qb (c,())).get.1
def GZ (c:az.den):Bool:=(Qc (c,())).get.1
def Ha (c:az.den):Bool:=(Qd (c,())).get.1
def Hb (c:az.den):Bool:=(Qe (c,())).get.1
def Gb:Ct:=⟨[.d az],[.bool],λx=>(GY x.1,()),λ_=>[]⟩
def Gc:Ct:=⟨[.d az],[.bool],λx=>(GZ x.1,()),λ_=>[]⟩
def Gd:Ct:=⟨[.d az],[.bool],λx=>(Ha x.1,()),λ_=>[]⟩
def Ge:Ct:=⟨[.d az],[.bool],λx=>(Hb x.1,()),λ_=>[]⟩
def qdh:af prog 137 Gb:=conv qij _ _ (λ_ _ _ _ _ _=>⟨uT,rfl⟩)
def qdi:af prog 138 Gc:=conv qik _ _ (λ_ _ _ _ _ _=>⟨uT,rfl⟩)
def qdj:af prog 139 Gd:=conv qil _ _ (λ_ _ _ _ _ _=>⟨uT,rfl⟩)
def qdk:af prog 140 Ge:=conv qim _ _ (λ_ _ _ _ _ _=>⟨uT,rfl⟩)
def Jp (c:az.den):Bool:=if c.2.2.1=1 then GY c else if c.2.2.1=2 then GZ c else if c.2.2.1=3 then Ha c else if c.2.2.1=4 then Hb c else false
def gl (c:az.den):Bool:=g8 c.1&&(g8 c.2.1&&Jp c)
def ou:Ct:=⟨[.d az],[.bool],λx=>(gl x.1,()),λ_=>[]⟩
def ju (t:dm.den):Bool:=dN t.1&&(decide (t.1.2.1-t.1.1<=1100)&&(n8 t.2.1.1 t.2.1.2.1 t.2.1.2.2.1 t.2.1.2.2.2.1&&l7 t.2.2.1))
def q9:Ct:=⟨[.d dm],[.bool],λx=>(ju x.1,()),λ_=>[]⟩
def yP (a b:dG.den):Bool:=(a.1==b.1&&(a.2.1==b.2.1&&(a.2.2.1==b.2.2.1&&(a.2.2.2.1==b.2.2.2.1&&true))))
def ni (a b:aB.den):Bool:=(a.2.1==b.2.1)&&(yP a.2.2.1 b.2.2.1&&gy a.2.2.2.1 b.2.2.2.1)
def A7:Ct:=⟨[.d aB,.d aB],[.bool],λx=>(ni x.1 x.2.1,()),λ_=>[]⟩
def Rx:af prog 148 A7:=conv qi2 _ _ (λ_ _ x _ _ _=>by
 obtain⟨a,b,_⟩:=x;exact⟨uT,ufm (·,()) (Lr (a.2.1==b.2.1) (yP a.2.2.1 b.2.2.1) (gy a.2.2.2.1 b.2.2.2.1))⟩)
def kr (h:aC.den) (i:Int):Int:=(h.2.2.2.1.getD i.toNat az.dflt).2.1
abbrev aL (h:aC.den):List az.den:=h.2.2.2.1
noncomputable def XF:Cx:=cx [(171,mC)] []
def XG:CxOK prog XF:=aP aG ⟨Be,uT⟩ trivial
def qlw (x:ag [.d i64,.d i64,.ptr aC]):Fr (aa [i64]):=
 let a:=((aL x.2.2.1).length:Int);Jd (0<=x.1/\x.1<a) (Jd (0<=x.2.1/\x.2.1<a) (Jv ((mC.f (kr x.2.2.1 x.1,kr x.2.2.1 x.2.1,())).1,())))
def tw:Ct:=⟨[.d i64,.d i64,.ptr aC],[i64],λx=>(l5 (kr x.2.2.1 x.1) (kr x.2.2.1 x.2.1),()),λx=>[0<=x.1/\x.1<((aL x.2.2.1).length:Int),0<=x.2.1/\x.2.1<((aL x.2.2.1).length:Int)]⟩
def T9:af prog 183 tw:=
 conv (aS XG f183 (fr:=qlw)) _ _ λ_ _ x _ _ hok=>
  ⟨⟨hok.1,hok.2,uT⟩,rfl⟩
def iw (n:Nat):List Int:=(List.range n).map λi:Nat=>(i:Int)
def qw0 (n:Nat):iw (n+1)=iw n++[(n:Int)]:=by simp[iw,udx]
def Kl (n:Nat):(iw n).length=n:=by simp[iw]
def Km (h:x∈iw n):0<=x/\x<n:=by
 simp only[iw,ue1,ud5] at h;omega
noncomputable def XH:Cx:=cW [(183,tw)] [] (fG (cx [(183,tw)] []).Γ 182 J3)
def XI:CxOK prog (cx [(183,tw)] []):=aP aG ⟨T9,uT⟩ trivial
def Me:CxOK prog XH:=cZ aG ⟨T9,uT⟩ trivial (gu XI.ct zad)
abbrev nu:Pt:=⟨20,0,⟨[(7,.d i64),(8,.d i64)],[.x 1 118 aC,.r 1 1 0,.o 3 3 i64]⟩,⟨[],[.x 1 118 aC,.r 1 1 0,.o 3 3 i64]⟩,⟨[],[]⟩⟩
def I9 (x:nu.M.X):Fr nu.Out:=
 let n:=x.1.1; let k:=x.1.2.1; let h:=x.2.1; let l:=x.2.2.1
 Jb (decide (k<n))
  (Jd (l.length + [k].length<=maxLen/\(l.length + [k].length)*prog.types[3].bytes<=140737488355328) (Jv (Rd.next ((n,I6.wrap (k+1),()),(h,l++[k],())))))
  (Jv (Rd.out ((),(h,l,()))))
def qzi:ae prog (au f134 0) nu.M nu I9:=
 dn Me
def qoe:prog.types[3].bytes=8:=by kernel_rfl
structure InvOrd (n k:Int) (l:List Int):Prop where
 k0:0<=k
 kn:k<=n
 big:n<=1000000
 ll:l=iw k.toNat
def MK (x:nu.M.X):Fr nu.Out:=
 Jd (InvOrd x.1.1 x.1.2.1 x.2.2.1) (Jv (Rd.out ((),(x.2.1,iw x.1.1.toNat,()))))
def qpw (n k:Int) (h:aC.den) (l:List Int) (hinv:InvOrd n k l) (Q:nu.Out->Prop) (hq:Q (Rd.out ((),(h,iw n.toNat,())))):(I9 ((n,k,()),(h,l,()))).satP λ
   |.next x'=>InvOrd x'.1.1 x'.1.2.1 x'.2.2.1/\(x'.1.1-x'.1.2.1).toNat<(n-k).toNat/\(MK x').satP Q
   |.out y=>Q (.out y)
   |.back z=>Q (.back z)
   |.pan p=>Q (.pan p):=by
 obtain⟨h0,h1,h2,h3⟩:=hinv;subst h3;dsimp only[I9,Fr.satP,Ty.den,PT.den];rw[qoe];refine⟨λhi=>?_,λhi=>?_⟩
 ·have hlt:=ucv hi;have w:I6.wrap (k+1)=k+1:=IntWalk.i64_in _ (by omega);rw[w];have hI:InvOrd n (k+1) (iw k.toNat++[k]):=⟨by omega,by omega,h2,by rw[show(k+1).toNat=k.toNat+1 by omega,qw0,show((k.toNat:Nat):Int)=k by omega]⟩;refine⟨?_,hI,by omega,hI,hq⟩;simp only[Kl,uc6,udh,maxLen];omega
 ·have hge:=ucf hi;rw[show n=k by omega] at hq;exact hq
def qq4:ae prog (.loop (au f134 0)) nu.M nu MK:=by
 refine ae.loop qzi (μ:=λx=>(x.1.1-x.1.2.1).toNat) ?_ (λx Q h=>h.1);rintro⟨⟨n,k,_⟩,⟨h,l,_⟩⟩ hinv Q hq;exact qpw n k h l hinv Q hq.2
def JV (h:aC.den):qdy.den:=(λx=>tw.f (x.1,x.2.1,h,()),λx=>av (tw.ok (x.1,x.2.1,h,())))
noncomputable def QH (x:ag [.d aC]):Fr (aa [.sl i64]):=
 let n:Int:=((aL x.1).length:Int)
 Jd (InvOrd n 0 [])
 (Jd (((iw n.toNat).length:Int)<=4611686018427387903)
  (Jd (gR (JV x.1) (iw n.toNat)) (Jv ((J3.f (iw n.toNat) (JV x.1,())).1,()))))
def SF (h:aC.den) (x y:Int):Bool:=decide (kr h x<kr h y)
def bE (h:aC.den):List Int:=cM (SF h) (iw (aL h).length)
def SG (h:aC.den):aM (JV h)=SF h:=by
 funext x y;show decide (l5 (kr h x) (kr h y)<0)=decide (kr h x<kr h y);unfold l5;split
 ·simp[*]
 ·split<;>simp<;>omega
def G0:Ct:=⟨[.d aC],[.sl i64],λx=>(bE x.1,()),λx=>[((aL x.1).length:Int)<=1000000]⟩
def JX:af prog 134 G0:=
 conv (cS Me qq4 (fr:=QH)) _ _ λ_ _ x _ _ hok=>by
  obtain⟨h,rfl⟩:∃ h:aC.den,x=(h,()):=⟨x.1,rfl⟩;have hok':((aL h).length:Int)<=1000000:=hok;have e:((aL h).length:Int).toNat=(aL h).length:=rfl;dsimp only[QH,Fr.ok,J3,pd];rw[e,SG,Kl];refine⟨⟨⟨ue5 _,by omega,hok',rfl⟩,by omega,⟨λx hx y hy=>⟨Km hx,Km hy⟩,kr h,λx _ y _=>by rw[SG]; rfl⟩,uT⟩,rfl⟩
section
variable {key:Int->Int} {lt:Int->Int->Bool}
end
def qf8 (h:i<l.length):l.drop i=l.getD i 0::l.drop (i+1):=by
 simp[uap h]
def Bl (s:aB.den) (c:az.den):aB.den:=
 if c.2.2.1=1 then (s.1,s.2.1,c.2.2.2.1,s.2.2.2.1,s.2.2.2.2.1,())
 else if c.2.2.1=2 then (s.1,s.2.1,s.2.2.1,c.2.2.2.2.1,s.2.2.2.2.1,())
 else if c.2.2.1=3 then (s.1,false,s.2.2.1,s.2.2.2.1,s.2.2.2.2.1,())
 else if c.2.2.1=4 then (s.1,true,s.2.2.1,s.2.2.2.1,s.2.2.2.2.1,())
 else s
def bZ (h:aC.den) (i:Int):az.den:=(aL h).getD i.toNat az.dflt
noncomputable def Xg:Cx:=cx [(148,A7),(144,fM)] []
def LV:CxOK prog Xg:=aP aG ⟨Rx,oT,uT⟩ trivial
abbrev lZ:Pt:=⟨21,0,⟨[(10,.d i64),(9,.d i64),(8,.d zel),(1,.d i64)],[.x 4 230 aB,.r 4 4 0]⟩,⟨[],[.x 4 230 aB,.r 4 4 0]⟩,⟨[(5,.d .bool)],[.x 4 230 aB,.r 4 4 0]⟩⟩
abbrev vU:Type:=ag [.d i64]×cR [.x 4 230 aB,.r 4 4 0]
def sn (e:aB.den) (s:vU):Fr (vU ⊕ lZ.R.X):=
 Jb (fM.f (e.1,s.1.1,())).1 (Jv (.inr ((true,()),e,()))) (Jv (.inl s))
def pV (x:lZ.M.X):Int×List aB.den×vU:=(x.1.1,x.1.2.2.1,x.1.2.2.2,x.2)
def Rj (x:lZ.M.X):Prop:=x.1.2.1=(x.1.2.2.1.length:Int)
def qvr (s:vU):lZ.E.X:=((),s.2.1,())
def qe5:vU:=(aW _,bN _)
def Bi:lZ.R.X:=(aW _,bN _)
def qs3:ae prog (.loop (au f120 0)) lZ.M lZ (FL sn pV Rj qvr Rd.back qe5 Bi):=
 qf LV (λ_ _=>.n .o) aB.dflt (λx=>x.1.2.1) (λx s=>((I6.wrap (x.1.1+1),x.1.2.1,x.1.2.2.1,s.1),s.2)) (λ_ h=>h)
def vK (y:lZ.M.X):vU ⊕ lZ.R.X:=dt sn ((pV y).2.1.drop (pV y).1.toNat) (pV y).2.2
def qu2 (y:lZ.M.X):Prop:=jo sn ((pV y).2.1.drop (pV y).1.toNat) (pV y).2.2
def qj6 (x:ag [.d zel,.d i64]):Fr (aa [aB,.bool]):=
 let a:=((0,((List.length x.1):Int),x.1,x.2.1,()),((0,0,()),false,(0,0,0,0,()),[],0,()),());let b:=zej Bi (vK a);Jd (InL (Rj a) (pV a)) (Jd (qu2 a) (Jb (dF (vK a)) (Jv (((0,0,()),false,(0,0,0,0,()),[],0,()),false,())) (Jv (b.2.1,b.1.1,()))))
def qj7:af prog 120 (bg [.d zel,.d i64] [aB,.bool] qj6):=
 cS LV qs3
def lM:aB.den:=((0,0,()),false,(0,0,0,0,()),[],0,())
def dp:List aB.den->Int->aB.den×Bool
 |[],_=>(lM,false)
 |s::r,d=>if gr s.1.1 s.1.2.1 d=true then (s,true) else dp r d
def tj:Ct:=⟨[.d zel,.d i64],[aB,.bool],λx=>((dp x.1 x.2.1).1,(dp x.1 x.2.1).2,()),λ_=>[]⟩
def NK:(l:List aB.den)->(d:Int)->(dp l d).2=false->(dp l d).1=lM
 |[],_,_=>rfl
 |s::r,d,h=>by
  unfold dp at h |-;by_cases hi:gr s.1.1 s.1.2.1 d=true
  ·rw[if_pos hi] at h;cases h
  ·rw[if_neg hi] at h |-;exact NK r d h
def qa4 (l:List aB.den) (d:Int) (m:aB.den):dt sn l ((d,()),(m,()))=if (dp l d).2=true then .inr ((true,()),((dp l d).1,())) else .inl ((d,()),(m,())):=by
 induction l with
 |nil=>rfl
 |cons e r ih=>
  by_cases h:gr e.1.1 e.1.2.1 d=true
  ·have hg:(sn e ((d,()),(m,()))).get = .inr ((true,()),(e,())):=if_pos h;simp only[dt,hg,dp,if_pos h,if_true]
  ·have hg:(sn e ((d,()),(m,()))).get = .inl ((d,()),(m,())):=if_neg h;simp only[dt,hg,dp,if_neg h];exact ih
def qa3 (l:List aB.den) (d:Int) {a b:σ} {dr:ag [.d .bool]×aB.den×Unit} :
  (if dF (if (dp l d).2=true then (.inr ((true,()),((dp l d).1,())):σ ⊕ (ag [.d .bool]×aB.den×Unit)) else .inl a)=true then ((lM,false,()):aB.den×Bool×Unit)
   else ((zej dr (if (dp l d).2=true then (.inr ((true,()),((dp l d).1,())):σ ⊕ (ag [.d .bool]×aB.den×Unit)) else .inl a)).2.1,(zej dr (if (dp l d).2=true then (.inr ((true,()),((dp l d).1,())):σ ⊕ (ag [.d .bool]×aB.den×Unit)) else .inl a)).1.1,()))=((dp l d).1,(dp l d).2,()):=by
 cases h:(dp l d).2 with
 |true=>rfl
 |false=>
  rw[NK l d h];rfl
def zab:af prog 120 tj:=
 conv qj7 _ _ (λw F x vs hr _=>by
  obtain⟨l,d,_⟩:=x;obtain⟨v,vs',rfl,hv,_⟩:=hr;have hlen:(l.length:Int)<=9223372036854775807:=mv hv;refine⟨⟨⟨rfl,ue5 _,ub2 _,hlen⟩,ph (step:=sn) (λe s=>⟨λ_=>uT,λ_=>uT⟩) _ _,λ_=>uT,λ_=>uT⟩,?_⟩;have hres:vK ((0,(l.length:Int),l,d,()),(lM,()))=_:=qa4 l d lM;show(if dF (vK ((0,(l.length:Int),l,d,()),(lM,())))=true then ((lM,false,()):aB.den×Bool×Unit) else ((zej Bi (vK ((0,(l.length:Int),l,d,()),(lM,())))).2.1,(zej Bi (vK ((0,(l.length:Int),l,d,()),(lM,())))).1.1,()))=((dp l d).1,(dp l d).2,());rw[hres];exact qa3 l d (b:=((d,()),(lM,()))))
def ri (h:aC.den):Bool:=(ju h.2.2.1&&decide (h.2.2.2.1.length<=2000))&&h.2.2.2.1.all λc=>gl c&&gr h.2.2.1.1.1 h.2.2.1.1.2.1 c.2.1
def Gr:Ct:=⟨[.d aC],[.bool],λx=>(ri x.1,()),λ_=>[]⟩
def qan (p:T->σ->Bool) (l:List T) (s:σ):mA p (λ_ s=>s) l s=l.all λe=>p e s:=by
 induction l with
 |nil=>rfl
 |cons e r ih=>simp only[mA,uef]; rw[ih]
abbrev sD:Type:=Bool×dG.den×List ak.den
def kp (s:aB.den):sD:=(s.2.1,s.2.2.1,s.2.2.2.1)
def qxv {a b:dG.den}:yP a b=true↔a=b:=by
 obtain⟨a1,a2,a3,a4,_⟩:=a;constructor
 ·intro h;simp only[yP,uc9,ufc] at h;obtain⟨h1,h2,h3,h4,_⟩:=h;rw[h1,h2,h3,h4]
 ·intro h;cases h;simp[yP]
def Rw {a b:aB.den}:ni a b=true↔kp a=kp b:=by
 unfold ni kp;simp only[uc9,ufc,qxv,KI,uec]
def fh (st:Int->sD) (b:Int):Int->List aB.den->Prop
 |a,[]=>a=b
 |a,s::l=>s.1.1=a/\a<s.1.2.1/\s.2.2.2.2.1=(0:Int)/\(∀ d,a<=d->d<s.1.2.1->kp s=st d)/\(∀ t∈l.head?,kp s≠kp t)/\fh st b s.1.2.1 l
def fh.le {st:Int->sD} {b:Int}:{a:Int} -> {l:List aB.den}->fh st b a l->a<=b
 |a,[],h=>Int.le_of_eq h
 |a,s::l,h=>uez (uep h.2.1) (fh.le h.2.2.2.2.2)
def fh.at_ {st:Int->sD} {b:Int} {s:aB.den} {l:List aB.den} (h:fh st b a (s::l)):kp s=st a:=h.2.2.2.1 a (ue5 a) h.2.1
def iW:List aB.den->aB.den->List aB.den
 |[],s=>[s]
 |[x],s=>if ni x s=true then [((x.1.1,s.1.2.1,()),x.2)] else [x,s]
 |x::y::r,s=>x::iW (y::r) s
def qws (s:aB.den):(y:aB.den)->(r:List aB.den)->∃ y' r',iW (y::r) s=y'::r'/\kp y'=kp y
 |y,[]=>by
  unfold iW;split
  ·exact⟨_,_,rfl,rfl⟩
  ·exact⟨_,_,rfl,rfl⟩
 |y,z::r=>⟨y,_,rfl,rfl⟩
def fh.push {st:Int->sD} {m n:Int} {s:aB.den} (hs:s.1.1=m/\s.1.2.1=n/\s.2.2.2.2.1=(0:Int)) (hmn:m<n) (hst:∀ d,m<=d->d<n->kp s=st d):{a:Int} -> {l:List aB.den}->fh st m a l->fh st n a (iW l s)
 |a,[],h=>by
  have h0:=h;subst h0;refine⟨hs.1,by rw[hs.2.1]; exact hmn,hs.2.2,λd h1 h2=>hst d h1 (by rw[hs.2.1] at h2; exact h2),λt ht=>(by cases ht),hs.2.1⟩
 |a,[x],h=>by
  have hx:=h.2.2.2.2.2;unfold iW;by_cases hh:ni x s=true
  ·rw[if_pos hh];have hc:=Rw.1 hh;refine⟨h.1,?_,h.2.2.1,λd h1 h2=>?_,λt ht=>(by cases ht),?_⟩
   ·show a<s.1.2.1;rw[hs.2.1];have h1:=h.2.1;rw[hx] at h1;exact Int.lt_trans h1 hmn
   ·have h2':d<n:=by
     have:d<s.1.2.1:=h2;rw[hs.2.1] at this;exact this
    by_cases hd:d<m
    ·exact h.2.2.2.1 d h1 (by rw[hx]; exact hd)
    ·exact hc.trans (hst d (ufe.1 hd) h2')
   ·exact hs.2.1
  ·rw[if_neg hh];have hc:=λe=>hh (Rw.2 e);refine⟨h.1,h.2.1,h.2.2.1,h.2.2.2.1,λt ht=>?_,?_⟩
   ·simp at ht;subst ht;exact hc
   ·rw[hx];exact⟨hs.1,by rw[hs.2.1]; exact hmn,hs.2.2,λd h1 h2=>hst d h1 (by rw[hs.2.1] at h2; exact h2),λt ht=>(by cases ht),hs.2.1⟩
 |a,x::y::r,h=>by
  refine⟨h.1,h.2.1,h.2.2.1,h.2.2.2.1,λt ht=>?_,fh.push hs hmn hst h.2.2.2.2.2⟩;obtain⟨y',r',e,hc⟩:=qws s y r;rw[e] at ht;simp at ht;subst ht;rw[hc];exact h.2.2.2.2.1 y (by simp)
def OJ (h:aC.den):List az.den:=(bE h).map (bZ h)
def mP (now:aB.den) (out:List aB.den) (day:Int):List aB.den:=
 if now.1.1=day then out else iW out ((now.1.1,day,()),now.2)
def lG:List az.den->aB.den->List aB.den->aB.den×List aB.den
 |[],now,out=>(now,out)
 |c::l,now,out=>lG l (Bl ((c.2.1,now.1.2.1,()),now.2) c) (mP now out c.2.1)
def Th (h:aC.den):aB.den:=((h.2.2.1.1.1,0,()),true,h.2.2.1.2.1,h.2.2.1.2.2.1,0,())
def eH (h:aC.den):List aB.den:=mP (lG (OJ h) (Th h) []).1 (lG (OJ h) (Th h) []).2 h.2.2.1.1.2.1
abbrev lX:Pt:=⟨68,0,⟨[(5,.d i64)],[.x 2 118 aC,.r 2 2 0,.x 3 24 b8,.r 3 3 0]⟩,⟨[],[.x 3 24 b8,.r 3 3 0]⟩,⟨[(4,.d .bool)],[]⟩⟩
abbrev sg:Type:=ag []×cR [.x 2 118 aC,.r 2 2 0,.x 3 24 b8,.r 3 3 0]
def wg (e:az.den) (s:sg):Fr (sg ⊕ lX.R.X):=
 Jb (decide (((List.length e.2.2.2.2.1):Int)>50)) (Jv (.inr ((false,()),()))) (Jv (.inl ((),s.2.1,(s.2.2.1.1,()),())))
def lj (x:lX.M.X):Int×List az.den×sg:=(x.1.1,x.2.1.2.2.2.1,x.1.2,x.2)
def Rg (x:lX.M.X):Prop:=True
def rA (s:sg):lX.E.X:=((),(s.2.2.1.1,()),())
def qK:sg:=(aW _,bN _)
def Hq:lX.R.X:=(aW _,bN _)
def qsy:ae prog (.loop (au f40 0)) lX.M lX (FL wg lj Rg rA Rd.back qK Hq):=
 qf aH (λ_ _=>.n .o) az.dflt (λx=>((x.2.1.2.2.2.1.length:Nat):Int)) (λx s=>((I6.wrap (x.1.1+1),s.1),s.2)) (λ_ _=>rfl)
def md (y:lX.M.X):sg ⊕ lX.R.X:=dt wg ((lj y).2.1.drop (lj y).1.toNat) (lj y).2.2
def T6 (y:lX.M.X):Prop:=jo wg ((lj y).2.1.drop (lj y).1.toNat) (lj y).2.2
abbrev lY:Pt:=⟨68,2,⟨[(6,.d i64)],[.x 3 24 b8,.r 3 3 0]⟩,⟨[],[]⟩,⟨[(4,.d .bool)],[]⟩⟩
abbrev sh:Type:=ag []×cR [.x 3 24 b8,.r 3 3 0]
def zo (e:aQ.den) (s:sh):Fr (sh ⊕ lY.R.X):=
 Jb (bif bif decide (((List.length e.2.2.1):Int)>200) then true else decide (((List.length e.2.2.2.1):Int)>200) then true else decide (((List.length e.2.2.2.2.1):Int)>200)) (Jv (.inr ((false,()),()))) (Jv (.inl ((),(s.2.1.1,()),())))
def pT (x:lY.M.X):Int×List aQ.den×sh:=(x.1.1,x.2.1.1,x.1.2,x.2)
def Rh (x:lY.M.X):Prop:=True
def qvo (s:sh):lY.E.X:=((),())
def qe2:sh:=(aW _,bN _)
def Hr:lY.R.X:=(aW _,bN _)
def qsz:ae prog (.loop (au f40 1)) lY.M lY (FL zo pT Rh qvo Rd.back qe2 Hr):=
 qf aH (λ_ _=>.n .o) aQ.dflt (λx=>((x.2.1.1.length:Nat):Int)) (λx s=>((I6.wrap (x.1.1+1),s.1),s.2)) (λ_ _=>rfl)
def D2 (y:lY.M.X):sh ⊕ lY.R.X:=dt zo ((pT y).2.1.drop (pT y).1.toNat) (pT y).2.2
def T7 (y:lY.M.X):Prop:=jo zo ((pT y).2.1.drop (pT y).1.toNat) (pT y).2.2
def qjz (x:ag [.d aC,.d b8]):Fr (aa [.bool]):=
 let a:=((0,()),x.1,(x.2.1.1,()),());let g:=md a;let c:=((0,()),((rA (dO qK g)).2.1.1,()),());let b:=D2 ((0,()),((rA (dO qK (dt wg (List.drop (lj a).1.toNat (lj a).2.1) (lj a).2.2))).2.1.1,()),());Jb (bif bif decide (((List.length x.1.2.2.2.1):Int)>60) then true else decide (((List.length x.2.1.1):Int)>100) then true else decide (((List.length x.1.2.2.1.2.2.1):Int)>50)) (Jv (false,())) (Jd (InL (Rg a) (lj a)) (Jd (T6 a) (Jb (dF g) (Jd (InL (Rh c) (pT c)) (Jd (T7 c) (Jb (dF b) (Jv (true,())) (Jv ((zej Hr b).1.1,()))))) (Jv ((zej Hq g).1.1,())))))
def qj0:af prog 40 (bg [.d aC,.d b8] [.bool] qjz):=
 oP aH qsy qsz
def qV (c:az.den):Bool:=decide (c.2.2.2.2.1.length<=50)
def tV (v:aQ.den):Bool:=decide (v.2.2.1.length<=200)&&(decide (v.2.2.2.1.length<=200)&&decide (v.2.2.2.2.1.length<=200))
def mW (h:aC.den) (t:b8.den):Bool:=(decide (h.2.2.2.1.length<=60)&&(decide (t.1.length<=100)&&decide (h.2.2.1.2.2.1.length<=50)))&&(h.2.2.2.1.all qV&&t.1.all tV)
def Gl:Ct:=⟨[.d aC,.d b8],[.bool],λx=>(mW x.1 x.2.1,()),λ_=>[]⟩
def rc (n:Nat) (k:Nat):decide ((n:Int)>(k:Int)) = !decide (n<=k):=by
 rw[udt];simp only[uct,ucs,uau];omega
def qhc (e:az.den) (s:sg):(wg e s).get=if qV e=true then .inl s else .inr ((false,()),()):=by
 show(if decide ((e.2.2.2.2.1.length:Int)>(50:Nat))=true then _ else _)=_;rw[rc];unfold qV;cases decide (e.2.2.2.2.1.length<=50)<;>rfl
def qma (e:aQ.den) (s:sh):(zo e s).get=if tV e=true then .inl s else .inr ((false,()),()):=by
 show(if (bif bif decide ((e.2.2.1.length:Int)>(200:Nat)) then true else decide ((e.2.2.2.1.length:Int)>(200:Nat)) then true else decide ((e.2.2.2.2.1.length:Int)>(200:Nat)))=true then _ else _)=_;rw[rc,rc,rc];unfold tV;cases decide (e.2.2.1.length<=200)<;>cases decide (e.2.2.2.1.length<=200)<;>cases decide (e.2.2.2.2.1.length<=200)<;>rfl
def P7 (l:List T) (s:σ):gm (λ_ s=>s) l s=s:=by
 induction l with
 |nil=>rfl
 |cons e r ih=>exact ih
def qh1:af prog 40 Gl:=
 conv qj0 _ _ (λw F x vs hr _=>by
  obtain⟨h,t,_⟩:=x;obtain⟨v,vs',rfl,hv,v2,vs2,rfl,hv2,_⟩:=hr;have hwf:=aA.wf hv.2.2;have hwf2:=aA.wf hv2.2.2;have hlen:=uB hwf.2.2.2.1.1;have hlen2:=uB hwf2.1.1;have hres:=qt qhc h.2.2.2.1 ((),(h,(t,())));rw[Fq,P7] at hres;have hres':md ((0,()),(h,(t,())))=if h.2.2.2.1.all qV=true then .inl ((),(h,(t,()))) else .inr ((false,()),()):=hres
  have hres2:=qt qma t.1 ((),(t,()));rw[Fq,P7] at hres2;have hres2':D2 ((0,()),(t,()))=if t.1.all tV=true then .inl ((),(t,())) else .inr ((false,()),()):=hres2
  have ho:∀ s,T6 s:=λs=>ph (step:=wg) (λe s=>⟨λ_=>uT,λ_=>uT⟩) _ _;have ho1:∀ s,T7 s:=λs=>ph (step:=zo) (λe s=>⟨λ_=>uT,λ_=>uT⟩) _ _;have hcond:(bif bif decide ((h.2.2.2.1.length:Int)>(60:Nat)) then true else decide ((t.1.length:Int)>(100:Nat)) then true else decide ((h.2.2.1.2.2.1.length:Int)>(50:Nat))) = !(decide (h.2.2.2.1.length<=60)&&(decide (t.1.length<=100)&&decide (h.2.2.1.2.2.1.length<=50))):=by
   rw[rc,rc,rc];cases decide (h.2.2.2.1.length<=60)<;>cases decide (t.1.length<=100)<;>cases decide (h.2.2.1.2.2.1.length<=50)<;>rfl
  have hin2:dF (md ((0,()),(h,(t,()))))=true->(rA (dO qK (md ((0,()),(h,(t,())))))).2.1=t:=by
   rw[hres'];cases h.2.2.2.1.all qV with
   |true=>exact λ_=>rfl
   |false=>exact λhh=>(by cases hh)
  have hlen3:dF (md ((0,()),(h,(t,()))))=true->(((rA (dO qK (md ((0,()),(h,(t,())))))).2.1.1.length:Int))<=9223372036854775807:=λhh=>by
   rw[hin2 hh];exact hlen2
  refine⟨⟨λ_=>uT,λ_=>⟨⟨uT,ue5 _,ub2 _,hlen⟩,ho _,λhh=>⟨⟨uT,ue5 _,ub2 _,hlen3 hh⟩,ho1 _,λ_=>uT,λ_=>uT⟩,λ_=>uT⟩⟩,?_⟩;show(if (bif bif decide ((h.2.2.2.1.length:Int)>(60:Nat)) then true else decide ((t.1.length:Int)>(100:Nat)) then true else decide ((h.2.2.1.2.2.1.length:Int)>(50:Nat)))=true then ((false,()):Bool×Unit) else
   if dF (md ((0,()),(h,(t,()))))=true then (if dF (D2 ((0,()),((rA (dO qK (md ((0,()),(h,(t,())))))).2.1,())))=true then (true,()) else ((zej Hr (D2 ((0,()),((rA (dO qK (md ((0,()),(h,(t,())))))).2.1,())))).1.1,()))
   else ((zej Hq (md ((0,()),(h,(t,()))))).1.1,()))=(mW h t,())
  rw[hcond];unfold mW;by_cases hall:h.2.2.2.1.all qV=true
  ·rw[if_pos hall] at hres';rw[hin2 (by rw[hres']; rfl),hres',hres2',hall];cases (decide (h.2.2.2.1.length<=60)&&(decide (t.1.length<=100)&&decide (h.2.2.1.2.2.1.length<=50)))<;>cases t.1.all tV<;>rfl
  ·have hall':h.2.2.2.1.all qV=false:=by simpa using hall
   rw[hres',hall'];cases (decide (h.2.2.2.1.length<=60)&&(decide (t.1.length<=100)&&decide (h.2.2.1.2.2.1.length<=50)))<;>rfl)
def lv (age:Int):List cY.den->Int->Int
 |[],d=>d
 |b::r,d=>if b.1<age then lv age r d else b.2.1
def Oa:Ct:=⟨[.d (.sl cY),.d i64],[i64],λx=>(lv x.2.1 x.1 10000,()),λ_=>[]⟩
def Vb:Code->Code
 |.seq _ (.scope c)=>c
 |_=>.skip
def Ru:Code->Code
 |.seq a _=>a
 |_=>.skip
noncomputable def Aj:Code:=(f192.body.map Vb).getD .skip
noncomputable def NN:Code:=(f192.body.map Ru).getD .skip
noncomputable def NO:Code:=(findLabel Aj 0).getD .skip
def nQ:LS:=⟨[(0,.d (.sl cY)),(1,.d i64)],[]⟩
def rJ:Pt:=⟨20,0,nQ,⟨[],[]⟩,⟨[(4,.d i64)],[]⟩⟩
def HG (x:nQ.X):Fr rJ.Out:=
 match x with
 |((l,a,_),_)=>Jb ((l.length:Int)==0) (Jv (Rd.back ((10000,()),())))
  (Jd (0<=(0:Int)/\(0:Int)<l.length)
   (Jb (decide ((l.getD (Int.toNat 0) cY.dflt).1<a))
    (Jd (0<=(some (1:Int)).getD 0/\(some (1:Int)).getD 0<=(none:Option Int).getD l.length/\(none:Option Int).getD l.length<=l.length)
     (Jv (Rd.next ((List.take ((none:Option Int).getD l.length-(some (1:Int)).getD 0).toNat (List.drop ((some (1:Int)).getD 0).toNat l),a,()),()))))
    (Jd (0<=(0:Int)/\(0:Int)<l.length) (Jv (Rd.back (((l.getD (Int.toNat 0) cY.dflt).2.1,()),()))))))
def Fc (x:nQ.X):Fr rJ.Out:=Jv (.back ((lv x.1.2.1 x.1.1 10000,()),()))
def qyp:gi prog 0 Aj nQ rJ HG:=gi.of_run aH (bs:=0) rfl rfl rfl (λ_=>aY _ 0) (λx=>by kernel_rfl)
def qyq:gi prog 0 NO nQ rJ HG:=gi.of_run aH (bs:=0) rfl rfl rfl (λ_=>aY _ 0) (λx=>by kernel_rfl)
def qbe (l:List cY.den) (a:Int) (Q:rJ.Out->Prop) (hq:Q (.back ((lv a l 10000,()),()))) :
  (HG ((l,a,()),())).satP λ
   |.next x'=>True/\x'.1.1.length<l.length/\(Fc x').satP Q
   |.out y=>Q (.out y)
   |.back z=>Q (.back z)
   |.pan p=>Q (.pan p):=by
 cases l with
 |nil=>exact⟨λ_=>hq,λh=>by cases h⟩
 |cons b r=>
  have h0:(0:Int)<((b::r).length:Int):=by simp only[uc6]; omega
  have h1:(((b::r).length:Int)==0)=false:=by simp; omega
  refine⟨λh=>(by rw[h1] at h; cases h),λ_=>⟨⟨ue5 0,h0⟩,λh=>⟨⟨by decide,?_,ue5 _⟩,uT,?_,?_⟩,λh=>⟨⟨ue5 0,h0⟩,?_⟩⟩⟩
  ·show(1:Int)<=((b::r).length:Int);omega
  ·show(List.take (((b::r).length:Int)-1).toNat r).length<(b::r).length;rw[uc2];omega
  ·show Q (.back ((lv a (List.take (((b::r).length:Int)-1).toNat r) 10000,()),()));have e:List.take (((b::r).length:Int)-1).toNat r=r:=ua2 (by simp);have hc:=ucv h;rw[e];have:lv a (b::r) 10000=lv a r 10000:=if_pos hc;rw[<- this];exact hq
  ·have hc:=ucf h;have:lv a (b::r) 10000=b.2.1:=if_neg hc;rw[this] at hq;exact hq
def qbf:ae prog (.scope Aj) nQ rJ Fc:=
 gi.scope (n:=20) (id:=0) (N:=nQ) (rest:=NO) (by kernel_rfl) qyp qyq (inv:=λ_=>True) (μ:=λx=>x.1.1.length)
  (by
   rintro⟨⟨l,a,_⟩,_⟩ _ Q hq;exact qbe l a Q hq)
  (λ_ _ _=>uT)
def qbg:af prog 192 Oa:=
 cQ (QM (run:=sq (cr prog dB 0 bw NN 0) (rJ.han dB.Γ nQ Fc)) (fn:=f192) (c:=.seq NN (.scope Aj)) (ps:=[.d (.sl cY),.d i64]) (rs:=[i64])
  (fr:=λx=>Jv (lv x.2.1 x.1 10000,())) ([],0,()) (by kernel_rfl) (by kernel_rfl)
  (λE=>z8 (tI aH (aY _ 0)) (ae.run aH rfl qbf)) (λx=>by kernel_rfl)) _ _ (λ_ _ _ _ _ _=>⟨uT,rfl⟩)
def yp:aQ.den:=(0,(0,0,0,0,()),[],[],[],0,())
def cq (day:Int):List aQ.den->aQ.den×Int
 |[]=>(yp,7)
 |v::r=>if v.1<=day then (v,0) else cq day r
def xC (T:Ty) (n:Nat) (x:ag [.d (.sl T)]):Fr (aa [.sl T]):=
 let a:=([]:List T.den);let b:=(a++x.1,());Jd (x.1=[] ->
   (Jb true (Jv (a,())) (Jd (a.length+x.1.length<=maxLen/\(a.length+x.1.length)*n<=140737488355328) (Jv b))).ok /\
   (Jb true (Jv (a,())) (Jd (a.length+x.1.length<=maxLen/\(a.length+x.1.length)*n<=140737488355328) (Jv b))).get =
    (Jb false (Jv (a,())) (Jd (a.length+x.1.length<=maxLen/\(a.length+x.1.length)*n<=140737488355328) (Jv b))).get)
  (Jb false (Jv (a,())) (Jd (a.length+x.1.length<=maxLen/\(a.length+x.1.length)*n<=140737488355328) (Jv b)))
def mB (T:Ty):Ct:=⟨[.d (.sl T)],[.sl T],λx=>(x.1,()),λx=>[x.1.length<=1000000]⟩
def Hc {T:Ty} (hn:n<=1000) {l:List T.den} (hl:l.length<=1000000):(xC T n (l,())).ok/\(xC T n (l,())).get=(l,()):=by
 have h1:([]:List T.den).length+l.length<=maxLen/\(([]:List T.den).length+l.length)*n<=140737488355328:=by
  refine⟨by simp; unfold maxLen; omega,?_⟩;have:(([]:List T.den).length+l.length)*n<=1000000*1000:=uea (by simp; omega) hn;omega
 refine aF (λh=>?_) (aR rfl (aF h1 ⟨uT,rfl⟩));subst h;exact⟨⟨λ_=>uT,λh=>by cases h⟩,rfl⟩
def qdn:af prog 187 (mB cY):=
 cQ (aS aH f187 (fr:=xC cY 16)) _ _
  (λ_ _ x _ _ hok=>Hc (by decide) hok)
def qdo:af prog 188 (mB i64):=
 cQ (aS aH f188 (fr:=xC i64 8)) _ _
  (λ_ _ x _ _ hok=>Hc (by decide) hok)
def Bc:af prog 56 (mB ak):=
 cQ (aS aH f56 (fr:=xC ak 40)) _ _
  (λ_ _ x _ _ hok=>Hc (by decide) hok)
def iI (g:Int->Bool):List Int->Int->Option Int
 |[],_=>none
 |x::r,i=>if g x=true then some i else iI g r (i+1)
abbrev xB:PT:=.fn [i64] [.bool]
def wB:LS:=⟨[(0,.d aK),(1,xB),(7,.d i64),(8,.d i64)],[]⟩
def uZ:Pt:=⟨19,0,wB,⟨[],[]⟩,⟨[(4,.d i64)],[]⟩⟩
def PR (x:wB.X):Fr uZ.Out:=
 match x with
 |((l,g,n,i,_),_)=>Jb (decide (i<n))
  (Jd (0<=i/\i<l.length)
   (Jb (g (l.getD i.toNat i64.dflt,())).1 (Jv (Rd.back ((i,()),())))
    (Jv (Rd.next ((l,g,n,I6.wrap (i+1),()),())))))
  (Jv (Rd.out ((),())))
def sR (l:List Int) (n i:Int):Prop:=0<=i/\i<=n/\n=l.length/\n<=9223372036854775807
def MJ (x:wB.X):Fr uZ.Out:=
 Jd (sR x.1.1 x.1.2.2.1 x.1.2.2.2.1) (Jb (iI (λn=>(x.1.2.1 (n,())).1) (x.1.1.drop x.1.2.2.2.1.toNat) x.1.2.2.2.1).isSome
   (Jv (.back (((iI (λn=>(x.1.2.1 (n,())).1) (x.1.1.drop x.1.2.2.2.1.toNat) x.1.2.2.2.1).getD (-1),()),()))) (Jv (.out ((),()))))
def qyy:ae prog (au f237 0) wB uZ PR:=ae.of_run aH (bs:=0) rfl rfl rfl (λ_=>aY _ 0) (λx=>by kernel_rfl)
def qpu (l:List Int) (g:aa [i64]->aa [.bool]) (n i:Int) (hinv:sR l n i) (Q:uZ.Out->Prop) (hq:(Jb (iI (λn=>(g (n,())).1) (l.drop i.toNat) i).isSome (Jv (Rd.back (((iI (λn=>(g (n,())).1) (l.drop i.toNat) i).getD (-1),()),()))) (Jv (Rd.out ((),())))  : Fr uZ.Out).satP Q) :
  (PR ((l,g,n,i,()),())).satP λ
   |.next x'=>sR x'.1.1 x'.1.2.2.1 x'.1.2.2.2.1/\(x'.1.2.2.1-x'.1.2.2.2.1).toNat<(n-i).toNat/\(MJ x').satP Q
   |.out y=>Q (.out y)
   |.back z=>Q (.back z)
   |.pan p=>Q (.pan p):=by
 obtain⟨h1,h2,h3,h4⟩:=hinv;subst h3;refine⟨λhi=>?_,λhi=>?_⟩
 ·have hi':i<(l.length:Int):=ucv hi;obtain⟨k,rfl⟩:∃ k:Nat,i=k:=⟨i.toNat,by omega⟩;have hl:k<l.length:=by omega
  have g1:l.getD (k:Int).toNat i64.dflt=l[k]:=by
   rw[show(k:Int).toNat=k by omega,uah,uap hl]; rfl
  have hw:I6.wrap ((k:Int)+1)=k+1:=IntWalk.i64_in _ (by omega);have hd:l.drop (k:Int).toNat=l[k]::l.drop (k+1):=by
   exact(ual hl)
  rw[hd] at hq;dsimp only[Fr.satP];rw[g1,hw];refine⟨⟨by omega,by omega⟩,λhb=>?_,λhb=>?_⟩
  ·have:iI (λn=>(g (n,())).1) (l[k]::l.drop (k+1)) k=some (k:Int):=if_pos hb;rw[this] at hq;exact hq.1 rfl
  ·have hb':¬ (g (l[k],())).1=true:=by rw[hb]; decide
   have:iI (λn=>(g (n,())).1) (l[k]::l.drop (k+1)) k=iI (λn=>(g (n,())).1) (l.drop (k+1)) (k+1):=if_neg hb';rw[this] at hq;have hI:sR l l.length ((k:Int)+1):=⟨by omega,by omega,rfl,h4⟩;refine⟨hI,by omega,hI,?_⟩;exact hq
 ·have hi':¬ i<(l.length:Int):=ucf hi;have e:l.drop i.toNat=[]:=ua1 (by omega);rw[e] at hq;exact hq.2 rfl
def qq2:ae prog (.loop (au f237 0)) wB uZ MJ:=by
 refine ae.loop qyy (μ:=λx=>(x.1.2.2.1-x.1.2.2.2.1).toNat) ?_ (λx Q h=>h.1);rintro⟨⟨l,g,n,i,_⟩,_⟩ hinv Q hq;exact qpu l g n i hinv Q hq.2
def Gs:Ct:=⟨[.d aK,xB],[i64],λx=>((iI (λn=>(x.2.1 (n,())).1) x.1 0).getD (-1),()),λ_=>[]⟩
def qnj:af prog 237 Gs:=
 cQ (cS aH qq2 (ps:=[.d aK,xB]) (fr:=λx=>Jd (sR x.1 x.1.length 0) (Jb (iI (λn=>(x.2.1 (n,())).1) x.1 0).isSome (Jv ((iI (λn=>(x.2.1 (n,())).1) x.1 0).getD (-1),())) (Jv (-1,()))))) _ _ (λw F x vs hr _=>by
  obtain⟨l,g,_⟩:=x;obtain⟨v,vs',rfl,hv,_⟩:=hr;have hlen:=mv hv;have hI:sR l l.length 0:=⟨by omega,by omega,rfl,hlen⟩;refine aF hI ?_;cases hf:iI (λn=>(g (n,())).1) l 0 with
  |some k=>exact aZ rfl ⟨uT,rfl⟩
  |none=>exact aR rfl ⟨uT,rfl⟩)
def Qu (g:Int->Bool):(l:List Int)->(i:Int)->0<=i->decide ((iI g l i).getD (-1)>=0)=l.any g
 |[],i,_=>rfl
 |x::r,i,h=>by
  unfold iI;simp;split
  ·rename_i hg;rw[hg];simpa using h
  ·rename_i hg;rw[Qu g r (i+1) (by omega)];simp at hg;rw[hg];rfl
def FX:Ct:=⟨[.d aK,xB],[.bool],λx=>(x.1.any λn=>(x.2.1 (n,())).1,()),λ_=>[]⟩
noncomputable def Xl:Cx:=cx [(237,Gs)] []
def Xm:CxOK prog Xl:=aP aG ⟨qnj,uT⟩ trivial
def qaq:af prog 228 FX:=
 cQ (aS Xm f228 (fr:=λx=>Jv (decide ((Gs.f (x.1,x.2.1,())).1>=0),())) (ps:=[.d aK,xB])) _ _
  (λ_ _ x _ _ _=>by
   obtain⟨l,g,_⟩:=x;exact⟨uT,ufn (Qu (λn=>(g (n,())).1) l 0 (ue5 0)) rfl⟩)
def Bu (n:Int):Bool:=bif decide (n<0) then true else decide (n>100000)
def Gk:Ct:=⟨[.d i64],[.bool],λx=>(Bu x.1,()),λ_=>[]⟩
def qg9:af prog 229 Gk:=
 cQ (aS aH f229 (fr:=λx=>Jv (Bu x.1,())) (ps:=[.d i64])) _ _ (λ_ _ _ _ _ _=>⟨uT,rfl⟩)
def qha (l:List Int):(!l.any Bu)=kG l:=by
 rw[List.not_any_eq_all_not];congr 1;funext n;unfold Bu;rw[udt];by_cases h:n<0
 ·simp[h]; omega
 ·simp[h]; omega
noncomputable def Xn:Cx:=cx [(228,FX),(229,Gk)] []
def Xo:CxOK prog Xn:=aP aG ⟨qaq,qg9,uT⟩ trivial
def qhb:af prog 212 wQ:=
 cQ (aS Xo f212 (fr:=λx=>Jd (∀ (y:aa [i64]),fi [i64] y->True) (Jv (!(FX.f (x.1,λy=>Gk.f (y.1,()),())).1,()))) (ps:=[.d aK])) _ _
  (λ_ _ x _ _ _=>by
   obtain⟨l,_⟩:=x;exact⟨⟨λ_ _=>uT,uT⟩,ufn (qha l) rfl⟩)
def qb (v:aQ.den):Bool:=
 decide (1<=v.1/\v.1<=292194/\0<=v.2.2.2.2.2.1/\v.2.2.2.2.2.1<=1000000000000000/\v.2.2.1.length<=100/\1<=v.2.2.2.1.length/\v.2.2.2.1.length<=100/\v.2.2.2.2.1.length=8) &&
  (kG [v.2.1.1,v.2.1.2.1,v.2.1.2.2.1,v.2.1.2.2.2.1]&&(kG v.2.2.2.1&&(kG v.2.2.2.2.1&&wJ v.2.2.1)))
def AF:Ct:=⟨[.d aQ],[.bool],λx=>(qb x.1,()),λ_=>[]⟩
noncomputable def Xp:Cx:=cx [(212,wQ),(213,Au),(187,mB cY),(188,mB i64)] []
def LY:CxOK prog Xp:=aP aG ⟨qhb,NP,qdn,qdo,uT⟩ trivial
def zB (a b:Int):Bool:=bif bif bif decide (a<1) then true else decide (a>292194) then true else decide (b<0) then true else decide (b>1000000000000000)
def zC (n z p:Nat):Bool:=bif bif bif decide ((n:Int)>100) then true else decide ((z:Int)<1) then true else decide ((z:Int)>100) then true else (p:Int) != 8
def QA (x:ag [.d aQ]):Fr (aa [.bool]):=
 Jb (zB x.1.1 x.1.2.2.2.2.2.1) (Jv (false,()))
  (Jb (zC x.1.2.2.1.length x.1.2.2.2.1.length x.1.2.2.2.2.1.length) (Jv (false,()))
   (Jv (bif bif bif (wQ.f ([x.1.2.1.1,x.1.2.1.2.1,x.1.2.1.2.2.1,x.1.2.1.2.2.2.1],())).1 then (wQ.f (x.1.2.2.2.1,())).1 else false then (wQ.f (x.1.2.2.2.2.1,())).1 else false then (Au.f (x.1.2.2.1,())).1 else false,())))
def zc5 (a b:Int) (n z p:Nat):(!(zB a b || zC n z p))=decide (1<=a/\a<=292194/\0<=b/\b<=1000000000000000/\n<=100/\1<=z/\z<=100/\p=8):=by
 have e1:zB a b=decide (a<1\/a>292194\/b<0\/b>1000000000000000):=by
  unfold zB;simp;cases decide (a<1)<;>cases decide (a>292194)<;>cases decide (b<0)<;>simp
 have e2:zC n z p=decide ((n:Int)>100\/(z:Int)<1\/(z:Int)>100\/(p:Int)≠8):=by
  unfold zC;simp;cases decide ((n:Int)>100)<;>cases decide ((z:Int)<1)<;>cases decide ((z:Int)>100)<;>simp[bne,Bool.beq_eq_decide_eq]
 rw[e1,e2,udt];simp;omega
def zbk:af prog 191 AF:=
 cQ (aS LY f191 (fr:=QA)) _ _
  (λ_ _ x _ _ _=>by
   obtain⟨v,_⟩:=x;unfold qb;rw[<- zc5];unfold QA;cases h1:zB v.1 v.2.2.2.2.2.1 with
   |true=>exact aZ rfl ⟨uT,rfl⟩
   |false=>
    refine aR rfl ?_;cases h2:zC v.2.2.1.length v.2.2.2.1.length v.2.2.2.2.1.length with
    |true=>exact aZ rfl ⟨uT,rfl⟩
    |false=>
     refine aR rfl ⟨uT,ufn ?_ rfl⟩;show(bif bif bif kG _ then kG _ else false then kG _ else false then wJ _ else false)=_;cases kG [v.2.1.1,v.2.1.2.1,v.2.1.2.2.1,v.2.1.2.2.2.1]<;>cases kG v.2.2.2.1<;>cases kG v.2.2.2.2.1<;>rfl)
def LC (v:aQ.den):Prop:=v.2.2.1.length<=1000000/\v.2.2.2.1.length<=1000000/\v.2.2.2.2.1.length<=1000000
def qbt:Ct:=⟨[.d aQ],[aQ],λx=>(x.1,()),λx=>[LC x.1]⟩
def qvz:af prog 146 qbt:=
 cQ (aS LY f146 (fr:=λx=>Jd (x.1.2.2.1.length<=1000000) (Jd (x.1.2.2.2.1.length<=1000000) (Jd (x.1.2.2.2.2.1.length<=1000000) (Jv (x.1,()))))) (ps:=[.d aQ])) _ _
  (λ_ _ x _ _ hok=>⟨⟨hok.1,hok.2.1,hok.2.2,uT⟩,rfl⟩)
section
open Go.Shelf
attribute [local go_sem] Oper.semAt_some
def hP (f:Nat->Nat) (k:Nat):List Nat:=(List.range k).map f
def tX (f:Nat->Nat) (k:Nat):hP f (k+1)=hP f k++[f k]:=by simp[hP,udx]
def BQ (f:Nat->Nat) (k:Nat):(hP f k).length=k:=by simp[hP]
def Wy (c:Nat->Nat->Value) (k:Nat):Value:=.agg #[c k 0,c k 1,c k 2,c k 3,c k 4,c k 5,c k 6,c k 7,c k 8]
def qa9 (n:Nat) (hn:1<=n) (l Bs n₀ b off len cap:Nat) (c:Nat->Nat->Value) (hreach:len<=1000000) (A:Option Addr) (hA:0<len->A=some ⟨b,off,none⟩/\b<n₀) (J Jx:List (Fin len)->World->Prop)
  (hY:∀ pre (k:Fin len) W,J pre W->pre.length<len->YieldAt Fence.wide (n-1) prog l #[.int .i64 ((k.1:Nat):Int),Wy c k.1] W λe W'=>
   (e = .returned (.bool true)/\J (pre++[k]) W'/\cw n₀ Bs Bs W W')\/(e = .returned (.bool false)/\Jx (pre++[k]) W'))
  (W:World) (hBs:W.heap[Bs]? = some (.cells #[.slice A len cap] 22 (0,0))) (hc:∀ k j,k<len->j<9->W.cell? ⟨b,off+(k*9+j),none⟩=some (c k j)) (h0:J [] W) :
  CallsIn Fence.wide n prog 186 #[.func (.yield l) #[] #[],.pointer (some ⟨Bs,0,none⟩)] W λe W'=>(∃ v,e = .returned v) /\
   ((∃ ys:List (Fin len),ys.map Fin.val=hP (λj=>len-1-j) len/\J ys W')\/(∃ pre:List (Fin len),(∃ k,k<=len/\pre.map Fin.val=hP (λj=>len-1-j) k)/\Jx pre W')):=by
 have hro:Fence.wide.round=none:=rfl;refine callsIn_of_wp func186 rfl trivial ?_ hro;simp only[ntmps186,uco,uc6,udh,Nat.reduceAdd,Nat.reduceSub,ubl,ubm,ucw,ubv,udi,uc1];have c0:=aO hBs 0
 gi_wp2
 gi_loopw [3] (λi wr=>∃ (k:Nat) (pre:List (Fin len)),k<=len/\i = .int .i64 ((len:Int)-1-k)/\pre.map Fin.val=hP (λj=>len-1-j) k/\J pre wr/\cw n₀ Bs Bs W wr)
  (λi _=>(intOf i+1).toNat)
 case atStart=>exact⟨0,[],ufa _,by simp,rfl,h0,cw.refl _ _ _ _⟩
 case round=>
  obtain⟨k,pre,hk,rfl,hpre,hJs,hnx⟩:=hrel;have e0:=aO (hnx.2.1.trans hBs) 0;by_cases hlt:k<len
  ·obtain⟨rfl,hb⟩:=hA (by omega);obtain⟨fn,tmps,assign,body,hy,hR⟩:=hY pre ⟨len-1-k,by omega⟩ wr hJs (by have:=ufm List.length hpre; rw[BQ,udy] at this; omega);have hcx:∀ j,j<9->wr.cell? ⟨b,off+(len-1-k)*9+j,none⟩=some (c (len-1-k) j):=λj hj=>by
    rw[ued];exact(hnx.1.cell hb).trans (hc _ j (by omega) hj)
   have x0:=hcx 0 (by omega);have x1:=hcx 1 (by omega);have x2:=hcx 2 (by omega);have x3:=hcx 3 (by omega);have x4:=hcx 4 (by omega);have x5:=hcx 5 (by omega);have x6:=hcx 6 (by omega);have x7:=hcx 7 (by omega);have x8:=hcx 8 (by omega);rw[ueu] at x0;have ek:((len-1-k:Nat):Int)=(len:Int)-1-k:=by omega
   rw[ek] at hy;unfold Wy at hy
   gi_wp2
   refine hR.mono ?_;rintro e W3 (⟨rfl,hJ3,hk3⟩|⟨rfl,hJx3⟩)
   ·gi_wp2
    go_roundw
    case rel=>exact⟨k+1,pre++[⟨len-1-k,by omega⟩],by omega,by simp; omega,by rw[tX,uds,hpre]; rfl,hJ3,hnx.trans hk3⟩
    case measure=>simp[intOf]; omega
   ·gi_wp2
    refine uex (uey rfl _ _ _) rfl ?_;exact⟨⟨_,rfl⟩,.inr ⟨_,⟨k+1,by omega,by rw[tX,uds,hpre]; rfl⟩,hJx3⟩⟩
  ·obtain rfl:k=len:=by omega
   gi_wp2
   go_end0
   exact⟨⟨_,rfl⟩,.inl ⟨_,hpre,hJs⟩⟩
end
end Go.Proofs.YtmcjmjbeknbddaaGreat
namespace Go.Ab
open Go Go.RowKit
open Go.Ab.Fr renaming val->Jv,need->Jd,br->Jb
def Ty.plain:Ty->Bool
 |.fm _=>false
 |.ic _ _=>false
 |.sl e=>e.plain&&decide (0<e.size)
 |.pair a b=>a.plain&&b.plain
 |_=>true
def LI:{t:Ty} -> {x:t.den} -> {g:Nat->Value->Prop}->0<t.size->aA w F t x g->∃ j u,g j u
 |.int _,_,_,_,h=>⟨0,_,h.1⟩
 |.bool,_,_,_,h=>⟨0,_,h⟩
 |.str,_,_,_,h=>⟨0,_,h.1⟩
 |.sl _,_,_,_,h=>by
  obtain⟨A,c,h1,_⟩:=h;exact⟨0,_,h1⟩
 |.unit,_,_,h,_=>absurd h (by decide)
 |.pair a b,_,_,h,hr=>by
  by_cases ha:0<a.size
  ·exact LI ha hr.1
  ·have hb:0<b.size:=by simp only[Ty.size] at h; omega
   obtain⟨j,u,hu⟩:=LI hb hr.2;exact⟨_,u,hu⟩
 |.fm _,_,_,_,h=>by
  obtain⟨r,arr,ck,h1,_⟩:=h;exact⟨0,_,h1⟩
 |.ic _ _,_,_,_,h=>by
  rcases h with ⟨ty,u,_,h2,_⟩|⟨_,h2⟩
  ·exact⟨0,_,h2⟩
  ·exact⟨0,_,h2⟩
 |.fc _,_,_,_,h=>by
  obtain⟨u,h1,_⟩:=h;exact⟨0,_,h1⟩
def GU {a:Addr} (h:w.cell? a=some u):∃ arr ty p,w.heap[a.block]? = some (.cells arr ty p):=by
 unfold World.cell? at h;split at h
 ·rename_i arr ty p he;exact⟨arr,ty,p,he⟩
 ·cases h
def aA.only {G:Nat->Prop} (hG:∀ b,F b->(∃ arr ty p,w.heap[b]? = some (.cells arr ty p))->G b):{t:Ty} -> {x:t.den} -> {g:Nat->Value->Prop}->t.plain=true->aA w F t x g->aA w G t x g
 |.int _,_,_,_,h=>h
 |.bool,_,_,_,h=>h
 |.str,_,_,_,h=>h
 |.sl e,_,_,hp,h=>by
  obtain⟨A,c,h1,h2,h3,h4⟩:=h;simp only[Ty.plain,uc9,ucs] at hp;refine⟨A,c,h1,h2,h3,λi x hx=>?_⟩;obtain⟨ad,ha,hf,hr⟩:=h4 i x hx;obtain⟨j,u,hu⟩:=LI hp.2 hr;have hc:=GU hu;have hb:(ad.add (i*e.size+j)).block=ad.block:=by unfold Addr.add; split<;>rfl
  rw[hb] at hc;exact⟨ad,ha,hG _ hf hc,aA.only hG hp.1 hr⟩
 |.unit,_,_,_,_=>trivial
 |.pair a b,_,_,hp,h=>by
  simp only[Ty.plain,uc9] at hp;exact⟨aA.only hG hp.1 h.1,aA.only hG hp.2 h.2⟩
 |.fm _,_,_,hp,_=>by cases hp
 |.ic _ _,_,_,hp,_=>by cases hp
 |.fc _,_,_,_,h=>h
def bu.only {G:Nat->Prop} (hG:∀ b,F b->(∃ arr ty p,w.heap[b]? = some (.cells arr ty p))->G b) {t:Ty} {x:t.den} (hp:t.plain=true) (h:bu w F t x v):bu w G t x v:=
 ⟨h.1,h.2.1,h.2.2.only hG hp⟩
end Go.Ab
namespace Go.Proofs.YtmcjmjbeknbddaaGreat
open Go Go.Ab Go.RowKit Go.Proofs Go.Shelf Tryz
open Go.Ab.Fr renaming val->Jv,need->Jd,br->Jb
section
attribute [local go_sem] Oper.semAt_some
structure VC where
 p:Nat->Int
 A:Nat->Option Addr
 l:Nat->Nat
 c:Nat->Nat
def gj (d:VC):Array Value:=#[.int .i64 (d.p 0),.int .i64 (d.p 1),.int .i64 (d.p 2),.int .i64 (d.p 3),.int .i64 (d.p 4),.slice (d.A 0) (d.l 0) (d.c 0),.slice (d.A 1) (d.l 1) (d.c 1),.slice (d.A 2) (d.l 2) (d.c 2),.int .i64 (d.p 5)]
def i9 (d:VC):Value:=.agg (gj d)
def Wz {x:aQ.den} (h:aA w F aQ x g):∃ d:VC,(∀ j u,(gj d)[j]? = some u->g j u)/\d.p 0=x.1:=by
 obtain⟨h0,⟨b0,b1,b2,b3,_⟩,⟨A1,c1,h1,_⟩,⟨A2,c2,h2,_⟩,⟨A3,c3,h3,_⟩,h4,_⟩:=h;refine⟨⟨λj=>match j with|0=>x.1|1=>x.2.1.1|2=>x.2.1.2.1|3=>x.2.1.2.2.1|4=>x.2.1.2.2.2.1|_=>x.2.2.2.2.2.1,λj=>match j with|0=>A1|1=>A2|_=>A3,λj=>match j with|0=>x.2.2.1.length|1=>x.2.2.2.1.length|_=>x.2.2.2.2.1.length,λj=>match j with|0=>c1|1=>c2|_=>c3⟩,λj u hj=>?_,rfl⟩
 match j,hj with
 |0,hj=>cases hj; exact h0.1
 |1,hj=>cases hj; exact b0.1
 |2,hj=>cases hj; exact b1.1
 |3,hj=>cases hj; exact b2.1
 |4,hj=>cases hj; exact b3.1
 |5,hj=>cases hj; exact h1
 |6,hj=>cases hj; exact h2
 |7,hj=>cases hj; exact h3
 |8,hj=>cases hj; exact h4.1
 |j+9,hj=>simp[gj] at hj
def zc4 {x:aQ.den} (h:bu w F aQ x v):∃ d:VC,v=i9 d/\d.p 0=x.1:=by
 obtain⟨cs,rfl⟩:=h.2.1.1 rfl;have hs:=h.1;obtain⟨d,hd,h0⟩:=Wz h.2.2;refine⟨d,?_,h0⟩;congr 1;apply ufh
 ·exact hs
 ·intro i hi1 hi2;have:=hd i (gj d)[i] (uam hi2);have h2:cs[i]? = some (gj d)[i]:=this;rw[uam hi1] at h2;exact udz h2
def iZ:Array Value:=#[.int .i64 0,.int .i64 0,.int .i64 0,.int .i64 0,.int .i64 0,.slice none 0 0,.slice none 0 0,.slice none 0 0,.int .i64 0]
def Ny (F:Nat->Prop) (x:aQ.den) (d:VC) (W w':World):Prop:=
 ∃ F',bu w' F' aQ x (i9 d)/\∀ b,F' b->(F b\/W.heap.size<=b)/\∃ arr ty p,w'.heap[b]? = some (.cells arr ty p)
def qvx {x:aQ.den} (hb:∀ b,F b->b<w.heap.size) (hW:Below w.heap.size w W) (hx:bu w F aQ x v) (hf:LC x) :
  Calls prog 146 #[v] W λe w'=>∃ d,e = .returned (i9 d)/\Below W.heap.size W w'/\Ny F x d W w':=by
 have hx':=hx.mono (λ_ h=>h) (λb h=>hW.block b (hb b h));refine(qvz.2 W F (x,()) [v] (λb h=>ub9 (hb b h) hW.size) ⟨v,[],rfl,hx',rfl⟩ hf).mono ?_;rintro e w' ⟨u,F',rfl,hbel,h1,h2,h3⟩;have h3':=h3;obtain⟨d,rfl,_⟩:=zc4 h3';exact⟨d,rfl,hbel,λb=>F' b/\∃ arr ty p,w'.heap[b]? = some (.cells arr ty p),h3'.only (λb h hc=>⟨h,hc⟩) rfl,λb h=>⟨(h2 b h.1).1,h.2⟩⟩
structure AtI (w:World) (day:Int) (sv:Value) (fr:Nat->Int) (pre:List (Fin len)) (W:World):Prop where
 x3:Boxed W (w.heap.size+1) 3 (.int .i64 day)
 x4:W.heap[w.heap.size+2]? = some (.cells iZ 123 (0,0))
 x5:Boxed W (w.heap.size+3) 47 (.int .i64 0)
 xs:Boxed W (w.heap.size+4) 22 sv
 bel:Below w.heap.size w W
 sz:w.heap.size+5<=W.heap.size
 no:∀ k∈pre,¬ fr k.1<=day
structure AtX (w:World) (F:Nat->Prop) (day:Int) (x:Nat->aQ.den) (fr:Nat->Int) (c:Code) (pre:List (Fin len)) (W:World):Prop where
 ret:c = .ret
 res:∃ ini k d F',pre=ini++[k]/\(∀ k∈ini,¬ fr k.1<=day)/\fr k.1<=day/\W.heap[w.heap.size+2]? = some (.cells (gj d) 123 (0,0))/\bu W F' aQ (x k.1) (i9 d)/\(∀ b,F' b->(F b\/w.heap.size<=b)/\∃ arr ty p,W.heap[b]? = some (.cells arr ty p))
 x5:Boxed W (w.heap.size+3) 47 (.int .i64 0)
 bel:Below w.heap.size w W
def qs {X Y:World} {row:Option Nat} {p:Nat×Nat} (h:X.heap[b]? = some (.cells cs t p)) (hg:X.grownBy Y row) (hr:∀ r,row=some r->B<=r/\∃ o:Obj,X.heap[r]? = some o/\o.isCells=false):Y.heap[b]? = some (.cells cs t p):=
 (hg.block b (uaf.1 h).1 (λe=>by
  obtain⟨_,o,ho,hc⟩:=hr b e.symm;rw[h] at ho;cases ho;cases hc)).trans h
def qa1 {sv:Value} {fr:Nat->Int} (hB:w.heap.size<=B):OwnFrom B (λ(pre:List (Fin len)) W=>AtI w day sv fr pre W):=λpre X Y row h hg hr=>
 ⟨iB h.x3 hg hr,qs h.x4 hg hr,iB h.x5 hg hr,iB h.xs hg hr,h.bel.grown hg h.bel.size (λk e=>uek hB (hr k e).1),uek h.sz hg.size,h.no⟩
def qa2 {x:Nat->aQ.den} {fr:Nat->Int} (hB:w.heap.size<=B) (c:Code):OwnFrom B (λ(pre:List (Fin len)) W=>AtX w F day x fr c pre W):=λpre X Y row h hg hr=>by
 refine⟨h.ret,?_,iB h.x5 hg hr,h.bel.grown hg h.bel.size (λk e=>uek hB (hr k e).1)⟩;obtain⟨ini,k,d,F',e1,e2,e3,e4,e5,e6⟩:=h.res;refine⟨ini,k,d,F',e1,e2,e3,qs e4 hg hr,e5.mono (λ_ h=>h) (λb hb=>?_),λb hb=>?_⟩
 ·obtain⟨_,arr,ty,p,hc⟩:=e6 b hb;rw[hc];exact qs hc hg hr
 ·obtain⟨hh,arr,ty,p,hc⟩:=e6 b hb;exact⟨hh,arr,ty,p,qs hc hg hr⟩
def LN (w0:Nat) (c:Nat->VC) (a:Nat->Nat->Act) (k:Nat) (a':Act) (W:World):Prop:=∃ Bx,w0<=Bx/\W.heap[Bx]? = some (.cells (gj (c k)) 123 (0,0))/\a'=a k Bx
def qaz {w0:Nat} {c:Nat->VC} {a:Nat->Nat->Act} (k:Nat) (a':Act):OwnFrom B (λ(_:Unit) W=>LN w0 c a k a' W):=λ_ X Y row hs hg hr=>by
 obtain⟨Bx,h1,h2,h3⟩:=hs;exact⟨Bx,h1,qs h2 hg hr,h3⟩
def qbb (n:Nat) (A:Option Addr) (len cap:Nat) (w:World) :
  CallsIn Fence.wide n prog 145 #[.slice A len cap] w λe w'=>e = .returned (.func (.func 186) #[] #[.pointer (some ⟨w.heap.size,0,none⟩)])/\w'=w.alloc (.cells #[.slice A len cap] 22):=by
 refine callsIn_of_wp func145 rfl trivial ?_ rfl;simp only[ntmps145,uco,uc6,udh,Nat.reduceAdd,Nat.reduceSub,ubl,ubm,ucw,ubv,udi,uc1]
 gi_wp2
 go_ret
 exact⟨rfl,rfl⟩
def WS (w:World) (F:Nat->Prop) (day:Int) (x:Nat->aQ.den) (fr:Nat->Int) (len:Nat) (e:Ending) (w':World):Prop:=
 (e = .returned (.tuple #[.agg iZ,.int .i64 7])/\∀ k,k<len->¬ fr k<=day) \/
 ∃ k d F',k<len/\fr k<=day/\(∀ j,k<j->j<len->¬ fr j<=day)/\e = .returned (.tuple #[i9 d,.int .i64 0])/\bu w' F' aQ (x k) (i9 d)/\(∀ b,F' b->(F b\/w.heap.size<=b)/\b<w'.heap.size)
def Vh {a0 a1 a2 a3 a4 a5 a6 a7 a8:Value} (h:W.heap[B]? = some (.cells #[a0,a1,a2,a3,a4,a5,a6,a7,a8] t (0,0))) (v0 v1 v2 v3 v4 v5 v6 v7 v8:Value) :
  (W.setCells B 0 [v0,v1,v2,v3,v4,v5,v6,v7,v8]).heap[B]? = some (.cells #[v0,v1,v2,v3,v4,v5,v6,v7,v8] t (0,0)):=by
 have h0:=ucz W B 0 _ t v0 h;rw[show(#[a0,a1,a2,a3,a4,a5,a6,a7,a8]:Array Value).setIfInBounds 0 v0 = #[v0,a1,a2,a3,a4,a5,a6,a7,a8] from rfl] at h0;have h1:=ucz _ B 1 _ t v1 h0;rw[show(#[v0,a1,a2,a3,a4,a5,a6,a7,a8]:Array Value).setIfInBounds 1 v1 = #[v0,v1,a2,a3,a4,a5,a6,a7,a8] from rfl] at h1;have h2:=ucz _ B 2 _ t v2 h1;rw[show(#[v0,v1,a2,a3,a4,a5,a6,a7,a8]:Array Value).setIfInBounds 2 v2 = #[v0,v1,v2,a3,a4,a5,a6,a7,a8] from rfl] at h2;have h3:=ucz _ B 3 _ t v3 h2;rw[show(#[v0,v1,v2,a3,a4,a5,a6,a7,a8]:Array Value).setIfInBounds 3 v3 = #[v0,v1,v2,v3,a4,a5,a6,a7,a8] from rfl] at h3;have h4:=ucz _ B 4 _ t v4 h3;rw[show(#[v0,v1,v2,v3,a4,a5,a6,a7,a8]:Array Value).setIfInBounds 4 v4 = #[v0,v1,v2,v3,v4,a5,a6,a7,a8] from rfl] at h4;have h5:=ucz _ B 5 _ t v5 h4;rw[show(#[v0,v1,v2,v3,v4,a5,a6,a7,a8]:Array Value).setIfInBounds 5 v5 = #[v0,v1,v2,v3,v4,v5,a6,a7,a8] from rfl] at h5;have h6:=ucz _ B 6 _ t v6 h5;rw[show(#[v0,v1,v2,v3,v4,v5,a6,a7,a8]:Array Value).setIfInBounds 6 v6 = #[v0,v1,v2,v3,v4,v5,v6,a7,a8] from rfl] at h6;have h7:=ucz _ B 7 _ t v7 h6;rw[show(#[v0,v1,v2,v3,v4,v5,v6,a7,a8]:Array Value).setIfInBounds 7 v7 = #[v0,v1,v2,v3,v4,v5,v6,v7,a8] from rfl] at h7;have h8:=ucz _ B 8 _ t v8 h7;exact h8
def DE {k:Nat} (h:k≠B):(vs:List Value)->(o:Nat)->(W:World)->(W.setCells B o vs).heap[k]? = W.heap[k]?
 |[],_,_=>rfl
 |v::r,o,W=>(DE h r (o+1) _).trans (uci W _ k v h)
def KJ (h:n<=B):(vs:List Value)->(o:Nat)->(W:World)->Below n W (W.setCells B o vs)
 |[],_,W=>ufd n W
 |v::r,o,W=>((ufd n W).setCell h v).trans (KJ h r (o+1) _)
def KK:(vs:List Value)->(o:Nat)->(W:World)->KeepsOthers W (W.setCells B o vs)
 |[],_,W=>KeepsOthers.refl W
 |v::r,o,W=>(KeepsOthers.setCell W _ v).trans (KK r (o+1) _)
def qoy (h:Below W.heap.size W W'):KeepsFrom B W W':=
 ⟨h.size,λk o _ hk _=>(h.block k (uaf.1 hk).1).trans hk⟩
def NL {R:Ending->World->Prop} {D z:Nat} {v0 v1 v2 v3 v4 v5 v6 v7 v8 a0 a1 a2 a3 a6 a7 a8 a9 a10 a11 a12 a13 a14 a15 a16 a17 a18 a19:Value} {n:Int}
  (z4:W.heap[z+2]? = some (.cells #[v0,v1,v2,v3,v4,v5,v6,v7,v8] 123 (0,0))) (z5:Boxed W (z+3) 47 (.int .i64 n)) (hK:W.heap[D]? = some (.deferred (some []))) (hD:z+5<=D)
  (hR:R (.returned (.tuple #[.agg #[v0,v1,v2,v3,v4,v5,v6,v7,v8],.int .i64 n])) (W.putObj D (.deferred none))) :
  bodyPostM Fence.wide 8 prog f98 R .ret { tmps:=#[a0,a1,a2,a3,.pointer (some ⟨z+1+1,0,none⟩),.pointer (some ⟨z+1+1+1,0,none⟩),a6,a7,a8,a9,a10,a11,a12,a13,a14,a15,a16,a17,a18,a19],defers:=[{ target:=.collected D,args:=#[] }] } W:=by
 have k4:=(World.putObj_heap_other (r:=D) (o:=.deferred none) (by omega)).trans z4;have k5:=(World.putObj_heap_other (r:=D) (o:=.deferred none) (by omega)).trans z5;obtain⟨u0,u1,u2,u3,u4,u5,u6,u7,u8⟩:=zjw λj _=>aO k4 j;have g5:=aO k5 0;refine⟨by simp,.inl ⟨_,_,rfl,run_takeDeferred hK,?_⟩⟩;refine⟨.tuple #[.agg #[v0,v1,v2,v3,v4,v5,v6,v7,v8],.int .i64 n],?_,hR⟩;simp[results,results98,go_sem,u0,u1,u2,u3,u4,u5,u6,u7,u8,g5]
def qa5 (b off len cap:Nat) (day:Int) (c:Nat->VC) (x:Nat->aQ.den) (F:Nat->Prop) (w:World) (hlen:len<=1000000) (A:Option Addr) (hA:0<len->A=some ⟨b,off,none⟩/\b<w.heap.size) (hbF:∀ q,F q->q<w.heap.size)
  (hc:∀ k j u,k<len->(gj (c k))[j]? = some u->w.cell? ⟨b,off+(k*9+j),none⟩=some u)
  (hown:∀ k W,k<len->Below w.heap.size w W->Calls prog 146 #[i9 (c k)] W λe w'=>∃ d,e = .returned (i9 d)/\Below W.heap.size W w'/\Ny F (x k) d W w') :
  CallsIn Fence.wide 8 prog 98 #[.agg #[.slice A len cap],.int .i64 day] w λe w'=>WS w F day x (λk=>(c k).p 0) len e w'/\Below w.heap.size w w':=by
 refine callsIn_of_wp_marks func98 rfl trivial ?_ rfl;simp only[ntmps98,uco,uc6,udh,Nat.reduceAdd,Nat.reduceSub,ubl,ubm,ucw,ubv,udi,uc1]
 gi_wp2_with (refine⟨uT,?_⟩; gi_at_call 145; refine(qbb _ _ _ _ _).mono ?_; rintro e w' ⟨rfl,rfl⟩)
 let L:List Obj:=[.cells #[.slice A len cap] 24,.cells #[.int .i64 day] 3,.cells iZ 123,.cells #[.int .i64 0] 47,.cells #[.slice A len cap] 22]
 obtain⟨hbel,hsz,hq⟩:=zjx L w;show Code.wpIn _ _ _ _ _ _ (als w L);generalize als w L=W0 at *;replace hsz:W0.heap.size=w.heap.size+5:=hsz;have q4:=hq 4 _ rfl;have hI0:AtI w day (.slice A len cap) (λk=>(c k).p 0) ([]:List (Fin len)) W0:=⟨hq 1 _ rfl,hq 2 _ rfl,hq 3 _ rfl,q4,hbel,by omega,λk hk=>by cases hk⟩;refine wpIn_rangeFunc_ownH rfl (by omega) (gf:=186) (lb:=#[.pointer (some ⟨w.heap.size+1+1+1+1,0,none⟩)]) rfl trivial (enters_of func186 (by kernel_rfl) rfl)
  (α:=Fin len) (encs:=λ(k:Fin len)=>#[.int .i64 ((k.1:Nat):Int),i9 (c k.1)]) (Kp:=cw w.heap.size (w.heap.size+4) (w.heap.size+4)) (S:=λys=>ys.map Fin.val=hP (λj=>len-1-j) len) (Sp:=λpre=>∃ k,k<=len/\pre.map Fin.val=hP (λj=>len-1-j) k) (N:=len) (w0:=W0)
  (λl J Jx W hW _ _ hY h0=>qa9 7 (by omega) l (w.heap.size+4) w.heap.size b off len cap (λk j=>(gj (c k)).getD j undef) hlen A hA J Jx hY W ((hW.block _ (by omega)).trans q4) (λk j hk hj=>have hb:=(hA (by omega)).2; ((hW.mono (by omega)).cell (p:=⟨b,off+(k*9+j),none⟩) hb).trans ((hbel.cell (p:=⟨b,off+(k*9+j),none⟩) hb).trans (hc k j _ hk (by match j,hj with|0,_|1,_|2,_|3,_|4,_|5,_|6,_|7,_|8,_=>rfl)))) h0)
  (λh k=>h.trans k) (λW l o o' hl ho hoc how=>⟨belowK_b (w:=w) (ue4 _) W l o o' (by omega) ho hoc how,World.putObj_heap_other (by omega),World.putObj_heap_other (by omega)⟩) (ufd _ _) (λ_=>rfl)
  (λpre W=>AtI w day (.slice A len cap) (λk=>(c k).p 0) pre W)
  (λcd pre W=>AtX w F day x (λk=>(c k).p 0) cd pre W)
  (qa1 (by omega)) (qa2 (by omega)) hI0
  (λk a' W=>LN W0.heap.size c (λk Bx=>{ tmps:=#[.agg #[.slice A len cap],.int .i64 day,.pointer (some ⟨w.heap.size,0,none⟩),.pointer (some ⟨w.heap.size+1,0,none⟩),.pointer (some ⟨w.heap.size+1+1,0,none⟩),.pointer (some ⟨w.heap.size+1+1+1,0,none⟩),undef,.pointer (some ⟨Bx,0,none⟩),
   .pointer (some ⟨w.heap.size,0,none⟩),.slice A len cap,.func (.func 186) #[] #[.pointer (some ⟨w.heap.size+1+1+1+1,0,none⟩)],.int .i64 (k:Int),i9 (c k),undef,undef,undef,undef,undef,undef,undef],defers:=[] }) k.1 a' W)
  (λk a'=>qaz k.1 a') ?assign ?body ?done ?stop
 case assign=>
  rintro l pre ⟨k,hkl⟩ W K hi hK;unfold i9 gj
  gi_wp2
  have hsz1:=hi.sz;have hB:=(ufd w.heap.size W).alloc (by have:=hi.bel.size; omega) (.cells (gj (c k)) 123);exact hK _ _ ((KeepsOthers.alloc _ _).from _) (cw.below ((ufd _ W).alloc (ue4 _) _) hi.bel.size (by omega) (by omega))
   ⟨hi.x3.alloc _,(uc8 _ _ _ (by omega)).trans hi.x4,hi.x5.alloc _,hi.xs.alloc _,hi.bel.alloc hi.bel.size _,by simp; omega,hi.no⟩ ⟨W.heap.size,by omega,World.alloc_heap_new W _,rfl⟩
 case body=>
  rintro l pre ⟨k,hkl⟩ a' W hl ⟨r,hr⟩ hi ⟨Bx,hBx,bX,rfl⟩ hlt;have bX':=bX;unfold gj at bX';obtain⟨y0,y1,y2,y3,y4,y5,y6,y7,y8⟩:=zjw λj _=>aO bX' j;simp at y0 y1 y2 y3 y4 y5 y6 y7 y8;have c3:=hi.x3.cell;have hown':=hown k W hkl hi.bel;unfold i9 gj at hown';clear bX' hr hc hown
  gi_wp2
  ·refine⟨uT,?_⟩;refine(CallsIn.inRound l (callsIn_wide.2 hown')).mono ?_;rintro e w1 ⟨d,rfl,hb1,hres⟩;have hsz1:=hi.sz;have z4:=(hb1.block (w.heap.size+2) (by omega)).trans hi.x4;have z5:w1.heap[w.heap.size+3]? = _:=(hb1.block (w.heap.size+3) (by omega)).trans hi.x5;unfold iZ at z4;obtain⟨u0,u1,u2,u3,u4,u5,u6,u7,u8⟩:=zjw λj _=>aO z4 j;simp at u0 u1 u2 u3 u4 u5 u6 u7 u8;have ff:∀ j,w1.frozen? ⟨w.heap.size+2,j,none⟩=false:=λj=>by simp[World.frozen?,z4]
   have g5:=aO z5 0;have h5:w1.frozen? ⟨w.heap.size+3,0,none⟩=false:=by simp[World.frozen?,z5]
   gi_wp2
   have hday:(c k).p 0<=day:=by assumption
   have s4:=Vh z4 (.int .i64 (d.p 0)) (.int .i64 (d.p 1)) (.int .i64 (d.p 2)) (.int .i64 (d.p 3)) (.int .i64 (d.p 4)) (.slice (d.A 0) (d.l 0) (d.c 0)) (.slice (d.A 1) (d.l 1) (d.c 1)) (.slice (d.A 2) (d.l 2) (d.c 2)) (.int .i64 (d.p 5));have s5:Boxed (w1.setCells (w.heap.size+2) 0 [.int .i64 (d.p 0),.int .i64 (d.p 1),.int .i64 (d.p 2),.int .i64 (d.p 3),.int .i64 (d.p 4),.slice (d.A 0) (d.l 0) (d.c 0),.slice (d.A 1) (d.l 1) (d.c 1),.slice (d.A 2) (d.l 2) (d.c 2),.int .i64 (d.p 5)]) (w.heap.size+3) 47 (.int .i64 0):=(DE (by omega) _ _ _).trans z5;have kk:=KK (B:=w.heap.size+2) [.int .i64 (d.p 0),.int .i64 (d.p 1),.int .i64 (d.p 2),.int .i64 (d.p 3),.int .i64 (d.p 4),.slice (d.A 0) (d.l 0) (d.c 0),.slice (d.A 1) (d.l 1) (d.c 1),.slice (d.A 2) (d.l 2) (d.c 2),.int .i64 (d.p 5)] 0 w1;have bb:=KJ (B:=w.heap.size+2) (n:=w.heap.size) (by omega) [.int .i64 (d.p 0),.int .i64 (d.p 1),.int .i64 (d.p 2),.int .i64 (d.p 3),.int .i64 (d.p 4),.slice (d.A 0) (d.l 0) (d.c 0),.slice (d.A 1) (d.l 1) (d.c 1),.slice (d.A 2) (d.l 2) (d.c 2),.int .i64 (d.p 5)] 0 w1;have oo:∀ q,q≠w.heap.size+2->(w1.setCells (w.heap.size+2) 0 [.int .i64 (d.p 0),.int .i64 (d.p 1),.int .i64 (d.p 2),.int .i64 (d.p 3),.int .i64 (d.p 4),.slice (d.A 0) (d.l 0) (d.c 0),.slice (d.A 1) (d.l 1) (d.c 1),.slice (d.A 2) (d.l 2) (d.c 2),.int .i64 (d.p 5)]).heap[q]? = w1.heap[q]? := λq hq=>DE hq _ _ _;show KeepsFrom _ W ((w1.setCells (w.heap.size+2) 0 [.int .i64 (d.p 0),.int .i64 (d.p 1),.int .i64 (d.p 2),.int .i64 (d.p 3),.int .i64 (d.p 4),.slice (d.A 0) (d.l 0) (d.c 0),.slice (d.A 1) (d.l 1) (d.c 1),.slice (d.A 2) (d.l 2) (d.c 2),.int .i64 (d.p 5)]).setCell ⟨w.heap.size+3,0,none⟩ (.int .i64 0))/\AtX w F day x (λk=>(c k).p 0) .ret (pre++[⟨k,hkl⟩]) ((w1.setCells (w.heap.size+2) 0 [.int .i64 (d.p 0),.int .i64 (d.p 1),.int .i64 (d.p 2),.int .i64 (d.p 3),.int .i64 (d.p 4),.slice (d.A 0) (d.l 0) (d.c 0),.slice (d.A 1) (d.l 1) (d.c 1),.slice (d.A 2) (d.l 2) (d.c 2),.int .i64 (d.p 5)]).setCell ⟨w.heap.size+3,0,none⟩ (.int .i64 0));generalize w1.setCells (w.heap.size+2) 0 [.int .i64 (d.p 0),.int .i64 (d.p 1),.int .i64 (d.p 2),.int .i64 (d.p 3),.int .i64 (d.p 4),.slice (d.A 0) (d.l 0) (d.c 0),.slice (d.A 1) (d.l 1) (d.c 1),.slice (d.A 2) (d.l 2) (d.c 2),.int .i64 (d.p 5)]=W2 at *;obtain⟨F',hF1,hF2⟩:=hres;have bel2:Below w.heap.size w W2:=(hi.bel.trans (hb1.mono hi.bel.size)).trans bb;have hne:∀ q,F' q->q≠w.heap.size+2/\q≠w.heap.size+3:=λq hq=>by
    have hs0:=hi.sz;rcases(hF2 q hq).1 with h|h
    ·have:=hbF q h;omega
    ·omega
   have hsame:∀ q,F' q->(W2.setCell ⟨w.heap.size+3,0,none⟩ (.int .i64 0)).heap[q]? = w1.heap[q]? := λq hq=>(uci _ _ q _ (hne q hq).2).trans (oo q (hne q hq).1);refine⟨(qoy hb1).trans ((kk.trans (KeepsOthers.setCell _ _ _)).from _),rfl,⟨pre,⟨k,hkl⟩,d,F',rfl,hi.no,hday,(uci _ _ _ _ (by show w.heap.size+2≠w.heap.size+3; omega)).trans s4,hF1.mono (λ_ h=>h) hsame,λq hq=>?_⟩,s5.set _,bel2.setCell (p:=⟨w.heap.size+3,0,none⟩) (by show w.heap.size<=w.heap.size+3; omega) _⟩;obtain⟨q1,arr,ty,p,q2⟩:=hF2 q hq;exact⟨q1.elim .inl (λh=>.inr (uek hi.bel.size h)),arr,ty,p,(hsame q hq).trans q2⟩
  ·have hday:¬ (c k).p 0<=day:=by simp_all
   exact⟨KeepsFrom.refl _ _,cw.refl _ _ _ _,hi.x3,hi.x4,hi.x5,hi.xs,hi.bel,hi.sz,λq hq=>(udo.1 hq).elim (hi.no q) (λe=>by simp at e; subst e; exact hday)⟩
 case done=>
  rintro D zs W hD hzs hi hK;have z4:=hi.x4;have z5:W.heap[w.heap.size+3]? = _:=hi.x5;unfold iZ at z4;obtain⟨u0,u1,u2,u3,u4,u5,u6,u7,u8⟩:=zjw λj _=>aO z4 j;simp at u0 u1 u2 u3 u4 u5 u6 u7 u8;have ff:∀ j,W.frozen? ⟨w.heap.size+2,j,none⟩=false:=λj=>by simp[World.frozen?,z4]
  have g5:=aO z5 0;have h5:W.frozen? ⟨w.heap.size+3,0,none⟩=false:=by simp[World.frozen?,z5]
  clear hown hc
  gi_wp2
  have s4:=Vh z4 (.int .i64 0) (.int .i64 0) (.int .i64 0) (.int .i64 0) (.int .i64 0) (.slice none 0 0) (.slice none 0 0) (.slice none 0 0) (.int .i64 0);have s5:Boxed (W.setCells (w.heap.size+2) 0 [.int .i64 0,.int .i64 0,.int .i64 0,.int .i64 0,.int .i64 0,.slice none 0 0,.slice none 0 0,.slice none 0 0,.int .i64 0]) (w.heap.size+3) 47 (.int .i64 0):=(DE (by omega) _ _ _).trans z5;have kk:=(KK (B:=w.heap.size+2) [.int .i64 0,.int .i64 0,.int .i64 0,.int .i64 0,.int .i64 0,.slice none 0 0,.slice none 0 0,.slice none 0 0,.int .i64 0] 0 W).same D _ hK rfl;have bb:=hi.bel.trans (KJ (B:=w.heap.size+2) (n:=w.heap.size) (by omega) [.int .i64 0,.int .i64 0,.int .i64 0,.int .i64 0,.int .i64 0,.slice none 0 0,.slice none 0 0,.slice none 0 0,.int .i64 0] 0 W);have kk':=(KeepsOthers.setCell (W.setCells (w.heap.size+2) 0 [.int .i64 0,.int .i64 0,.int .i64 0,.int .i64 0,.int .i64 0,.slice none 0 0,.slice none 0 0,.slice none 0 0,.int .i64 0]) ⟨w.heap.size+3,0,none⟩ (.int .i64 7)).same D _ kk rfl;have bb':=bb.setCell (p:=⟨w.heap.size+3,0,none⟩) (by show w.heap.size<=w.heap.size+3; omega) (.int .i64 7);refine NL ((uci _ _ _ _ (by show w.heap.size+2≠w.heap.size+3; omega)).trans s4) (s5.set (.int .i64 7)) kk' (by omega) ⟨.inl ⟨rfl,λk hk=>?_⟩,bb'.trans (belowK_b (w:=w) (ue4 _) _ D _ _ (by omega) kk' rfl rfl)⟩;have hm:k∈zs.map Fin.val:=by
   rw[hzs];exact ue1.2 ⟨len-1-k,ud5.2 (by omega),by show len-1-(len-1-k)=k; omega⟩
  obtain⟨q,hq,rfl⟩:=ue1.1 hm;exact hi.no q hq
 case stop=>
  rintro D cd pre W hD ⟨m,hm,hpre⟩ h hK;obtain rfl:=h.ret
  gi_wp2
  obtain⟨ini,k,d,F',e1,e2,e3,e4,e5,e6⟩:=h.res;refine NL e4 h.x5 hK (by omega) ⟨.inr ⟨k.1,d,F',k.2,e3,λj hj1 hj2=>?_,rfl,?_,λq hq=>?_⟩,h.bel.trans (belowK_b (w:=w) (ue4 _) _ D _ _ (by omega) hK rfl rfl)⟩
  ·subst e1;have hl:=ufm List.length hpre;rw[BQ,udy,ub4] at hl;obtain rfl:m=ini.length+1:=by simpa using hl.symm
   rw[tX,uds] at hpre;obtain⟨h2,h3⟩:=List.append_inj' hpre rfl;have hlast:k.1=len-1-ini.length:=by simpa using h3
   have hin:j∈(ini.map Fin.val):=by
    rw[h2];exact ue1.2 ⟨len-1-j,ud5.2 (by omega),by show len-1-(len-1-j)=j; omega⟩
   obtain⟨q,hq,rfl⟩:=ue1.1 hin;exact e2 q hq
  ·refine e5.mono (λ_ h=>h) (λq hq=>?_);obtain⟨_,arr,ty,p,hc2⟩:=e6 q hq;exact World.putObj_heap_other (λe=>by subst e; rw[hK] at hc2; cases hc2)
  ·obtain⟨h1,arr,ty,p,hc2⟩:=e6 q hq;refine⟨h1,?_⟩;have:=(uaf.1 hc2).1;simpa[World.putObj] using this
end
section
def zc6 {l:List aQ.den} (h:aA w F (.sl aQ) l (λ_ u=>u=v)) :
  ∃ (A:Option Addr) (cap:Nat) (b off:Nat) (c:Nat->VC),v = .slice A l.length cap/\(0<l.length->A=some ⟨b,off,none⟩/\F b) /\
   (∀ k j u,k<l.length->(gj (c k))[j]? = some u->w.cell? ⟨b,off+(k*9+j),none⟩=some u)/\∀ k x,l[k]? = some x->(c k).p 0=x.1/\bu w F aQ x (i9 (c k)):=by
 obtain⟨A,cap,h0,h1,h2,h3⟩:=h;by_cases hp:0<l.length
 ·obtain⟨ad,hA,hF,hc⟩:=h3 0 l[0] (uap hp);have hsp:ad.spot=none:=by
   have hc':w.cell? (ad.add (0*aQ.size+0))=some (.int .i64 l[0].1):=hc.1.1;have he:ad.add (0*aQ.size+0)=ad:=by simp[Addr.add]
   rw[he] at hc';unfold World.cell? at hc';split at hc'
   ·split at hc'
    ·cases hc'
    ·rename_i hsp;cases hsp2:ad.spot with
     |none=>rfl
     |some _=>rw[hsp2] at hsp; exact absurd rfl hsp
   ·cases hc'
  obtain⟨b,off,sp⟩:=ad;subst hsp;have hall:∀ k,∃ d:VC,∀ x,l[k]? = some x->(∀ j u,(gj d)[j]? = some u->w.cell? ⟨b,off+(k*9+j),none⟩=some u)/\d.p 0=x.1/\bu w F aQ x (i9 d):=by
   intro k;cases hk:l[k]? with
   |none=>exact⟨⟨λ_=>0,λ_=>none,λ_=>0,λ_=>0⟩,λx hx=>by cases hx⟩
   |some x=>
    obtain⟨ad',hA',_,hr⟩:=h3 k x hk;rw[hA] at hA';cases hA';obtain⟨d,hd,hd0⟩:=Wz hr;refine⟨d,λy hy=>?_⟩;cases hy;have hcell:=λj u hj=>by
     have:=hd j u hj;rw[show aQ.size=9 from rfl] at this;have e:(⟨b,off,none⟩:Addr).add (k*9+j)=⟨b,off+(k*9+j),none⟩:=by unfold Addr.add; split<;>simp_all
     rw[e] at this;exact this
    refine⟨hcell,hd0,rfl,⟨λ_=>⟨_,rfl⟩,λ_=>rfl⟩,?_⟩;refine hr.mono (λ_ h=>h) (λ_ _=>rfl) λj u hj hu=>?_;have hj9:=hj;have h2:=hd j (gj d)[j] (uam hj9);have h3:=hu.symm.trans h2;show(gj d)[j]? = some u;rw[uam hj9];exact h3.symm
  obtain⟨c,hcc⟩:=Classical.axiomOfChoice hall;refine⟨A,cap,b,off,c,h0.symm,λ_=>⟨hA,hF⟩,λk j u hk hj=>(hcc k l[k] (uap hk)).1 j u hj,λk x hx=>(hcc k x hx).2⟩
 ·refine⟨A,cap,0,0,λ_=>⟨λ_=>0,λ_=>none,λ_=>0,λ_=>0⟩,h0.symm,λh=>absurd h hp,λk j u hk=>absurd hk (by omega),λk x hx=>?_⟩;have:=(uak.1 hx).1;omega
def LB (day:Int) (b:List aQ.den):(a:List aQ.den)->(∀ v∈a,¬ v.1<=day)->cq day (a++b)=cq day b
 |[],_=>rfl
 |v::a,h=>by
  have hv:=h v (by simp);have:cq day (v::a++b)=cq day (a++b):=if_neg hv;rw[this];exact LB day b a λx hx=>h x (by simp[hx])
def zc1 {l:List aQ.den} (h:∀ v∈l,¬ v.1<=day):cq day l.reverse=(yp,7):=by
 have:=LB day [] l.reverse λv hv=>h v (List.mem_reverse.1 hv);rw[udn] at this;exact this
def zc2 {l:List aQ.den} {k:Nat} {x:aQ.den} (hk:l[k]? = some x) (hx:x.1<=day) (h:∀ j y,k<j->l[j]? = some y->¬ y.1<=day):cq day l.reverse=(x,0):=by
 obtain⟨hlt,rfl⟩:=uak.1 hk;have hsplit:l=l.take k++l[k]::l.drop (k+1):=by
  rw[<- ual hlt,ua9]
 have hr:l.reverse=(l.drop (k+1)).reverse++(l[k]::(l.take k).reverse):=by
  conv=>lhs; rw[hsplit]
  simp
 rw[hr,LB]
 ·exact if_pos hx
 ·intro v hv;obtain⟨j,hj⟩:=ubq (List.mem_reverse.1 hv);rw[ubz] at hj;exact h _ v (by omega) hj
def bJ (t:b8.den):Prop:=t.1.length<=1000000/\∀ v∈t.1,LC v
def G6:Ct:=⟨[.d b8,.d i64],[aQ,i64],λx=>((cq x.2.1 x.1.1.reverse).1,(cq x.2.1 x.1.1.reverse).2,()),λx=>[bJ x.1]⟩
def qt9 (w:World) (F:Nat->Prop):bu w F aQ yp (.agg iZ):=by
 have h0:inR .i64 0:=⟨by decide,by decide⟩;refine⟨rfl,⟨λ_=>⟨_,rfl⟩,λ_=>rfl⟩,⟨rfl,h0⟩,⟨⟨rfl,h0⟩,⟨rfl,h0⟩,⟨rfl,h0⟩,⟨rfl,h0⟩,uT⟩,?_,?_,?_,⟨rfl,h0⟩,uT⟩
 all_goals exact⟨none,0,rfl,ue4 _,ufa _,λi x hx=>by simp[yp] at hx⟩
def Uz {x:aQ.den} {n:Int} (h:bu w F aQ x u) (hn : -9223372036854775808<=n/\n<=9223372036854775807):gT w F [aQ,i64] (x,n,()) (.tuple #[u,.int .i64 n]):=
 ⟨_,rfl,_,_,rfl,h,_,_,rfl,⟨rfl,⟨λh=>(by cases h),λ⟨cs,h⟩=>(by cases h)⟩,rfl,hn⟩,rfl⟩
def zbr:af prog 98 G6:=by
 refine⟨enters (fn:=f98) (by kernel_rfl) rfl rfl,λw F xs vs hbd hr hok=>?_⟩;obtain⟨⟨l,ut⟩,day,_⟩:=xs;obtain⟨va,vs',rfl,hva,vb,vs'',rfl,hvb,hn⟩:=hr;cases hn;have hva':bu w F b8 (l,ut) va:=hva;have hvb':bu w F i64 day vb:=hvb;have hb2:vb = .int .i64 day:=by
  have h:aE prog w F (λ_ _=>True) (dE i64 day) vb:=fT hvb';exact h.2.1
 subst hb2;obtain⟨cs,rfl⟩:=hva'.2.1.1 rfl;have hs:cs.size=1:=hva'.1;obtain⟨hsl,_⟩:aA w F (.sl aQ) l (λj u=>cs[j]? = some u)/\True:=⟨hva'.2.2.1,uT⟩;have hcs:cs = #[cs.getD 0 undef]:=by
  apply ufh
  ·simp[hs]
  ·intro i h1 h2;have:i=0:=by omega
   subst this;simp[Array.getD,hs]
 rw[hcs];have hsl':aA w F (.sl aQ) l (λ_ u=>u=cs.getD 0 undef):=by
  obtain⟨A,c,h1,h2⟩:=hsl;refine⟨A,c,?_,h2⟩;simp[Array.getD,hs];rw[uam (by omega)] at h1;exact(udz h1).symm
 obtain⟨A,cap,b,off,c,e1,hA,hc,hx⟩:=zc6 hsl';rw[e1];obtain⟨hfew1,hfew2⟩:bJ (l,ut):=hok;have key:=qa5 b off l.length cap day c (λk=>l.getD k aQ.dflt) F w hfew1 A (λh=>⟨(hA h).1,hbd b (hA h).2⟩) hbd hc (λk W hk hW=>by
  obtain⟨_,h2⟩:=hx k l[k] (uap hk);have e:l.getD k aQ.dflt=l[k]:=by rw[uah,uap hk]; rfl
  rw[e];exact qvx hbd hW h2 (hfew2 _ (udf hk)))
 refine(callsIn_wide.1 key).mono ?_;rintro e w' ⟨he,hbel⟩;rcases he with ⟨rfl,hno⟩|⟨k,d,F',hk,hday,hafter,rfl,hrep,hF'⟩
 ·have hv:cq day l.reverse=(yp,7):=zc1 λv hv=>by
   obtain⟨j,hj⟩:=ubq hv;have:=hno j (uak.1 hj).1;dsimp only at this;rw[(hx j v hj).1] at this;exact this
  refine⟨_,F,rfl,hbel,λ_ h=>h,λb hb=>⟨.inl hb,ub9 (hbd b hb) hbel.size⟩,?_⟩;show gT w' F [aQ,i64] ((cq day l.reverse).1,(cq day l.reverse).2,()) _;rw[hv];exact Uz (qt9 _ _) (n:=7) (by decide)
 ·have hlk:l[k]? = some l[k]:=uap hk;have hv:cq day l.reverse=(l[k],0):=zc2 hlk (by dsimp only at hday; rw[(hx k _ hlk).1] at hday; exact hday) λj y hj hy=>by
   have:=hafter j hj (uak.1 hy).1;dsimp only at this;rw[(hx j y hy).1] at this;exact this
  have e:l.getD k aQ.dflt=l[k]:=by rw[uah,hlk]; rfl
  dsimp only at hrep;rw[e] at hrep;refine⟨_,λb=>F b\/F' b,rfl,hbel,λ_ h=>.inl h,λb hb=>?_,?_⟩
  ·rcases hb with h|h
   ·exact⟨.inl h,ub9 (hbd b h) hbel.size⟩
   ·exact hF' b h
  ·show gT w' _ [aQ,i64] ((cq day l.reverse).1,(cq day l.reverse).2,()) _;rw[hv];exact Uz (hrep.mono (λ_ h=>.inr h) (λ_ _=>rfl)) (n:=0) (by decide)
attribute [local go_sem] Oper.semAt_some
def qam (Bn Ba Bo:Nat) (k:Int) (A:Option Addr) (len cap:Nat) (w:World) (hn:Boxed w Bn 3 (.int .i64 k)) (ha:Boxed w Ba 282 (.slice A len cap)) (ho:Boxed w Bo 4 (.bool false)) :
  CallsD prog 135 #[.pointer (some ⟨Bn,0,none⟩),.pointer (some ⟨Ba,0,none⟩),.pointer (some ⟨Bo,0,none⟩)] .returning w λe u' w'=>
   u' = .returning/\(∃ v,e = .returned v)/\w'=w.setCell ⟨Bo,0,none⟩ (.bool (decide (k=len))):=by
 have c1:=hn.cell;have c2:=ha.cell;have c3:=ho.cell;have f3:=ho.frozen
 go_enter_d func135,ntmps135
 go_wp2
 go_end0
 exact⟨⟨_,rfl⟩,by rw[Bool.beq_eq_decide_eq]⟩
structure AllI (w:World) (b off cap:Nat) (bs:Nat->Bool) (k:Nat) (W:World):Prop where
 x0:Boxed W w.heap.size 282 (.slice (some ⟨b,off,none⟩) 4 cap)
 x1:Boxed W (w.heap.size+1) 4 (.bool false)
 x2:Boxed W (w.heap.size+2) 3 (.int .i64 k)
 bel:Below w.heap.size w W
 sz:w.heap.size+3<=W.heap.size
 yes:∀ j,j<k->bs j=true
structure FourFn (w:World) (b off:Nat) (g:Nat->Nat) (caps:Nat->Array Value) (bs:Nat->Bool):Prop where
 blk:b<w.heap.size
 cell:∀ k,k<4->w.cell? ⟨b,off+k,none⟩=some (.func (.func (g k)) #[] (caps k))
 enter:∀ k,k<4->∀ args w,(callFunc (g k) args).run prog w = .ok (.enter (g k) args) w
 call:∀ k,k<4->∀ W,Below w.heap.size w W->Calls prog (g k) (caps k) W λe W'=>e = .returned (.bool (bs k))/\Below W.heap.size W W'
def ND {w W: World} {b off cap: Nat} {bs: Nat -> Bool} {k: Nat} {r: Bool} {a0 a4 a5 a7 a8 a9 a10 a11 a12 a13 a14 a15 a16 a17 a18: Value} (hi : AllI w b off cap bs k W) (hr : decide ((k : Int) = (4 : Nat)) = r) :
    bodyPostD prog f80 (λe w' => e = .returned (.bool r) /\ Below w.heap.size w w') .ret
      { tmps := #[a0, .pointer (some ⟨w.heap.size, 0, none⟩), .pointer (some ⟨w.heap.size + 1, 0, none⟩), .pointer (some ⟨w.heap.size + 1 + 1, 0, none⟩), a4, a5, .func (.func 135) #[] #[.pointer (some ⟨w.heap.size + 1 + 1, 0, none⟩), .pointer (some ⟨w.heap.size, 0, none⟩), .pointer (some ⟨w.heap.size + 1, 0, none⟩)], a7, a8, a9, a10, a11, a12, a13, a14, a15, a16, a17, a18],
        defers := [{ target := .fn (.func 135) #[.pointer (some ⟨w.heap.size + 1 + 1, 0, none⟩), .pointer (some ⟨w.heap.size, 0, none⟩), .pointer (some ⟨w.heap.size + 1, 0, none⟩)], args := #[] }] } W := by
  refine ue9 (f := 135) (args := #[.pointer (some ⟨w.heap.size + 2, 0, none⟩), .pointer (some ⟨w.heap.size, 0, none⟩), .pointer (some ⟨w.heap.size + 1, 0, none⟩)]) (by simp) (by simp[go_sem]) ?_
  refine(qam (w.heap.size + 2) w.heap.size (w.heap.size + 1) k _ 4 cap W hi.x2 hi.x0 hi.x1).mono ?_
  rintro e u' w'' ⟨rfl, ⟨v, rfl⟩, rfl⟩
  have c := (hi.x1.set (.bool (decide ((k : Int) = (4 : Nat))))).cell
  have hb := hi.bel.setCell (p := ⟨w.heap.size + 1, 0, none⟩) (by show w.heap.size <= w.heap.size + 1; omega) (.bool (decide ((k : Int) = (4 : Nat))))
  rw[hr] at c hb |-
  refine⟨.bool r, ?_, rfl, hb⟩
  simp[results, results80, go_sem, c]
def qao (b off cap : Nat) (g : Nat -> Nat) (caps : Nat -> Array Value) (bs : Nat -> Bool) (w : World) (h : FourFn w b off g caps bs) :
    Calls prog 80 #[.slice (some ⟨b, off, none⟩) 4 cap] w λe w' => e = .returned (.bool (bs 0 && (bs 1 && (bs 2 && bs 3)))) /\ Below w.heap.size w w' := by
  have hmf : ∀ (fn : Fn) (first cap : Array Value) (w : World), (Instr.makeFunc fn first cap).run prog w = .ok (.func fn first cap) w := λ_ _ _ _ => rfl
  go_enter_defers func80, ntmps80
  go_wp2
  have z0 := (uc8 ((w.alloc (.cells #[.slice (some ⟨b, off, none⟩) 4 cap] 282)).alloc (.cells #[.bool false] 4)) (.cells #[.int .i64 0] 3) w.heap.size (by simp only[udd]; omega)).trans ((uc8 _ _ _ (by simp only[udd]; omega)).trans (World.alloc_heap_new w (.cells #[.slice (some ⟨b, off, none⟩) 4 cap] 282)))
  have z1' := World.alloc_heap_new (w.alloc (.cells #[.slice (some ⟨b, off, none⟩) 4 cap] 282)) (.cells #[.bool false] 4)
  rw[udd] at z1'
  have z1 := (uc8 ((w.alloc (.cells #[.slice (some ⟨b, off, none⟩) 4 cap] 282)).alloc (.cells #[.bool false] 4)) (.cells #[.int .i64 0] 3) (w.heap.size + 1) (by simp only[udd]; omega)).trans z1'
  have z2 : (((w.alloc (.cells #[.slice (some ⟨b, off, none⟩) 4 cap] 282)).alloc (.cells #[.bool false] 4)).alloc (.cells #[.int .i64 0] 3)).heap[w.heap.size + 2]? = some (.cells #[.int .i64 0] 3 (0, 0)) := by
    have := World.alloc_heap_new ((w.alloc (.cells #[.slice (some ⟨b, off, none⟩) 4 cap] 282)).alloc (.cells #[.bool false] 4)) (.cells #[.int .i64 0] 3)
    rwa [udd, udd] at this
  have hbel : Below w.heap.size w (((w.alloc (.cells #[.slice (some ⟨b, off, none⟩) 4 cap] 282)).alloc (.cells #[.bool false] 4)).alloc (.cells #[.int .i64 0] 3)) := (((ufd _ w).alloc (ue4 _) _).alloc (by simp) _).alloc (by simp; omega) _
  have hsz : (((w.alloc (.cells #[.slice (some ⟨b, off, none⟩) 4 cap] 282)).alloc (.cells #[.bool false] 4)).alloc (.cells #[.int .i64 0] 3)).heap.size = w.heap.size + 3 := by simp
  have hI0 : AllI w b off cap bs 0 (((w.alloc (.cells #[.slice (some ⟨b, off, none⟩) 4 cap] 282)).alloc (.cells #[.bool false] 4)).alloc (.cells #[.int .i64 0] 3)) := ⟨z0, z1, z2, hbel, by omega, λj hj => by omega⟩
  go_loopw [9] (λi wr => ∃ k : Nat, k <= 4 /\ i = .int .i64 k /\ AllI w b off cap bs k wr)
    (λi _ => 4 - (intOf i).toNat)
  case atStart => exact⟨0, by omega, rfl, hI0⟩
  case round =>
    obtain⟨k, hk, rfl, hi⟩ := hrel
    by_cases hlt : k < 4
    · have hc : wr.cell? ⟨b, off + k, none⟩ = some (.func (.func (g k)) #[] (caps k)) := (hi.bel.cell (p := ⟨b, off + k, none⟩) h.blk).trans (h.cell k hlt)
      have he := h.enter k hlt
      have c2 := hi.x2.cell
      have f2 := hi.x2.frozen
      go_wp2
      refine(h.call k hlt wr hi.bel).mono ?_
      rintro e w1 ⟨rfl, hb1⟩
      have hs := hi.sz
      have y0 : Boxed w1 _ _ _ := (hb1.block _ (by omega)).trans hi.x0
      have y1 : Boxed w1 _ _ _ := (hb1.block (w.heap.size + 1) (by omega)).trans hi.x1
      have y2 : Boxed w1 _ _ _ := (hb1.block (w.heap.size + 2) (by omega)).trans hi.x2
      have hi1 : AllI w b off cap bs k w1 := ⟨y0, y1, y2, hi.bel.trans (hb1.mono hi.bel.size), uek hi.sz hb1.size, hi.yes⟩
      have d2 := y2.cell
      have e2 := y2.frozen
      clear hc he c2 f2
      cases hbk : bs k with
      | false =>
        go_wp2
        refine ND hi1 ?_
        have h4 : ¬ ((k : Int) = (4 : Nat)) := by omega
        rw[udr h4]
        have : k = 0 \/ k = 1 \/ k = 2 \/ k = 3 := by omega
        rcases this with rfl | rfl | rfl | rfl <;> rw[hbk] <;> simp
      | true =>
        go_wp2
        go_roundw
        case rel => exact⟨k + 1, by omega, by simp, y0.other (by omega) _, y1.other (by omega) _, y2.set _, hi1.bel.setCell (p := ⟨w.heap.size + 2, 0, none⟩) (by show w.heap.size <= w.heap.size + 2; omega) _, by simp; exact hi1.sz, λj hj => by
          by_cases hjk : j = k
          · rw[hjk]; exact hbk
          · exact hi.yes j (by omega)⟩
        case measure => simp[intOf]; omega
    · obtain rfl : k = 4 := by omega
      go_wp2
      refine ND hi ?_
      rw[hi.yes 0 (by omega), hi.yes 1 (by omega), hi.yes 2 (by omega), hi.yes 3 (by omega)]
      rfl
end
section
attribute [local go_sem] Oper.semAt_some
noncomputable def Xq:Cx:=cx [(82,jb),(84,tv),(86,oy),(88,wP)] []
def zK:CxOK prog Xq:=aP aG ⟨Ky,SK,K2,VS,uT⟩ trivial
def tq (k:Nat) (t:dm.den):Bool:=match k with
 |0=>(jb.f (t.1,())).1
 |1=>bif decide ((tv.f (t.1,())).1>=1) then decide ((tv.f (t.1,())).1<=1100) else false
 |2=>(oy.f (t.2.1,())).1
 |_=>(wP.f (t.2.2.1,())).1
def wX (k:Nat):Ct:=⟨[.ptr dm],[.bool],λx=>(tq k x.1,()),λ_=>[]⟩
def zb2:af prog 81 (wX 0):=
 cQ (aS zK f81 (fr:=λx=>Jv (tq 0 x.1,())) (ps:=[.ptr dm]) (rs:=[.bool])) _ _ (λ_ _ _ _ _ _=>⟨uT,rfl⟩)
def zb3:af prog 83 (wX 1):=
 cQ (aS zK f83 (fr:=λx=>Jv (tq 1 x.1,())) (ps:=[.ptr dm]) (rs:=[.bool])) _ _ (λ_ _ _ _ _ _=>⟨uT,rfl⟩)
def zb4:af prog 85 (wX 2):=
 cQ (aS zK f85 (fr:=λx=>Jv (tq 2 x.1,())) (ps:=[.ptr dm]) (rs:=[.bool])) _ _ (λ_ _ _ _ _ _=>⟨uT,rfl⟩)
def zb5:af prog 87 (wX 3):=
 cQ (aS zK f87 (fr:=λx=>Jv (tq 3 x.1,())) (ps:=[.ptr dm]) (rs:=[.bool])) _ _ (λ_ _ _ _ _ _=>⟨uT,rfl⟩)
def dA:Nat->Nat
 |0=>81
 |1=>83
 |2=>85
 |_=>87
def Wd:(k:Nat)->k<4->af prog (dA k) (wX k)
 |0,_=>zb2
 |1,_=>zb3
 |2,_=>zb4
 |3,_=>zb5
 |n+4,h=>absurd h (by omega)
def zb6 {b:Int} (hf:dN (a,b,())=true):jT (a,b,())=true/\decide (b-a>=1)=true:=by
 obtain⟨h1,h2,h3⟩:=nc.1 hf;refine⟨?_,?_⟩
 ·have h2':a<=b:=uep h2;simp only[jT,uc9,ucs];exact⟨h1,h2',h3⟩
 ·simp; omega
def zbx (t:dm.den):(tq 0 t&&(tq 1 t&&(tq 2 t&&tq 3 t)))=ju t:=by
 obtain⟨⟨a,b,_⟩,r,cs,_⟩:=t;show(jT (a,b,())&&((bif decide (ry a b>=1) then decide (ry a b<=1100) else false)&&(n8 r.1 r.2.1 r.2.2.1 r.2.2.2.1&&l7 cs)))=(dN (a,b,())&&(decide (b-a<=1100)&&(n8 r.1 r.2.1 r.2.2.1 r.2.2.2.1&&l7 cs)));by_cases hf:dN (a,b,())=true
 ·have hm:ry a b=b-a:=if_pos hf;obtain⟨hr,hge⟩:=zb6 hf;rw[hm,hr,hf,hge];rfl
 ·have hm:ry a b=0:=if_neg hf;have hf':dN (a,b,())=false:=by simpa using hf
  rw[hm,hf'];simp
def zbw (c0 c1 c2 c3 c4 c5 c6:Value) (R:Ending->World->Prop) (w:World)
  (hall:∀ cap,Calls prog 80 #[.slice (some ⟨w.heap.size+1,0,none⟩) 4 cap] ((w.alloc (.cells #[c0,c1,c2,c3,c4,c5,c6] 34)).alloc (.cells #[.func (.func (dA 0)) #[] #[.pointer (some ⟨w.heap.size,0,none⟩)],.func (.func (dA 1)) #[] #[.pointer (some ⟨w.heap.size,0,none⟩)],.func (.func (dA 2)) #[] #[.pointer (some ⟨w.heap.size,0,none⟩)],.func (.func (dA 3)) #[] #[.pointer (some ⟨w.heap.size,0,none⟩)]] 46)) R)
  (hR:∀ e w',R e w'->∃ r,e = .returned (.bool r)) :
  Calls prog 51 #[.agg #[c0,c1,c2,c3,c4,c5,c6]] w R:=by
 have hmf:∀ (fn:Fn) (first cap:Array Value) (w:World),(Instr.makeFunc fn first cap).run prog w = .ok (.func fn first cap) w:=λ_ _ _ _=>rfl
 go_enter func51,ntmps51
 go_wp2_with (go_at_call 80; refine(hall 4).mono ?_; rintro e w' hRe; obtain⟨r,rfl⟩:=hR e w' hRe)
 exact hRe
def Lm:af prog 51 q9:=by
 refine⟨enters (fn:=f51) (by kernel_rfl) rfl rfl,λw F xs vs hbd hr _=>?_⟩;obtain⟨t,_⟩:=xs;obtain⟨va,vs',rfl,hva,hn⟩:=hr;cases hn;have hva':bu w F dm t va:=hva;obtain⟨cs,rfl⟩:=hva'.2.1.1 rfl;have hs:cs.size=7:=hva'.1;obtain⟨c0,c1,c2,c3,c4,c5,c6,rfl⟩:∃ c0 c1 c2 c3 c4 c5 c6,cs = #[c0,c1,c2,c3,c4,c5,c6]:=by
  refine⟨cs[0],cs[1],cs[2],cs[3],cs[4],cs[5],cs[6],?_⟩;apply ufh
  ·simp[hs]
  ·intro i h1 h2;have:i<7:=by omega
   match i,this with
   |0,_|1,_|2,_|3,_|4,_|5,_|6,_=>rfl
 have hsz:((w.alloc (.cells #[c0,c1,c2,c3,c4,c5,c6] 34)).alloc (.cells #[.func (.func (dA 0)) #[] #[.pointer (some ⟨w.heap.size,0,none⟩)],.func (.func (dA 1)) #[] #[.pointer (some ⟨w.heap.size,0,none⟩)],.func (.func (dA 2)) #[] #[.pointer (some ⟨w.heap.size,0,none⟩)],.func (.func (dA 3)) #[] #[.pointer (some ⟨w.heap.size,0,none⟩)]] 46)).heap.size=w.heap.size+2:=by simp
 have z0:=(uc8 (w.alloc (.cells #[c0,c1,c2,c3,c4,c5,c6] 34)) (.cells #[.func (.func (dA 0)) #[] #[.pointer (some ⟨w.heap.size,0,none⟩)],.func (.func (dA 1)) #[] #[.pointer (some ⟨w.heap.size,0,none⟩)],.func (.func (dA 2)) #[] #[.pointer (some ⟨w.heap.size,0,none⟩)],.func (.func (dA 3)) #[] #[.pointer (some ⟨w.heap.size,0,none⟩)]] 46) w.heap.size (by simp only[udd]; omega)).trans (World.alloc_heap_new w (.cells #[c0,c1,c2,c3,c4,c5,c6] 34));have z1:=World.alloc_heap_new (w.alloc (.cells #[c0,c1,c2,c3,c4,c5,c6] 34)) (.cells #[.func (.func (dA 0)) #[] #[.pointer (some ⟨w.heap.size,0,none⟩)],.func (.func (dA 1)) #[] #[.pointer (some ⟨w.heap.size,0,none⟩)],.func (.func (dA 2)) #[] #[.pointer (some ⟨w.heap.size,0,none⟩)],.func (.func (dA 3)) #[] #[.pointer (some ⟨w.heap.size,0,none⟩)]] 46);have hbel:Below w.heap.size w ((w.alloc (.cells #[c0,c1,c2,c3,c4,c5,c6] 34)).alloc (.cells #[.func (.func (dA 0)) #[] #[.pointer (some ⟨w.heap.size,0,none⟩)],.func (.func (dA 1)) #[] #[.pointer (some ⟨w.heap.size,0,none⟩)],.func (.func (dA 2)) #[] #[.pointer (some ⟨w.heap.size,0,none⟩)],.func (.func (dA 3)) #[] #[.pointer (some ⟨w.heap.size,0,none⟩)]] 46)):=((ufd _ w).alloc (ue4 _) _).alloc (by simp) _;refine(zbw c0 c1 c2 c3 c4 c5 c6 (λe w'=>e = .returned (.bool (ju t))/\Below w.heap.size w w') w (λcap=>?_) (λe w' h=>⟨_,h.1⟩)).mono ?_
 ·rw[udd] at z1;generalize ((w.alloc (.cells #[c0,c1,c2,c3,c4,c5,c6] 34)).alloc (.cells #[.func (.func (dA 0)) #[] #[.pointer (some ⟨w.heap.size,0,none⟩)],.func (.func (dA 1)) #[] #[.pointer (some ⟨w.heap.size,0,none⟩)],.func (.func (dA 2)) #[] #[.pointer (some ⟨w.heap.size,0,none⟩)],.func (.func (dA 3)) #[] #[.pointer (some ⟨w.heap.size,0,none⟩)]] 46))=W0 at *;have hf:FourFn W0 (w.heap.size+1) 0 dA (λ_=>#[.pointer (some ⟨w.heap.size,0,none⟩)]) (λk=>tq k t):=by
   refine⟨by omega,λk hk=>?_,λk hk=>(Wd k hk).1,λk hk W hW=>?_⟩
   ·rw[uet,aO z1 k]
    match k,hk with
    |0,_|1,_|2,_|3,_=>rfl
   ·have hz:W.heap[w.heap.size]? = _:=(hW.block _ (by omega)).trans z0;have hrep:aA W (λb=>F b\/b=w.heap.size) dm t (λj u=>W.cell? ((⟨w.heap.size,0,none⟩:Addr).add j)=some u):=by
     refine hva'.2.2.mono (λ_ h=>.inl h) (λb hb=>(hW.block b (by have:=hbd b hb; omega)).trans (hbel.block b (hbd b hb))) λj u _ hu=>?_;have e:(⟨w.heap.size,0,none⟩:Addr).add j=⟨w.heap.size,j,none⟩:=by unfold Addr.add; split<;>simp_all
     rw[e,aO hz j];exact hu
    refine((Wd k hk).2 W (λb=>F b\/b=w.heap.size) (t,()) [.pointer (some ⟨w.heap.size,0,none⟩)] (λb hb=>?_) ⟨_,[],rfl,⟨⟨w.heap.size,0,none⟩,rfl,.inr rfl,hrep⟩,rfl⟩ trivial).mono ?_
    ·have:=hW.size;rcases hb with h|h
     ·have:=hbd b h; omega
     ·omega
    ·rintro e W' ⟨v,F',rfl,hb',_,_,hv⟩;have hv':aE prog W' F' (λ_ _=>True) (dE .bool (tq k t)) v:=fT hv;exact⟨by rw[show v = .bool (tq k t) from hv'.2],hb'⟩
  refine(qao (w.heap.size+1) 0 cap dA _ (λk=>tq k t) W0 hf).mono ?_;rintro e w' ⟨rfl,hb⟩;rw[zbx];exact⟨rfl,hbel.trans (hb.mono (by omega))⟩
 ·rintro e w' ⟨rfl,hb⟩;exact⟨_,F,rfl,hb,λ_ h=>h,λb h=>⟨.inl h,ub9 (hbd b h) hb.size⟩,rfl,⟨λh=>(by cases h),λ⟨cs,h⟩=>(by cases h)⟩,rfl⟩
abbrev xm:List (Int×Nat):=[(1,137),(2,138),(3,139),(4,140)]
def zT (w:World) (r:Nat) (es:List (Int×Nat)):Prop:=∃ arr ck,w.heap[r]? = some (.map arr ck)/\arr.toList.map (λe=>(e.key,e.val))=es.map (λx=>(Value.int .i64 x.1,Value.func (.func x.2) #[] #[]))
def Cs {kt et:TypeId} {r f:Nat} {es:List (Int×Nat)} {n:Int} (ht:P.underlying t=some (.map kt et)) (hk:P.underlying kt=some (.int .i64))
  (h:zT w r es) (hn:es.find? (λx=>x.1==n)=none) :
  ∃ w',(Instr.mapUpdate t (.map (some r)) (.int .i64 n) (.func (.func f) #[] #[])).run P w = .ok () w'/\zT w' r (es++[(n,f)])/\w'.heap.size=w.heap.size/\(∀ b,b≠r->w'.heap[b]? = w.heap[b]?)/\w'.os=w.os/\w'.tape=w.tape/\w'.output=w.output:=by
 obtain⟨arr,ck,hr,he⟩:=h;obtain⟨j,hj⟩:=Ig arr.toList es 0 he;rw[hn] at hj;have hck:(Instr.checkKey false 10000 kt (.int .i64 n)).run P w = .ok () w:=AZ hk false 9999 n;have hob:(getObj r).run P w = .ok (.map arr ck) w:=by simp[getObj,Sem.run,hr]
 have hlt:=(uaf.1 hr).1;refine⟨{ w with heap:=w.heap.setIfInBounds r (.map (arr.push { key:=.int .i64 n,val:=.func (.func f) #[] #[],born:=ck }) (ck+1)) },?_,?_,?_,?_,rfl,rfl,rfl⟩
 ·simp[Instr.mapUpdate,ud1 ht,hob,hck,Instr.findKey,ud1 hk,hj,Go.MapKept.run_setObj_map _ hr]
 ·refine⟨_,_,by simp[hlt]; exact⟨rfl,rfl⟩,?_⟩;simp[he]
 ·simp
 ·intro b hb;simp[Ne.symm hb]
def Et:prog.underlying 207=some (.map 3 156):=by kernel_rfl
def Eu:prog.underlying 3=some (.int .i64):=by kernel_rfl
def qdd (w:World):Calls prog 89 #[] w λe w'=>e = .returned (.map (some w.heap.size))/\zT w' w.heap.size xm/\Below w.heap.size w w'/\w'.heap.size=w.heap.size+1:=by
 have hmm:=@run_makeMap prog;have s0:zT (w.alloc (.map #[] 0)) w.heap.size []:=⟨#[],0,by show(w.heap.push _)[w.heap.size]? = _; exact Array.getElem?_push_size,rfl⟩
 go_enter func89,ntmps89
 obtain⟨w1,r1,m1,z1,o1,a1,b1,c1⟩:=Cs (n:=1) (f:=137) Et Eu s0 rfl;obtain⟨w2,r2,m2,z2,o2,a2,b2,c2⟩:=Cs (n:=2) (f:=138) Et Eu m1 rfl;obtain⟨w3,r3,m3,z3,o3,a3,b3,c3⟩:=Cs (n:=3) (f:=139) Et Eu m2 rfl;obtain⟨w4,r4,m4,z4,o4,a4,b4,c4⟩:=Cs (n:=4) (f:=140) Et Eu m3 rfl
 go_wp2
 go_ret
 refine⟨rfl,m4,⟨?_,?_,?_,?_,?_⟩,?_⟩
 ·rw[a4,a3,a2,a1]; rfl
 ·rw[b4,b3,b2,b1]; rfl
 ·rw[c4,c3,c2,c1]; rfl
 ·rw[z4,z3,z2,z1,World.alloc,Array.size_push]; omega
 ·intro b hb;rw[o4 b (by omega),o3 b (by omega),o2 b (by omega),o1 b (by omega),World.alloc];rw[Array.getElem?_push_lt hb,uam hb]
 ·rw[z4,z3,z2,z1,World.alloc,Array.size_push]
def Oe:Ct:=⟨[],[.fm xm],λ_=>((),()),λ_=>[]⟩
def qdc:af prog 89 Oe:=by
 refine⟨enters (fn:=f89) (by kernel_rfl) rfl rfl,λw F xs vs hb hr _=>?_⟩;have hv:vs=[]:=hr;subst hv;refine(qdd w).mono ?_;rintro e w' ⟨rfl,⟨arr,ck,hr,he⟩,hbel,hsz⟩;refine⟨_,λb=>F b\/b=w.heap.size,rfl,hbel,λb h=>.inl h,λb h=>⟨h.elim .inl (λh=>.inr (by omega)),h.elim (λh=>by have:=hb b h; omega) (λh=>by omega)⟩,?_⟩;refine⟨rfl,⟨λh=>(by cases h),λ⟨cs,h⟩=>(by cases h)⟩,w.heap.size,arr,ck,rfl,.inr rfl,hr,he⟩
end
noncomputable def Xj:Cx:=cx [(89,Oe),(90,tl),(137,Gb),(138,Gc),(139,Gd),(140,Ge)] []
def Xk:CxOK prog Xj:=aP aG ⟨qdc,Pk,qdh,qdi,qdj,qdk,uT⟩ trivial
def qE (c:az.den):Bool:=bif bif (xm.find? (λx=>x.1==c.2.2.1)).isSome then (tl.f (c.1,())).1 else false then (tl.f (c.2.1,())).1 else false
def I7 (x:ag [.d az]):Fr (aa [.bool]):=
 let a:=x.1.2.2.1;Jd (qE x.1=true->a=1->True)
  (Jd (qE x.1=true->a≠1->(a=2->True)/\(a≠2->(a=3->True)/\(a≠3->a=4)))
   (Jv (bif qE x.1 then (bif a==1 then Gb.f (x.1,()) else bif a==2 then Gc.f (x.1,()) else bif a==3 then Gd.f (x.1,()) else Ge.f (x.1,())).1 else false,())))
def qdg (k:Int):(xm.find? (λx=>x.1==k)).isSome=decide (k=1\/k=2\/k=3\/k=4):=by
 rw[udt];simp only[List.find?_isSome,xm,uee,List.not_mem_nil,or_false,ufc,ucs];constructor
 ·rintro⟨x,rfl|rfl|rfl|rfl,h⟩
  ·exact .inl h.symm
  ·exact .inr (.inl h.symm)
  ·exact .inr (.inr (.inl h.symm))
  ·exact .inr (.inr (.inr h.symm))
 ·rintro(h|h|h|h)
  ·exact⟨(1,137),.inl rfl,h.symm⟩
  ·exact⟨(2,138),.inr (.inl rfl),h.symm⟩
  ·exact⟨(3,139),.inr (.inr (.inl rfl)),h.symm⟩
  ·exact⟨(4,140),.inr (.inr (.inr rfl)),h.symm⟩
def qc9 (c:az.den):(I7 (c,())).ok/\(I7 (c,())).get=(gl c,()):=by
 have hk:=qdg c.2.2.1;have hg:qE c=true->c.2.2.1=1\/c.2.2.1=2\/c.2.2.1=3\/c.2.2.1=4:=by
  intro h;unfold qE at h;rw[hk] at h;by_cases hd:c.2.2.1=1\/c.2.2.1=2\/c.2.2.1=3\/c.2.2.1=4
  ·exact hd
  ·rw[udr hd] at h;cases h
 refine⟨⟨λ_ _=>uT,λh hn=>⟨λ_=>uT,λh2=>⟨λ_=>uT,λh3=>?_⟩⟩,uT⟩,?_⟩
 ·rcases hg h with h1|h1|h1|h1
  ·exact absurd h1 hn
  ·exact absurd h1 h2
  ·exact absurd h1 h3
  ·exact h1
 ·show(bif qE c then (bif c.2.2.1==1 then (GY c,()) else bif c.2.2.1==2 then (GZ c,()) else bif c.2.2.1==3 then (Ha c,()) else (Hb c,())).1 else false,())=(gl c,());unfold qE gl Jp;rw[hk];show((bif bif bif _ then g8 c.1 else false then g8 c.2.1 else false then _ else false),())=_;by_cases h1:c.2.2.1=1
  ·simp only[h1,true_or,decide_true,cond_true,beq_self_eq_true,if_true];cases g8 c.1<;>cases g8 c.2.1<;>rfl
  ·by_cases h2:c.2.2.1=2
   ·simp[h2];cases g8 c.1<;>cases g8 c.2.1<;>rfl
   ·by_cases h3:c.2.2.1=3
    ·simp[h3];cases g8 c.1<;>cases g8 c.2.1<;>rfl
    ·by_cases h4:c.2.2.1=4
     ·simp[h4];cases g8 c.1<;>cases g8 c.2.1<;>rfl
     ·simp[h1,h2,h3,h4]
def GW:af prog 52 ou:=
 conv (aS Xk f52 (fr:=I7) (ps:=[.d az]) (rs:=[.bool])) _ _
  (λ_ _ x _ _ _=>by
   obtain⟨c,_⟩:=x;obtain⟨h1,h2⟩:=qc9 c;exact⟨h1,h2⟩)
noncomputable def Xh:Cx:=cx [(52,ou),(51,q9),(144,fM)] []
def LW:CxOK prog Xh:=aP aG ⟨GW,Lm,oT,uT⟩ trivial
abbrev ma:Pt:=⟨34,0,⟨[(8,.d i64),(7,.d i64),(6,.d (.sl az))],[.x 1 118 aC,.r 1 1 0]⟩,⟨[],[.x 1 118 aC,.r 1 1 0]⟩,⟨[(2,.d .bool)],[]⟩⟩
abbrev si:Type:=ag []×cR [.x 1 118 aC,.r 1 1 0]
def zq (e:az.den) (s:si):Fr (si ⊕ ma.R.X):=
 Jb (bif !(ou.f (e,())).1 then true else !(fM.f (s.2.1.2.2.1.1,e.2.1,())).1) (Jv (.inr ((false,()),()))) (Jv (.inl ((),s.2.1,())))
def pW (x:ma.M.X):Int×List az.den×si:=(x.1.1,x.1.2.2.1,x.1.2.2.2,x.2)
def Rk (x:ma.M.X):Prop:=x.1.2.1=(x.1.2.2.1.length:Int)
def CT (s:si):ma.E.X:=((),s.2.1,())
def Bj:si:=(aW _,bN _)
def Hu:ma.R.X:=(aW _,bN _)
def qs4:ae prog (.loop (au f97 0)) ma.M ma (FL zq pW Rk CT Rd.back Bj Hu):=
 qf LW (λ_ _=>.n .o) az.dflt (λx=>x.1.2.1) (λx s=>((I6.wrap (x.1.1+1),x.1.2.1,x.1.2.2.1,s.1),s.2)) (λ_ h=>h)
def vL (y:ma.M.X):si ⊕ ma.R.X:=dt zq ((pW y).2.1.drop (pW y).1.toNat) (pW y).2.2
def qu3 (y:ma.M.X):Prop:=jo zq ((pW y).2.1.drop (pW y).1.toNat) (pW y).2.2
def qj8 (x:ag [.d aC]):Fr (aa [.bool]):=
 let a:=((0,((List.length x.1.2.2.2.1):Int),x.1.2.2.2.1,()),x.1,());let c:=vL a;let b:=CT (dO Bj c);Jd (InL (Rk a) (pW a)) (Jd (qu3 a) (Jb (dF c) (Jv (bif (q9.f (b.2.1.2.2.1,())).1 then decide (((List.length b.2.1.2.2.2.1):Int)<=2000) else false,())) (Jv ((zej Hu c).1.1,()))))
def qj9:af prog 97 (bg [.d aC] [.bool] qj8):=
 cS LW qs4
def zal (e:az.den) (s:si):(zq e s).get=if (gl e&&gr s.2.1.2.2.1.1.1 s.2.1.2.2.1.1.2.1 e.2.1)=true then .inl s else .inr ((false,()),()):=by
 show(if (bif !(gl e) then true else !(gr s.2.1.2.2.1.1.1 s.2.1.2.2.1.1.2.1 e.2.1))=true then _ else _)=_;cases gl e<;>cases gr s.2.1.2.2.1.1.1 s.2.1.2.2.1.1.2.1 e.2.1<;>rfl
def qgl (l:List T) (s:σ):gm (λ(_:T) (s:σ)=>s) l s=s:=by
 induction l with
 |nil=>rfl
 |cons e r ih=>exact ih
def qyg:af prog 97 Gr:=
 conv qj9 _ _ (λw F x vs hr _=>by
  obtain⟨h,_⟩:=x;obtain⟨v,vs',rfl,hv,_⟩:=hr;have hwf:=aA.wf hv.2.2;have hlen:(h.2.2.2.1.length:Int)<=9223372036854775807:=uB hwf.2.2.2.1.1;refine⟨⟨⟨rfl,ue5 _,ub2 _,hlen⟩,ph (step:=zq) (λe s=>⟨λ_=>uT,λ_=>uT⟩) _ _,λ_=>uT,λ_=>uT⟩,?_⟩;have hres:=qt (f:=λ_ s=>s) zal h.2.2.2.1 ((),(h,()));rw[qan,qgl] at hres;have hres':vL ((0,(h.2.2.2.1.length:Int),h.2.2.2.1,()),(h,()))=if (h.2.2.2.1.all λc=>gl c&&gr h.2.2.1.1.1 h.2.2.1.1.2.1 c.2.1)=true then .inl ((),(h,())) else .inr ((false,()),()):=hres
  show(if dF (vL ((0,(h.2.2.2.1.length:Int),h.2.2.2.1,()),(h,())))=true then
   ((bif ju (CT (dO Bj (vL ((0,(h.2.2.2.1.length:Int),h.2.2.2.1,()),(h,()))))).2.1.2.2.1 then decide (((CT (dO Bj (vL ((0,(h.2.2.2.1.length:Int),h.2.2.2.1,()),(h,()))))).2.1.2.2.2.1.length:Int)<=2000) else false,()):Bool×Unit)
   else ((zej Hu (vL ((0,(h.2.2.2.1.length:Int),h.2.2.2.1,()),(h,())))).1.1,()))=(ri h,())
  rw[hres'];unfold ri;cases ha:(h.2.2.2.1.all λc=>gl c&&gr h.2.2.1.1.1 h.2.2.1.1.2.1 c.2.1) with
  |false=>
   show((false,()):Bool×Unit)=_;rw[ud9]
  |true=>
   show((bif ju h.2.2.1 then decide ((h.2.2.2.1.length:Int)<=2000) else false,()):Bool×Unit)=_;rw[uei];have:decide ((h.2.2.2.1.length:Int)<=2000)=decide (h.2.2.2.1.length<=2000):=by
    rw[udt];simp only[ucs];omega
   rw[this];cases ju h.2.2.1<;>rfl)
abbrev Ii:Ty:=.pair i64 (.pair i64 (.pair i64 (.pair i64 (.pair i64 .unit))))
def f5 (f:Ii.den):List Int:=[f.1,f.2.1,f.2.2.1,f.2.2.2.1,f.2.2.2.2.1]
def fj:List Int->Int->Int×Int
 |[],m=>(m,0)
 |b::r,m=>if (bpF m b).2=0 then fj r (bpF m b).1 else bpF m b
noncomputable def CQ:Cx:=cx [(191,AF),(86,oy),(126,j6),(192,Oa),(96,iC)] []
def Mg:CxOK prog CQ:=aP aG ⟨zbk,K2,xn,qbg,wL,uT⟩ trivial
def MQ:LS:=⟨[(8,.d i64),(9,.d i64),(59,.d Ii),(60,.d i64)],[.x 3 123 aQ,.r 3 3 0]⟩
def EQ:LS:=⟨[(8,.d i64),(9,.d i64)],[.x 3 123 aQ,.r 3 3 0]⟩
def yD:Pt:=⟨79,1,MQ,EQ,⟨[],[]⟩⟩
def fQ (x:MQ.X):Fr yD.Out:=
 Jb (decide (x.1.2.2.2.1<5))
  (Jd (0<=x.1.2.2.2.1/\x.1.2.2.2.1<((5:Nat):Int))
   (Jb ((iC.f (x.1.1,(f5 x.1.2.2.1).getD x.1.2.2.2.1.toNat 0,())).2.1 != 0)
    (Jv (Rd.out (((iC.f (x.1.1,(f5 x.1.2.2.1).getD x.1.2.2.2.1.toNat 0,())).1,(iC.f (x.1.1,(f5 x.1.2.2.1).getD x.1.2.2.2.1.toNat 0,())).2.1,()),x.2)))
    (Jv (Rd.next (((iC.f (x.1.1,(f5 x.1.2.2.1).getD x.1.2.2.2.1.toNat 0,())).1,(iC.f (x.1.1,(f5 x.1.2.2.1).getD x.1.2.2.2.1.toNat 0,())).2.1,x.1.2.2.1,I6.wrap (x.1.2.2.2.1+1),()),x.2)))))
  (Jv (Rd.out ((x.1.1,x.1.2.1,()),x.2)))
def qy0:ae prog (au f151 0) MQ yD fQ:=ae.of_run Mg (bs:=0) rfl rfl rfl (λ_=>aY _ 0) (λx=>by kernel_rfl)
def sS (i e:Int):Prop:=0<=i/\i<=5/\e=0
def FQ (x:MQ.X):Fr yD.Out:=Jd (sS x.1.2.2.2.1 x.1.2.1) (Jv (.out (((fj ((f5 x.1.2.2.1).drop x.1.2.2.2.1.toNat) x.1.1).1,(fj ((f5 x.1.2.2.1).drop x.1.2.2.2.1.toNat) x.1.1).2,()),x.2)))
def qpy (m e i:Int) (f:Ii.den) (y:cR [.x 3 123 aQ,.r 3 3 0]) (hinv:sS i e) (Q:yD.Out->Prop) (hq:Q (.out (((fj ((f5 f).drop i.toNat) m).1,(fj ((f5 f).drop i.toNat) m).2,()),y))) :
  (fQ ((m,e,f,i,()),y)).satP λ
   |.next x'=>sS x'.1.2.2.2.1 x'.1.2.1/\(5-x'.1.2.2.2.1).toNat<(5-i).toNat/\(FQ x').satP Q
   |.out y=>Q (.out y)
   |.back z=>Q (.back z)
   |.pan p=>Q (.pan p):=by
 obtain⟨h1,h2,rfl⟩:=hinv;refine⟨λhi=>?_,λhi=>?_⟩
 ·have hi':i<5:=ucv hi;obtain⟨k,rfl⟩:∃ k:Nat,i=k:=⟨i.toNat,by omega⟩;have hl:k<(f5 f).length:=by show k<5; omega
  have hw:I6.wrap ((k:Int)+1)=k+1:=IntWalk.i64_in _ (by omega);have g1:(f5 f).getD (k:Int).toNat 0=(f5 f)[k]:=by
   rw[show(k:Int).toNat=k by omega,uah,uap hl]; rfl
  have hd:(f5 f).drop (k:Int).toNat=(f5 f)[k]::(f5 f).drop (k+1):=by
   exact ual hl
  rw[hd] at hq;rw[g1,hw];show(0<=(k:Int)/\(k:Int)<((5:Nat):Int))/\(((bpF m (f5 f)[k]).2 != 0)=true->Q (.out (((bpF m (f5 f)[k]).1,(bpF m (f5 f)[k]).2,()),y)))/\(((bpF m (f5 f)[k]).2 != 0)=false->sS (k+1) (bpF m (f5 f)[k]).2/\(5-((k:Int)+1)).toNat<(5-(k:Int)).toNat/\(FQ (((bpF m (f5 f)[k]).1,(bpF m (f5 f)[k]).2,f,(k:Int)+1,()),y)).satP Q);refine⟨⟨by omega,by omega⟩,λhb=>?_,λhb=>?_⟩
  ·have hb':¬ (bpF m (f5 f)[k]).2=0:=by simpa using hb
   have e:fj ((f5 f)[k]::(f5 f).drop (k+1)) m=bpF m (f5 f)[k]:=if_neg hb';rw[e] at hq;exact hq
  ·have hb':(bpF m (f5 f)[k]).2=0:=by simpa using hb
   have e:fj ((f5 f)[k]::(f5 f).drop (k+1)) m=fj ((f5 f).drop (k+1)) (bpF m (f5 f)[k]).1:=if_pos hb';rw[e] at hq;have hI:sS ((k:Int)+1) (bpF m (f5 f)[k]).2:=⟨by omega,by omega,hb'⟩;refine⟨hI,by omega,hI,?_⟩;have:((k:Int)+1).toNat=k+1:=by omega
   exact hq
 ·have hi':¬ i<5:=ucf hi;have:i=5:=by omega
  subst this;exact hq
def qq7:ae prog (.loop (au f151 0)) MQ yD FQ:=by
 refine ae.loop qy0 (μ:=λx=>(5-x.1.2.2.2.1).toNat) ?_ (λx Q h=>h.1);rintro⟨⟨m,e,f,i,_⟩,y⟩ hinv Q hq;exact qpy m e i f y hinv Q hq.2
def lO (v:aQ.den) (r:dG.den) (c:ak.den):List Int:=
 [([v.2.1.1,v.2.1.2.1,v.2.1.2.2.1,v.2.1.2.2.2.1]:List Int).getD r.1.toNat 0,lv r.2.2.1 v.2.2.1 10000,v.2.2.2.1.getD r.2.2.2.1.toNat 0,v.2.2.2.2.1.getD c.1.toNat 0,c.2.2.2.2.1]
def dJ (v:aQ.den) (r:dG.den) (c:ak.den):Int×Int:=
 if (qb v&&(n8 r.1 r.2.1 r.2.2.1 r.2.2.2.1&&o7 c.1 c.2.1 c.2.2.1 c.2.2.2.1 c.2.2.2.2.1))=true then
  if r.2.2.2.1>=v.2.2.2.1.length then (0,7) else
   if (fj (lO v r c) r.2.1).2=0 then (if (fj (lO v r c) r.2.1).1<v.2.2.2.2.2.1 then v.2.2.2.2.2.1 else (fj (lO v r c) r.2.1).1,0) else (0,(fj (lO v r c) r.2.1).2)
 else (0,1)
def ox:Ct:=⟨[.d aQ,.d dG,.d ak],[i64,i64],λx=>((dJ x.1 x.2.1 x.2.2.1).1,(dJ x.1 x.2.1 x.2.2.1).2,()),λ_=>[]⟩
def I3 (x:ag [.d aQ,.d dG,.d ak]):Fr (aa [i64,i64]):=
 Jb (bif bif !(AF.f (x.1,())).1 then true else !(oy.f (x.2.1,())).1 then true else !(j6.f (x.2.2.1,())).1) (Jv (0,1,()))
  (Jb (decide (x.2.1.2.2.2.1>=x.1.2.2.2.1.length)) (Jv (0,7,()))
   (Jd (0<=x.2.1.1/\x.2.1.1<((4:Nat):Int))
    (Jd (0<=x.2.1.2.2.2.1/\x.2.1.2.2.2.1<x.1.2.2.2.1.length)
     (Jd (0<=x.2.2.1.1/\x.2.2.1.1<x.1.2.2.2.2.1.length)
      (Jd (sS 0 0)
       (Jb ((fj (lO x.1 x.2.1 x.2.2.1) x.2.1.2.1).2 != 0) (Jv (0,(fj (lO x.1 x.2.1 x.2.2.1) x.2.1.2.1).2,()))
        (Jv (if (fj (lO x.1 x.2.1 x.2.2.1) x.2.1.2.1).1<x.1.2.2.2.2.2.1 then x.1.2.2.2.2.2.1 else (fj (lO x.1 x.2.1 x.2.2.1) x.2.1.2.1).1,0,()))))))))
def qvc:af prog 151 (bg [.d aQ,.d dG,.d ak] [i64,i64] I3):=
 cS Mg qq7
def qua (a b c:Bool):(bif bif !a then true else !b then true else !c) = !(a&&(b&&c)):=by cases a<;>cases b<;>cases c<;>rfl
def zc3 {v:aQ.den} (h:qb v=true):v.2.2.2.2.1.length=8:=by
 unfold qb at h;rw[uc9] at h;have h1:=ucv h.1;exact h1.2.2.2.2.2.2.2
def qxu {k v z:Int} (h:n8 k v a z=true):0<=k/\k<4/\0<=z:=by
 have h1:=ucv h;exact⟨h1.1,h1.2.1,h1.2.2.2.2.2.2.1⟩
def qej {p l g d s:Int} (h:o7 p l g d s=true):0<=p/\p<8:=by
 have h1:=ucv h;exact⟨h1.1,h1.2.1⟩
def qu9 (v:aQ.den) (k val a z:Int) (c:ak.den):(I3 (v,(k,val,a,z,()),c,())).ok/\(I3 (v,(k,val,a,z,()),c,())).get=((dJ v (k,val,a,z,()) c).1,(dJ v (k,val,a,z,()) c).2,()):=by
 obtain⟨p,l,g,d,s,_⟩:=c;unfold dJ;have e0:(bif bif !(AF.f (v,())).1 then true else !(oy.f ((k,val,a,z,()),())).1 then true else !(j6.f ((p,l,g,d,s,()),())).1) = !(qb v&&(n8 k val a z&&o7 p l g d s)):=qua _ _ _;by_cases h:(qb v&&(n8 k val a z&&o7 p l g d s))=true
 ·rw[if_pos h];refine aR (by rw[e0,h]; rfl) ?_;rw[uc9,uc9] at h;obtain⟨h1,h2,h3⟩:=h;obtain⟨r1,r2,r3⟩:=qxu h2;obtain⟨c1,c2⟩:=qej h3;have hp:=zc3 h1;by_cases hz:z>=(v.2.2.2.1.length:Int)
  ·rw[if_pos hz];exact aZ (ud6 hz) ⟨uT,rfl⟩
  ·rw[if_neg hz];have hz':=Int.not_le.1 hz;refine aR (udr hz) (aF ⟨r1,by omega⟩ (aF ⟨r3,hz'⟩ (aF ⟨c1,?_⟩ (aF ⟨by omega,by omega,rfl⟩ ?_))))
   ·show p<(v.2.2.2.2.1.length:Int);rw[hp];exact c2
   ·by_cases hb:(fj (lO v (k,val,a,z,()) (p,l,g,d,s,())) val).2=0
    ·have hb':((fj (lO v (k,val,a,z,()) (p,l,g,d,s,())) val).2 != 0)=false:=by rw[hb]; rfl
     rw[if_pos hb];exact aR hb' ⟨uT,rfl⟩
    ·have hb':=uff.2 hb;rw[if_neg hb];exact aZ hb' ⟨uT,rfl⟩
 ·rw[if_neg h];simp only[Bool.not_eq_true] at h;exact aZ (by rw[e0,h]; rfl) ⟨uT,rfl⟩
def qvb:af prog 151 ox:=
 cQ qvc _ _ (λ_ _ x _ _ _=>by
  obtain⟨v,⟨k,val,a,z,_⟩,c,_⟩:=x;exact qu9 v k val a z c)
noncomputable def Fk:FuncId->Option (Func×(Nat->St->Option Tr)):=cu [(150,(f150,bw)),(190,(f190,bw))]
def ZW:∀ f fn Λ,Fk f=some (fn,Λ)->prog.funcs[f]? = some fn/\∀ c E',fn.body=some c->bP prog E' Λ c 0:=λf fn Λ h=>by
 simp only[Fk,cu] at h;split at h
 ·rename_i hf;subst hf;cases h;exact⟨by kernel_rfl,λc E' _=>aY c 0⟩
 ·split at h
  ·rename_i hf;subst hf;cases h;exact⟨by kernel_rfl,λc E' _=>aY c 0⟩
  ·cases h
noncomputable def CY:Cx:=cW [(151,ox)] [] (fU prog dB Fk)
def MA:CxOK prog CY:=cZ aG ⟨qvb,uT⟩ trivial (gG aH ZW)
def MY:LS:=⟨[(16,.d (.sl ak)),(17,.d i64),(18,.d i64),(9,.d i64),(10,.d .bool)],[.x 3 123 aQ,.r 3 3 0,.x 4 31 dG,.r 4 4 0,.x 160001 3 i64,.g 8 190 [160001]]⟩
def EY:LS:=⟨[(9,.d i64),(10,.d .bool)],[]⟩
def rK:Pt:=⟨43,0,MY,EY,⟨[(6,.d i64),(7,.d i64)],[]⟩⟩
def PS (v:aQ.den) (r:dG.den) (l:List ak.den) (n i s:Int) (b:Bool) (q:Int) (c:ak.den):Fr rK.Out:=
 Jb ((ox.f (v,r,c,())).2.1 != 0) (Jv (Rd.back ((0,(ox.f (v,r,c,())).2.1,()),())))
  (Jb b
   (Jb (decide ((ox.f (v,r,c,())).1>I6.wrap (4000000000000000000-q)))
    (Jv (Rd.next ((l,n,I6.wrap (i+1),0,false,()),(v,r,q,()))))
    (Jv (Rd.next ((l,n,I6.wrap (i+1),I6.wrap (q+(ox.f (v,r,c,())).1),true,()),(v,r,I6.wrap (q+(ox.f (v,r,c,())).1),())))))
   (Jv (Rd.next ((l,n,I6.wrap (i+1),s,b,()),(v,r,q,())))))
def fY (x:MY.X):Fr rK.Out:=
 Jb (decide (x.1.2.2.1<x.1.2.1))
  (Jd (0<=x.1.2.2.1/\x.1.2.2.1<x.1.1.length) (PS x.2.1 x.2.2.1 x.1.1 x.1.2.1 x.1.2.2.1 x.1.2.2.2.1 x.1.2.2.2.2.1 x.2.2.2.1 (x.1.1.getD x.1.2.2.1.toNat ak.dflt)))
  (Jv (Rd.out ((x.1.2.2.2.1,x.1.2.2.2.2.1,()),())))
def qy4:ae prog (au f100 0) MY rK fY:=ae.of_run MA (bs:=0) rfl rfl rfl (λ_=>aY _ 0) (λx=>by kernel_rfl)
def ge (v:aQ.den) (r:dG.den):List ak.den->Int->Bool->Int×Bool×Int
 |[],q,b=>(if b=true then q else 0,b,0)
 |c::l,q,b=>if (dJ v r c).2=0 then
   (if b=true then (if (dJ v r c).1>4000000000000000000-q then ge v r l q false else ge v r l (q+(dJ v r c).1) true) else ge v r l q false)
  else (0,false,(dJ v r c).2)
def qu8 {v:aQ.den} {r:dG.den} {c:ak.den} (h:(dJ v r c).2=0):0<=(dJ v r c).1:=by
 unfold dJ at h |-;split
 ·rename_i h1;split
  ·exact ue5 0
  ·rename_i h2;split
   ·have hv:=(Bool.and_eq_true_iff.1 h1).1;have hmin:0<=v.2.2.2.2.2.1:=by
     unfold qb at hv;rw[uc9] at hv;exact(ucv hv.1).2.2.1
    split
    ·exact hmin
    ·rename_i h3;exact uez hmin (ufe.1 h3)
   ·exact ue5 0
 ·exact ue5 0
def nO (l:List ak.den) (n i s:Int) (b:Bool) (q:Int):Prop:=0<=i/\i<=n/\n=l.length/\n<=9223372036854775807/\0<=q/\q<=4000000000000000000/\s=if b=true then q else 0
def TE (y:Int×Bool×Int):Fr rK.Out:=Jb (y.2.2 != 0) (Jv (Rd.back ((0,y.2.2,()),()))) (Jv (Rd.out ((y.1,y.2.1,()),())))
def FY (x:MY.X):Fr rK.Out:=Jd (nO x.1.1 x.1.2.1 x.1.2.2.1 x.1.2.2.2.1 x.1.2.2.2.2.1 x.2.2.2.1) (TE (ge x.2.1 x.2.2.1 (x.1.1.drop x.1.2.2.1.toNat) x.2.2.2.1 x.1.2.2.2.2.1))
def qp8 (v:aQ.den) (r:dG.den) (l:List ak.den) (n i s:Int) (b:Bool) (q:Int) (hinv:nO l n i s b q) (Q:rK.Out->Prop) (hq:(TE (ge v r (l.drop i.toNat) q b)).satP Q) :
  (fY ((l,n,i,s,b,()),(v,r,q,()))).satP λ
   |.next x'=>nO x'.1.1 x'.1.2.1 x'.1.2.2.1 x'.1.2.2.2.1 x'.1.2.2.2.2.1 x'.2.2.2.1/\(x'.1.2.1-x'.1.2.2.1).toNat<(n-i).toNat/\(FY x').satP Q
   |.out y=>Q (.out y)
   |.back z=>Q (.back z)
   |.pan p=>Q (.pan p):=by
 obtain⟨h1,h2,rfl,h4,h5,h6,h7⟩:=hinv;refine⟨λhi=>?_,λhi=>?_⟩
 ·have hi':i<(l.length:Int):=ucv hi;obtain⟨k,rfl⟩:∃ k:Nat,i=k:=⟨i.toNat,by omega⟩;have hl:k<l.length:=by omega
  have g1:l.getD (k:Int).toNat ak.dflt=l[k]:=by
   rw[show(k:Int).toNat=k by omega,uah,uap hl]; rfl
  have hw:I6.wrap ((k:Int)+1)=k+1:=IntWalk.i64_in _ (by omega);have hd:l.drop (k:Int).toNat=l[k]::l.drop (k+1):=by
   exact ual hl
  have hn1:((k:Int)+1).toNat=k+1:=by omega
  rw[hd] at hq;refine⟨⟨by omega,hi'⟩,?_⟩;rw[g1];unfold PS;rw[hw];generalize l[k]=c at *;have hμ:((l.length:Int)-((k:Int)+1)).toNat<((l.length:Int)-k).toNat:=by omega
  refine⟨λhe=>?_,λhe=>?_⟩
  ·have he':=uff.1 he;have e:ge v r (c::l.drop (k+1)) q b=(0,false,(dJ v r c).2):=if_neg he';rw[e] at hq;exact hq.1 he
  ·have he':(dJ v r c).2=0:=by
    have:((dJ v r c).2 != 0)=false:=he;simpa using this
   have hpos:=qu8 he';have e:ge v r (c::l.drop (k+1)) q b=(if b=true then (if (dJ v r c).1>4000000000000000000-q then ge v r (l.drop (k+1)) q false else ge v r (l.drop (k+1)) (q+(dJ v r c).1) true) else ge v r (l.drop (k+1)) q false):=if_pos he';rw[e] at hq;have hw2:I6.wrap (4000000000000000000-q)=4000000000000000000-q:=IntWalk.i64_in _ (by omega);refine⟨λhb=>?_,λhb=>?_⟩
   ·rw[if_pos hb] at hq;rw[hw2];refine⟨λhg=>?_,λhg=>?_⟩
    ·have hg':(dJ v r c).1>4000000000000000000-q:=ucv hg;rw[if_pos hg'] at hq;have hI:nO l l.length ((k:Int)+1) 0 false q:=⟨by omega,by omega,rfl,h4,h5,h6,rfl⟩;refine⟨hI,hμ,hI,?_⟩;exact hq
    ·have hg':¬ (dJ v r c).1>4000000000000000000-q:=ucf hg;rw[if_neg hg'] at hq;have hw3:I6.wrap (q+(ox.f (v,r,c,())).1)=q+(dJ v r c).1:=IntWalk.i64_in (q+(dJ v r c).1) (by omega);rw[hw3];have hI:nO l l.length ((k:Int)+1) (q+(dJ v r c).1) true (q+(dJ v r c).1):=⟨by omega,by omega,rfl,h4,by omega,by omega,rfl⟩;refine⟨hI,hμ,hI,?_⟩;exact hq
   ·subst hb;have hI:nO l l.length ((k:Int)+1) s false q:=⟨by omega,by omega,rfl,h4,h5,h6,h7⟩;refine⟨hI,hμ,hI,?_⟩;exact hq
 ·have hi':¬ i<(l.length:Int):=ucf hi;have e:l.drop i.toNat=[]:=ua1 (by omega);rw[e] at hq;subst h7;exact hq.2 rfl
def qro:ae prog (.loop (au f100 0)) MY rK FY:=by
 refine ae.loop qy4 (μ:=λx=>(x.1.2.1-x.1.2.2.1).toNat) ?_ (λx Q h=>h.1);rintro⟨⟨l,n,i,s,b,_⟩,v,r,q,_⟩ hinv Q hq;exact qp8 v r l n i s b q hinv Q hq.2
def wl (v:aQ.den) (r:dG.den) (l:List ak.den):Int×Int:=
 if (ge v r l 0 true).2.2=0 then (if (ge v r l 0 true).2.1=true then ((ge v r l 0 true).1,0) else (0,5)) else (0,(ge v r l 0 true).2.2)
def wZ:Ct:=⟨[.d aQ,.d dG,.d (.sl ak)],[i64,i64],λx=>((wl x.1 x.2.1 x.2.2.1).1,(wl x.1 x.2.1 x.2.2.1).2,()),λ_=>[]⟩
def qlj (x:ag [.d aQ,.d dG,.d (.sl ak)]):Fr (aa [i64,i64]):=
 let a:=ge x.1 x.2.1 x.2.2.1 0 true;Jd (nO x.2.2.1 x.2.2.1.length 0 0 true 0)
  (Jb (a.2.2 != 0) (Jv (0,a.2.2,()))
   (Jb (!a.2.1) (Jv (0,5,())) (Jv (a.1,0,()))))
def zdh:af prog 100 (bg [.d aQ,.d dG,.d (.sl ak)] [i64,i64] qlj):=
 cS MA qro
def zdg:af prog 100 wZ:=
 cQ zdh _ _ (λw F x vs hr _=>by
  obtain⟨v,r,l,_⟩:=x;obtain⟨v1,vs1,rfl,_,v2,vs2,rfl,_,v3,vs3,rfl,h3,_⟩:=hr;have hlen:=mv h3;have hI:nO l l.length 0 0 true 0:=⟨by omega,by omega,rfl,hlen,by decide,by decide,rfl⟩;refine aF hI ?_;unfold wl;generalize ge v r l 0 true=y;obtain⟨s,b,e⟩:=y;by_cases he:e=0
  ·subst he;refine aR rfl ?_;cases b with
   |true=>exact aR rfl ⟨uT,rfl⟩
   |false=>exact aZ rfl ⟨uT,rfl⟩
  ·rw[if_neg he];exact aZ (uff.2 he) ⟨uT,rfl⟩)
noncomputable def LO:Cx:=cx [(148,A7)] []
def WV:CxOK prog LO:=aP (ps:=[]) aG ⟨Rx,uT⟩ trivial
noncomputable def Fh:FuncId->Option (Func×(Nat->St->Option Tr)):=cu [(147,(f147,bw)),(149,(f149,bw))]
def ZT:∀ f fn Λ,Fh f=some (fn,Λ)->prog.funcs[f]? = some fn/\∀ c E',fn.body=some c->bP prog E' Λ c 0:=λf fn Λ h=>by
 simp only[Fh,cu] at h;split at h
 ·rename_i hf;subst hf;cases h;exact⟨by kernel_rfl,λc E' _=>aY c 0⟩
 ·split at h
  ·rename_i hf;subst hf;cases h;exact⟨by kernel_rfl,λc E' _=>aY c 0⟩
  ·cases h
noncomputable def E8:Cx:=cW [(134,G0)] [] (fU prog LO Fh)
def E9:CxOK prog E8:=cZ (ps:=[]) aG ⟨JX,uT⟩ trivial (gG WV ZT)
abbrev SW:List MI:=[.x 280001 118 aC,.r 1 280001 0,.x 280003 29 cn,.r 3 280003 0,.x 280004 230 aB,.r 4 280004 0,.y 280005 176 [(some 230,aB)],.r 5 280005 0,.g 6 147 [280004,280005],.x 6 123 aQ,.r 10006 6 0]
def MC:LS:=⟨[(26,.d aK),(27,.d i64),(28,.d i64)],SW⟩
def EC:LS:=⟨[],SW⟩
def uV:Pt:=⟨52,0,MC,EC,⟨[],[]⟩⟩
def gJ (out:List aB.den):Int:=I6.wrap ((out.length:Int)-1)
def jX (s:aB.den) (b:Int):aB.den:=((s.1.1,b,()),s.2)
def H6 (s:aB.den) (out:List aB.den) (day:Int) (K:List aB.den->Fr α):Fr α:=
 Jb (s.1.1==day) (K out)
  (Jd (decide (gJ out>=0)=true->0<=gJ out/\gJ out<(out.length:Int))
   (Jd (decide (gJ out>=0)=true->(gJ out).toNat<out.length)
    (Jb (bif decide (gJ out>=0) then (A7.f (out.getD (gJ out).toNat aB.dflt,jX s day,())).1 else false)
     (Jd (0<=gJ out/\gJ out<(out.length:Int)) (Jd ((gJ out).toNat<out.length) (K (out.set (gJ out).toNat (jX (out.getD (gJ out).toNat aB.dflt) day)))))
     (Jd (out.length + [jX s day].length<=maxLen/\(out.length + [jX s day].length)*88<=140737488355328) (K (out++[jX s day]))))))
def Ps (s:aB.den) (c:az.den) (K:aB.den->Fr α):Fr α:=
 Jb (c.2.2.1==1) (K (s.1,s.2.1,c.2.2.2.1,s.2.2.2.1,s.2.2.2.2.1,()))
  (Jb (c.2.2.1==2) (Jd (([]:List ak.den).length+c.2.2.2.2.1.length<=maxLen/\(([]:List ak.den).length+c.2.2.2.2.1.length)*40<=140737488355328) (K (s.1,s.2.1,s.2.2.1,[]++c.2.2.2.2.1,s.2.2.2.2.1,())))
   (Jb (c.2.2.1==3) (K (s.1,false,s.2.2.1,s.2.2.2.1,s.2.2.2.2.1,()))
    (Jb (c.2.2.1==4) (K (s.1,true,s.2.2.1,s.2.2.2.1,s.2.2.2.2.1,())) (K s))))
def Im (x:MC.X):Fr uV.Out:=
 let l:List Int:=x.1.1; let n:Int:=x.1.2.1; let i:Int:=x.1.2.2.1; let h:aC.den:=x.2.1; let sp:cn.den:=x.2.2.1; let s:aB.den:=x.2.2.2.1; let out:List aB.den:=x.2.2.2.2.1.1; let v:aQ.den:=x.2.2.2.2.2.1
 let j:Int:=l.getD i.toNat i64.dflt
 Jb (decide (i<n))
  (Jd (0<=i/\i<(l.length:Int))
   (Jd (0<=j/\j<((aL h).length:Int))
    (H6 s out (bZ h j).2.1 λout'=>
     Jd (0<=j/\j<((aL h).length:Int))
      (Ps (((bZ h j).2.1,s.1.2.1,()),s.2) (bZ h j) λs'=>Jv (Rd.next ((l,n,I6.wrap (i+1),()),(h,sp,s',(out',()),v,())))))))
  (Jv (Rd.out ((),(h,sp,s,(out,()),v,()))))
def qys:ae prog (au f99 0) MC uV Im:=ae.of_run E9 (bs:=280000) rfl rfl rfl (λ_=>aY _ 0) (λx=>by kernel_rfl)
def Un (s:aB.den):(out:List aB.den)->0<out.length->iW out s=if ni (out.getD (out.length-1) aB.dflt) s=true then out.set (out.length-1) (jX (out.getD (out.length-1) aB.dflt) s.1.2.1) else out++[s]
 |[],h=>absurd h (by decide)
 |[x],_=>rfl
 |x::y::r,_=>by
  have ih:=Un s (y::r) (by simp);have e1:(x::y::r).length-1=((y::r).length-1)+1:=by simp
  have e2:(x::y::r).getD ((x::y::r).length-1) aB.dflt=(y::r).getD ((y::r).length-1) aB.dflt:=by
   rfl
  show x::iW (y::r) s=_;rw[ih,e2,e1];split
  ·rfl
  ·rfl
def Uo (s:aB.den):(out:List aB.den)->(iW out s).length<=out.length+1
 |[]=>by simp[iW]
 |[x]=>by unfold iW; split<;>simp
 |x::y::r=>by
  have:=Uo s (y::r);simp only[iW,uc6] at this |-;omega
def H5 (s:aB.den) (out:List aB.den) (day:Int):(mP s out day).length<=out.length+1:=by
 unfold mP;split
 ·omega
 ·exact Uo _ _
def qph {out:List aB.den} (h:out.length<=1000000):gJ out=(out.length:Int)-1:=IntWalk.i64_in _ (by omega)
def P9 {s:aB.den} {out:List aB.den} {K:List aB.den->Fr α} {Q:α->Prop} (hl:out.length<=1000000) (h:(K (mP s out day)).satP Q):(H6 s out day K).satP Q:=by
 unfold mP at h;have hw:=qph hl;have hm:out.length+1<=maxLen/\(out.length+1)*88<=140737488355328:=⟨by unfold maxLen; omega,by omega⟩;refine⟨λhb=>?_,λhb=>?_⟩
 ·have hb':=eq_of_beq hb;rw[if_pos hb'] at h;exact h
 ·have hb':=ud0 hb;rw[if_neg hb'] at h;refine⟨λhd=>?_,λhd=>?_,?_⟩
  ·have:=ucv hd;omega
  ·have:=ucv hd;omega
  ·by_cases h0:0<out.length
   ·have hge:decide (gJ out>=0)=true:=ud6 (by omega);have ht:(gJ out).toNat=out.length-1:=by omega
    have hp:=Un (jX s day) out h0;rw[hge,ht];refine⟨λhh=>?_,λhh=>?_⟩
    ·have hh':ni (out.getD (out.length-1) aB.dflt) (jX s day)=true:=hh;rw[if_pos hh'] at hp;refine⟨⟨by omega,by omega⟩,by omega,?_⟩;have e:iW out ((s.1.1,day,()),s.2)=out.set (out.length-1) (jX (out.getD (out.length-1) aB.dflt) day):=hp;rw[e] at h;exact h
    ·have hh':¬ ni (out.getD (out.length-1) aB.dflt) (jX s day)=true:=by
      intro hx;have:ni (out.getD (out.length-1) aB.dflt) (jX s day)=false:=hh;rw[hx] at this;cases this
     rw[if_neg hh'] at hp;have e:iW out ((s.1.1,day,()),s.2)=out++[jX s day]:=hp;rw[e] at h;exact⟨hm,h⟩
   ·have fF:out=[]:=uay.1 (by omega);subst fF;have hge:decide (gJ []>=0)=false:=udr (by rw[hw]; decide);exact⟨λhh=>(by cases hh),λ_=>⟨hm,h⟩⟩
def qf6 {s:aB.den} {c:az.den} {K:aB.den->Fr α} {Q:α->Prop} (hl:c.2.2.2.2.1.length<=1000000) (h:(K (Bl s c)).satP Q):(Ps s c K).satP Q:=by
 unfold Bl at h;have hm:([]:List ak.den).length+c.2.2.2.2.1.length<=maxLen/\(([]:List ak.den).length+c.2.2.2.2.1.length)*40<=140737488355328:=by
  simp;exact⟨by unfold maxLen; omega,by omega⟩
 refine⟨λk=>?_,λk=>⟨λk2=>?_,λk2=>⟨λk3=>?_,λk3=>⟨λk4=>?_,λk4=>?_⟩⟩⟩⟩
 ·have k':=eq_of_beq k;rw[if_pos k'] at h;exact h
 ·have k':=ud0 k;have k2':=eq_of_beq k2;rw[if_neg k',if_pos k2'] at h;exact⟨hm,h⟩
 ·have k':=ud0 k;have k2':=ud0 k2;have k3':=eq_of_beq k3;rw[if_neg k',if_neg k2',if_pos k3'] at h;exact h
 ·have k':=ud0 k;have k2':=ud0 k2;have k3':=ud0 k3;have k4':=eq_of_beq k4;rw[if_neg k',if_neg k2',if_neg k3',if_pos k4'] at h;exact h
 ·have k':=ud0 k;have k2':=ud0 k2;have k3':=ud0 k3;have k4':=ud0 k4;rw[if_neg k',if_neg k2',if_neg k3',if_neg k4'] at h;exact h
structure InvC5 (l:List Int) (n i:Int) (h:aC.den) (out:List aB.den):Prop where
 i0:0<=i
 il:i<=n
 nl:n=l.length
 few:l.length<=500000
 inl:∀ x∈l,0<=x/\x<((aL h).length:Int)
 cov:∀ c∈aL h,c.2.2.2.2.1.length<=1000000
 outs:(out.length:Int)<=i
def Fd (x:MC.X):Fr uV.Out:=
 let l:List Int:=x.1.1; let n:Int:=x.1.2.1; let i:Int:=x.1.2.2.1; let h:aC.den:=x.2.1; let sp:cn.den:=x.2.2.1; let s:aB.den:=x.2.2.2.1; let out:List aB.den:=x.2.2.2.2.1.1; let v:aQ.den:=x.2.2.2.2.2.1
 Jd (InvC5 l n i h out) (Jv (Rd.out ((),(h,sp,(lG ((l.drop i.toNat).map (bZ h)) s out).1,((lG ((l.drop i.toNat).map (bZ h)) s out).2,()),v,()))))
def qpn (l:List Int) (n i:Int) (h:aC.den) (sp:cn.den) (s:aB.den) (out:List aB.den) (v:aQ.den) (hinv:InvC5 l n i h out) (Q:uV.Out->Prop)
  (hq:Q (Rd.out ((),(h,sp,(lG ((l.drop i.toNat).map (bZ h)) s out).1,((lG ((l.drop i.toNat).map (bZ h)) s out).2,()),v,())))) :
  (Im ((l,n,i,()),(h,sp,s,(out,()),v,()))).satP λ
   |.next x'=>InvC5 x'.1.1 x'.1.2.1 x'.1.2.2.1 x'.2.1 x'.2.2.2.2.1.1/\((x'.1.2.1:Int)-x'.1.2.2.1).toNat<(n-i).toNat/\(Fd x').satP Q
   |.out y=>Q (.out y)
   |.back z=>Q (.back z)
   |.pan p=>Q (.pan p):=by
 obtain⟨h0,h1,rfl,h2,h3,h4,h5⟩:=hinv;obtain⟨i',rfl⟩:∃ n:Nat,i=n:=⟨i.toNat,by omega⟩;simp only[ucy] at hq;dsimp only[Im,Ty.den,PT.den];refine⟨λhi=>?_,λhi=>?_⟩
 ·have hlt:i'<l.length:=by have:(i':Int)<(l.length:Int):=ucv hi; omega
  have w:I6.wrap ((i':Int)+1)=(i'+1:Nat):=zv (by omega);rw[w];have hm:=h3 _ (fo (d:=(0:Int)) hlt);rw[qf8 hlt,ueg] at hq;have hcm:bZ h (l.getD i' 0)∈aL h:=by
   exact fo (by omega)
  have hE:=H5 s out (bZ h (l.getD i' 0)).2.1;have hI:InvC5 l (l.length:Int) ((i'+1:Nat):Int) h (mP s out (bZ h (l.getD i' 0)).2.1):=⟨by omega,by omega,rfl,h2,h3,h4,by omega⟩;have hμ:((l.length:Int)-((i'+1:Nat):Int)).toNat<((l.length:Int)-(i':Int)).toNat:=by omega
  refine⟨⟨by omega,by omega⟩,hm,P9 (by omega) ⟨hm,qf6 (h4 _ hcm) ⟨hI,hμ,hI,hq⟩⟩⟩
 ·have hge:¬ i'<l.length:=by have:¬ (i':Int)<(l.length:Int):=ucf hi; omega
  rw[ua1 (by omega)] at hq;exact hq
def qqu:ae prog (.loop (au f99 0)) MC uV Fd:=by
 refine ae.loop qys (μ:=λx=>((x.1.2.1:Int)-x.1.2.2.1).toNat) ?_ (λx Q h=>h.1);rintro⟨⟨l,n,i,_⟩,h,sp,s,⟨out,_⟩,v,_⟩ hinv Q hq;exact qpn l n i h sp s out v hinv Q hq.2
noncomputable def Fj:FuncId->Option (Func×(Nat->St->Option Tr)):=cu [(99,(f99,λ_=>uV.han E8.Γ MC Fd))]
def ZV:∀ f fn Λ,Fj f=some (fn,Λ)->prog.funcs[f]? = some fn/\∀ c E',fn.body=some c->bP prog E' Λ c 0:=λf fn Λ h=>by
 simp only[Fj,cu] at h;split at h
 ·rename_i hf;subst hf;cases h;exact⟨by kernel_rfl,λc E' hc=>ea hc (by kernel_rfl) (b:=au f99 0) (by kernel_rfl) (ae.han E9 rfl qqu)⟩
 ·cases h
noncomputable def XJ:Cx:=cW [(97,Gr),(98,G6),(100,wZ)] [] (fU prog E8 Fj)
def Mf:CxOK prog XJ:=cZ (ps:=[]) aG ⟨qyg,zbr,zdg,uT⟩ trivial (gG E9 ZV)
def MO:LS:=⟨[(29,.d i64),(30,.d i64)],[.o 8 230 aB,.al 28 8,.x 6 123 aQ,.r 6 6 0]⟩
def EO:LS:=⟨[],[.o 8 230 aB]⟩
def vd:Pt:=⟨56,0,MO,EO,⟨[(4,.d zel),(5,.d i64)],[]⟩⟩
def gO (v:aQ.den) (s:aB.den):Int×Int:=wl v s.2.2.1 s.2.2.2.1
def lc (s:aB.den) (y:Int):aB.den:=(s.1,s.2.1,s.2.2.1,s.2.2.2.1,y,())
def fO (x:MO.X):Fr vd.Out:=
 let n:Int:=x.1.1; let i:Int:=x.1.2.1; let l:List aB.den:=x.2.1; let v:aQ.den:=x.2.2.1
 let s:aB.den:=l.getD i.toNat aB.dflt
 Jb (decide (i<n))
  (Jd (0<=i/\i<(l.length:Int)) (Jd (i.toNat<l.length)
   (Jb (!s.2.1) (Jv (Rd.next ((n,I6.wrap (i+1),()),(l,v,()))))
    (Jd (0<=i/\i<(l.length:Int)) (Jd (i.toNat<l.length)
     (Jb ((wZ.f (v,s.2.2.1,s.2.2.2.1,())).2.1 != 0) (Jv (Rd.back (([],(wZ.f (v,s.2.2.1,s.2.2.2.1,())).2.1,()),())))
      (Jv (Rd.next ((n,I6.wrap (i+1),()),(l.set i.toNat (lc s (wZ.f (v,s.2.2.1,s.2.2.2.1,())).1),v,()))))))))))
  (Jv (Rd.out ((),(l,()))))
def qyz:ae prog (au f65 0) MO vd fO:=ae.of_run Mf (bs:=0) rfl rfl rfl (λ_=>aY _ 0) (λx=>by kernel_rfl)
def jP (v:aQ.den) (s:aB.den):aB.den:=if s.2.1=true then lc s (gO v s).1 else s
def dj (v:aQ.den):List aB.den->Int
 |[]=>0
 |s::l=>if s.2.1=true then (if (gO v s).2=0 then dj v l else (gO v s).2) else dj v l
structure InvO (n i:Int) (l:List aB.den):Prop where
 i0:0<=i
 il:i<=n
 nl:n=l.length
 few:l.length<=1000000
def ca (l:List aB.den) (e:Int):Fr vd.Out:=Jb (e != 0) (Jv (Rd.back (([],e,()),()))) (Jv (Rd.out ((),(l,()))))
def FO (x:MO.X):Fr vd.Out:=
 let n:Int:=x.1.1; let i:Int:=x.1.2.1; let l:List aB.den:=x.2.1; let v:aQ.den:=x.2.2.1
 Jd (InvO n i l) (ca (l.take i.toNat++(l.drop i.toNat).map (jP v)) (dj v (l.drop i.toNat)))
def qpv (n i:Int) (l:List aB.den) (v:aQ.den) (hinv:InvO n i l) (Q:vd.Out->Prop) (hq:(ca (l.take i.toNat++(l.drop i.toNat).map (jP v)) (dj v (l.drop i.toNat))).satP Q) :
  (fO ((n,i,()),(l,v,()))).satP λ
   |.next x'=>InvO x'.1.1 x'.1.2.1 x'.2.1/\((x'.1.1:Int)-x'.1.2.1).toNat<(n-i).toNat/\(FO x').satP Q
   |.out y=>Q (.out y)
   |.back z=>Q (.back z)
   |.pan p=>Q (.pan p):=by
 obtain⟨h0,h1,rfl,h2⟩:=hinv;obtain⟨i',rfl⟩:∃ n:Nat,i=n:=⟨i.toNat,by omega⟩;simp only[ucy] at hq;dsimp only[fO,Ty.den,PT.den];simp only[ucy];refine⟨λhi=>?_,λhi=>?_⟩
 ·have hlt:i'<l.length:=by have:(i':Int)<(l.length:Int):=ucv hi; omega
  have w:I6.wrap ((i':Int)+1)=(i'+1:Nat):=zv (by omega);rw[w];have hg:l.getD i' aB.dflt=l[i']:=by rw[uah,uap hlt]; rfl
  have hd:l.drop i'=l.getD i' aB.dflt::l.drop (i'+1):=by rw[hg]; exact ual hlt
  have hμ:((l.length:Int)-((i'+1:Nat):Int)).toNat<((l.length:Int)-(i':Int)).toNat:=by omega
  have hb:0<=(i':Int)/\(i':Int)<(l.length:Int):=⟨by omega,by omega⟩;rw[hd] at hq;generalize hs:l.getD i' aB.dflt=s at *;have htk:l.take (i'+1)=l.take i'++[s]:=by
   rw[hg];exact(uas hlt).symm
  refine⟨hb,hlt,λhoff=>?_,λhon=>⟨hb,hlt,λhe=>?_,λhe=>?_⟩⟩
  ·have hoff':¬ s.2.1=true:=by
    intro hx;rw[hx] at hoff;cases hoff
   have hI:InvO (l.length:Int) ((i'+1:Nat):Int) l:=⟨by omega,by omega,rfl,h2⟩;refine⟨hI,hμ,hI,?_⟩;have e1:dj v (s::l.drop (i'+1))=dj v (l.drop (i'+1)):=if_neg hoff';have e2:jP v s=s:=if_neg hoff';rw[e1,ueg,e2] at hq;show(ca (l.take (i'+1)++(l.drop (i'+1)).map (jP v)) (dj v (l.drop (i'+1)))).satP Q;rw[htk,ucp];exact hq
  ·have hon':s.2.1=true:=by
    cases hx:s.2.1 with
    |true=>rfl
    |false=>rw[hx] at hon; cases hon
   have he':¬ (gO v s).2=0:=uff.1 he;have e1:dj v (s::l.drop (i'+1))=(gO v s).2:=by
    unfold dj;rw[if_pos hon',if_neg he']
   rw[e1] at hq;exact hq.1 he
  ·have hon':s.2.1=true:=by
    cases hx:s.2.1 with
    |true=>rfl
    |false=>rw[hx] at hon; cases hon
   have he':(gO v s).2=0:=by
    have:((gO v s).2 != 0)=false:=he;simpa using this
   have hlen:(l.set i' (lc s (gO v s).1)).length=l.length:=udk;have hI:InvO (l.length:Int) ((i'+1:Nat):Int) (l.set i' (lc s (gO v s).1)):=⟨by omega,by omega,by rw[hlen],by rw[hlen]; exact h2⟩;refine⟨hI,hμ,hI,?_⟩;have e1:dj v (s::l.drop (i'+1))=dj v (l.drop (i'+1)):=by
    conv=>lhs; unfold dj
    rw[if_pos hon',if_pos he']
   have e2:jP v s=lc s (gO v s).1:=if_pos hon';rw[e1,ueg,e2] at hq;show(ca ((l.set i' (lc s (gO v s).1)).take (i'+1)++((l.set i' (lc s (gO v s).1)).drop (i'+1)).map (jP v)) (dj v ((l.set i' (lc s (gO v s).1)).drop (i'+1)))).satP Q;have e3:(l.set i' (lc s (gO v s).1)).drop (i'+1)=l.drop (i'+1):=List.drop_set_of_lt (by omega);have e4:(l.set i' (lc s (gO v s).1)).take (i'+1)=l.take i'++[lc s (gO v s).1]:=by
    rw[List.take_add_one,List.take_set_of_le (by omega)];simp[hlt]
   rw[e3,e4,ucp];exact hq
 ·have hge:¬ i'<l.length:=by have:¬ (i':Int)<(l.length:Int):=ucf hi; omega
  rw[ua1 (by omega),ua2 (by omega)] at hq;have hq':=hq.2 rfl;simp at hq';exact hq'
def qq3:ae prog (.loop (au f65 0)) MO vd FO:=by
 refine ae.loop qyz (μ:=λx=>((x.1.1:Int)-x.1.2.1).toNat) ?_ (λx Q h=>h.1);rintro⟨⟨n,i,_⟩,l,v,_⟩ hinv Q hq;exact qpv n i l v hinv Q hq.2
def I2 (v:aQ.den) (l:List aB.den):Fr (aa [zel,i64]):=
 let a:=l.drop (0:Int).toNat;Jd (InvO l.length 0 l) (Jb (dj v a != 0) (Jv ([],dj v a,())) (Jv (l.take (0:Int).toNat++a.map (jP v),0,())))
def ng (h:aC.den):aB.den×List aB.den:=lG (((bE h).drop (0:Int).toNat).map (bZ h)) ((h.2.2.1.1.1,0,()),true,h.2.2.1.2.1,[]++h.2.2.1.2.2.1,0,()) []
def qlc (x:ag [.d aC,.d b8]):Fr (aa [zel,i64]):=
 let c:=x.1.2.2.1;let b:=([]:List ak.den);let a:=G6.f (x.2.1,c.1.1,());Jb (!(Gr.f (x.1,())).1) (Jv ([],1,()))
  (Jd (bJ x.2.1)
   (Jb (a.2.1 != 0) (Jv ([],a.2.1,()))
    (Jd (b.length+c.2.2.1.length<=maxLen/\(b.length+c.2.2.1.length)*40<=140737488355328)
     (Jd (((aL x.1).length:Int)<=1000000)
      (Jd (InvC5 (bE x.1) ((bE x.1).length:Int) 0 x.1 [])
       (H6 (ng x.1).1 (ng x.1).2 c.1.2.1 (I2 a.1)))))))
def of_run:af prog 65 (bg [.d aC,.d b8] [zel,i64] qlc):=
 cS Mf qq3
def bL (h:aC.den):Prop:=(aL h).length<=500000/\h.2.2.1.2.2.1.length<=1000000/\∀ c∈aL h,c.2.2.2.2.1.length<=1000000
def c9 (h:aC.den) (t:b8.den):List aB.den×Int:=
 if ri h=true then
  (if (cq h.2.2.1.1.1 t.1.reverse).2=0 then
   (if dj (cq h.2.2.1.1.1 t.1.reverse).1 (eH h)=0 then ((eH h).map (jP (cq h.2.2.1.1.1 t.1.reverse).1),0) else ([],dj (cq h.2.2.1.1.1 t.1.reverse).1 (eH h)))
  else ([],(cq h.2.2.1.1.1 t.1.reverse).2))
 else ([],1)
def fN:Ct:=⟨[.d aC,.d b8],[zel,i64],λx=>((c9 x.1 x.2.1).1,(c9 x.1 x.2.1).2,()),λx=>[bL x.1,bJ x.2.1]⟩
def CO (h:aC.den):(bE h).length=(aL h).length:=by
 unfold bE;rw[mj,Kl]
def CR {h:aC.den} (hx:x∈bE h):0<=x/\x<((aL h).length:Int):=Km (yZ.1 hx)
def QO:(l:List az.den)->(s:aB.den)->(out:List aB.den)->(lG l s out).2.length<=out.length+l.length
 |[],_,_=>ue4 _
 |c::l,s,out=>by
  have h1:=QO l (Bl ((c.2.1,s.1.2.1,()),s.2) c) (mP s out c.2.1);have h2:=H5 s out c.2.1;simp only[lG,uc6];omega
def CN:af prog 65 fN:=
 cQ of_run _ _ (λw F x vs hr hok=>by
  obtain⟨h,t,_⟩:=x;obtain⟨⟨f1,f2,f3⟩,f4⟩:bL h/\bJ t:=hok;unfold c9;cases hh:ri h with
  |false=>
   refine aZ ?_ ⟨uT,rfl⟩;show(!(ri h))=true;rw[hh];rfl
  |true=>
   refine aR ?_ (aF f4 ?_)
   ·show(!(ri h))=false;rw[hh];rfl
   ·by_cases hv:(cq h.2.2.1.1.1 t.1.reverse).2=0
    ·rw[if_pos hv];refine aR ?_ (aF ?_ (aF ?_ (aF ?_ ?_)))
     ·show((cq h.2.2.1.1.1 t.1.reverse).2 != 0)=false;rw[hv];rfl
     ·show([]:List ak.den).length+h.2.2.1.2.2.1.length<=maxLen/\(([]:List ak.den).length+h.2.2.1.2.2.1.length)*40<=140737488355328;simp;exact⟨by unfold maxLen; omega,by omega⟩
     ·show((aL h).length:Int)<=1000000;omega
     ·show InvC5 (bE h) ((bE h).length:Int) 0 h [];exact⟨ue5 _,ub2 _,rfl,by rw[CO]; exact f1,λx hx=>CR hx,f3,ue5 _⟩
     ·have hgo:(ng h).2.length<=500000:=by
       have:=QO (((bE h).drop (0:Int).toNat).map (bZ h)) ((h.2.2.1.1.1,0,()),true,h.2.2.1.2.1,[]++h.2.2.1.2.2.1,0,()) [];have e:(((bE h).drop (0:Int).toNat).map (bZ h)).length=(aL h).length:=by
        rw[udy];exact CO h
       rw[e] at this;have h2:(ng h).2.length<=0+(aL h).length:=this;omega
      have hcut:mP (ng h).1 (ng h).2 h.2.2.1.1.2.1=eH h:=rfl;have hclen:(eH h).length<=1000000:=by
       rw[<- hcut];have:=H5 (ng h).1 (ng h).2 h.2.2.1.1.2.1;omega
      have hkey:(I2 (cq h.2.2.1.1.1 t.1.reverse).1 (eH h)).ok/\(I2 (cq h.2.2.1.1.1 t.1.reverse).1 (eH h)).get=((if dj (cq h.2.2.1.1.1 t.1.reverse).1 (eH h)=0 then ((eH h).map (jP (cq h.2.2.1.1.1 t.1.reverse).1),(0:Int)) else ([],dj (cq h.2.2.1.1.1 t.1.reverse).1 (eH h))).1,(if dj (cq h.2.2.1.1.1 t.1.reverse).1 (eH h)=0 then ((eH h).map (jP (cq h.2.2.1.1.1 t.1.reverse).1),(0:Int)) else ([],dj (cq h.2.2.1.1.1 t.1.reverse).1 (eH h))).2,()):=by
       refine aF ⟨ue5 _,ub2 _,rfl,hclen⟩ ?_;by_cases he:dj (cq h.2.2.1.1.1 t.1.reverse).1 (eH h)=0
       ·rw[if_pos he];refine aR ?_ ⟨uT,rfl⟩;show(dj (cq h.2.2.1.1.1 t.1.reverse).1 (eH h) != 0)=false;rw[he];rfl
       ·rw[if_neg he];exact aZ (uff.2 he) ⟨uT,rfl⟩
      have hs:=P9 (out:=(ng h).2) (Q:=λy=>y=((if dj (cq h.2.2.1.1.1 t.1.reverse).1 (eH h)=0 then ((eH h).map (jP (cq h.2.2.1.1.1 t.1.reverse).1),(0:Int)) else ([],dj (cq h.2.2.1.1.1 t.1.reverse).1 (eH h))).1,(if dj (cq h.2.2.1.1.1 t.1.reverse).1 (eH h)=0 then ((eH h).map (jP (cq h.2.2.1.1.1 t.1.reverse).1),(0:Int)) else ([],dj (cq h.2.2.1.1.1 t.1.reverse).1 (eH h))).2,())) (by omega) (by
       exact nL hkey.1 hkey.2)
      exact cO hs
    ·rw[if_neg hv];refine aZ ?_ ⟨uT,rfl⟩;exact uff.2 hv)
abbrev dD:Ty:=.pair i64 (.pair i64 (.pair i64 (.pair i64 (.pair i64 (.pair i64 .unit)))))
def wR:Ct:=⟨[.d i64],[.bool],λx=>(decide (1<=x.1/\x.1<=1000000000),()),λ_=>[]⟩
def Ay:Ct:=⟨[.d i64],[.bool],λx=>(decide (1<=x.1/\x.1<=292194),()),λ_=>[]⟩
def Wl (n a b:Int):(bif decide (n>=a) then decide (n<=b) else false)=decide (a<=n/\n<=b):=by
 simp
def qne:af prog 165 wR:=
 flat (ps:=[.d i64]) (rs:=[.bool]) (aP (cs:=[]) (ps:=[]) aG trivial trivial) (fn:=f165) (fr:=λx=>Jv (bif decide (x.1>=1) then decide (x.1<=1000000000) else false,())) (0,()) (by kernel_rfl) (λx=>by kernel_rfl) _ _
  (λ_ _ x _ _ _=>⟨uT,ufn (Wl x.1 1 1000000000) rfl⟩)
def qe6:af prog 166 Ay:=
 flat (ps:=[.d i64]) (rs:=[.bool]) (aP (cs:=[]) (ps:=[]) aG trivial trivial) (fn:=f166) (fr:=λx=>Jv (bif decide (x.1>=1) then decide (x.1<=292194) else false,())) (0,()) (by kernel_rfl) (λx=>by kernel_rfl) _ _
  (λ_ _ x _ _ _=>⟨uT,ufn (Wl x.1 1 292194) rfl⟩)
def Bb (i p k l b e:Int):Bool:=decide (1<=i/\i<=1000000000)&&(decide (1<=p/\p<=1000000000)&&(decide (0<=e/\e<=1000000000)&&(decide (0<=k/\k<=7)&&(decide (1<=l/\l<=292194)&&decide (1<=b/\b<=292194)))))
def Gf:Ct:=⟨[.d dD],[.bool],λx=>(Bb x.1.1 x.1.2.1 x.1.2.2.1 x.1.2.2.2.1 x.1.2.2.2.2.1 x.1.2.2.2.2.2.1,()),λ_=>[]⟩
noncomputable def Xx:Cx:=cx [(165,wR),(166,Ay)] []
def Xy:CxOK prog Xx:=aP aG ⟨qne,qe6,uT⟩ trivial
def qlb (x:ag [.d dD]):Fr (aa [.bool]):=
 let c:dD.den:=x.1
 Jv (bif bif bif bif bif bif (wR.f (c.1,())).1 then (wR.f (c.2.1,())).1 else false then (bif c.2.2.2.2.2.1==0 then true else (wR.f (c.2.2.2.2.2.1,())).1) else false then decide (c.2.2.1>=0) else false then decide (c.2.2.1<=7) else false then (Ay.f (c.2.2.2.1,())).1 else false then (Ay.f (c.2.2.2.2.1,())).1 else false,())
def que (i p k l b e:Int):(bif bif bif bif bif bif decide (1<=i/\i<=1000000000) then decide (1<=p/\p<=1000000000) else false then (bif e==0 then true else decide (1<=e/\e<=1000000000)) else false then decide (k>=0) else false then decide (k<=7) else false then decide (1<=l/\l<=292194) else false then decide (1<=b/\b<=292194) else false)=Bb i p k l b e:=by
 have e1:(bif e==0 then true else decide (1<=e/\e<=1000000000))=decide (0<=e/\e<=1000000000):=by
  rw[udt];simp;omega
 have e2:decide (0<=k/\k<=7)=(decide (k>=0)&&decide (k<=7)):=by
  simp
 unfold Bb;rw[e1,e2];cases decide (1<=i/\i<=1000000000)<;>cases decide (1<=p/\p<=1000000000)<;>cases decide (0<=e/\e<=1000000000)<;>cases decide (k>=0)<;>cases decide (k<=7)<;>cases decide (1<=l/\l<=292194)<;>rfl
def qt3:af prog 118 Gf:=
 flat (ps:=[.d dD]) (rs:=[.bool]) Xy (fn:=f118) (fr:=qlb) (dD.dflt,()) (by kernel_rfl) (λx=>by kernel_rfl) _ _
  (λ_ _ x _ _ _=>by
   obtain⟨⟨i,p,k,l,b,e,_⟩,_⟩:=x;exact⟨uT,ufn (que i p k l b e) rfl⟩)
abbrev bn:Ty:=.pair i64 (.pair i64 (.pair i64 .unit))
abbrev ah:Ty:=.pair i64 (.pair i64 (.pair cn (.pair i64 (.pair i64 (.pair i64 (.pair i64 (.pair i64 .unit)))))))
abbrev factT:Ty:=.pair i64 (.pair i64 (.pair i64 (.pair i64 (.pair i64 (.pair dm (.pair az (.pair dD (.pair bn (.pair ah .unit)))))))))
abbrev jourT:Ty:=.pair b8 (.pair (.sl factT) .unit)
abbrev zjz:Ty:=.pair aC (.pair i64 .unit)
abbrev ar:Ty:=.pair dD (.pair (.sl bn) .unit)
abbrev aq:Ty:=.pair b8 (.pair (.sl zjz) (.pair (.sl ar) (.pair (.sl ah) (.pair i64 .unit))))
def gq (g:α->Bool):List α->Int->Option Int
 |[],_=>none
 |x::r,i=>if g x=true then some i else gq g r (i+1)
abbrev hZ (T:Ty):PT:=.fn [T] [.bool]
def wA (T:Ty):LS:=⟨[(0,.d (.sl T)),(1,hZ T),(7,.d i64),(8,.d i64)],[]⟩
def uY (T:Ty):Pt:=⟨19,0,wA T,⟨[],[]⟩,⟨[(4,.d i64)],[]⟩⟩
def PQ (T:Ty) (x:(wA T).X):Fr (uY T).Out:=
 match x with
 |((l,g,n,i,_),_)=>Jb (decide (i<n))
  (Jd (0<=i/\i<l.length)
   (Jb (g (l.getD i.toNat T.dflt,())).1 (Jv (Rd.back ((i,()),())))
    (Jv (Rd.next ((l,g,n,I6.wrap (i+1),()),())))))
  (Jv (Rd.out ((),())))
def sQ (l:List α) (n i:Int):Prop:=0<=i/\i<=n/\n=l.length/\n<=9223372036854775807
def MH (T:Ty) (x:(wA T).X):Fr (uY T).Out:=
 Jd (sQ x.1.1 x.1.2.2.1 x.1.2.2.2.1) (Jb (gq (λn=>(x.1.2.1 (n,())).1) (x.1.1.drop x.1.2.2.2.1.toNat) x.1.2.2.2.1).isSome
   (Jv (.back (((gq (λn=>(x.1.2.1 (n,())).1) (x.1.1.drop x.1.2.2.2.1.toNat) x.1.2.2.2.1).getD (-1),()),()))) (Jv (.out ((),()))))
def qpt (T:Ty) (l:List T.den) (g:aa [T]->aa [.bool]) (n i:Int) (hinv:sQ l n i) (Q:(uY T).Out->Prop) (hq:(Jb (gq (λn=>(g (n,())).1) (l.drop i.toNat) i).isSome (Jv (Rd.back (((gq (λn=>(g (n,())).1) (l.drop i.toNat) i).getD (-1),()),()))) (Jv (Rd.out ((),())))  : Fr (uY T).Out).satP Q) :
  (PQ T ((l,g,n,i,()),())).satP λ
   |.next x'=>sQ x'.1.1 x'.1.2.2.1 x'.1.2.2.2.1/\(x'.1.2.2.1-x'.1.2.2.2.1).toNat<(n-i).toNat/\(MH T x').satP Q
   |.out y=>Q (.out y)
   |.back z=>Q (.back z)
   |.pan p=>Q (.pan p):=by
 obtain⟨h1,h2,h3,h4⟩:=hinv;subst h3;refine⟨λhi=>?_,λhi=>?_⟩
 ·have hi':i<(l.length:Int):=ucv hi;obtain⟨k,rfl⟩:∃ k:Nat,i=k:=⟨i.toNat,by omega⟩;have hl:k<l.length:=by omega
  have g1:l.getD (k:Int).toNat T.dflt=l[k]:=by
   rw[show(k:Int).toNat=k by omega,uah,uap hl]; rfl
  have hw:I6.wrap ((k:Int)+1)=k+1:=IntWalk.i64_in _ (by omega);have hd:l.drop (k:Int).toNat=l[k]::l.drop (k+1):=by
   exact(ual hl)
  rw[hd] at hq;dsimp only[Fr.satP];rw[g1,hw];refine⟨⟨by omega,by omega⟩,λhb=>?_,λhb=>?_⟩
  ·have:gq (λn=>(g (n,())).1) (l[k]::l.drop (k+1)) k=some (k:Int):=if_pos hb;rw[this] at hq;exact hq.1 rfl
  ·have hb':¬ (g (l[k],())).1=true:=by rw[hb]; decide
   have:gq (λn=>(g (n,())).1) (l[k]::l.drop (k+1)) k=gq (λn=>(g (n,())).1) (l.drop (k+1)) (k+1):=if_neg hb';rw[this] at hq;have hI:sQ l l.length ((k:Int)+1):=⟨by omega,by omega,rfl,h4⟩;refine⟨hI,by omega,hI,?_⟩;exact hq
 ·have hi':¬ i<(l.length:Int):=ucf hi;have e:l.drop i.toNat=[]:=ua1 (by omega);rw[e] at hq;exact hq.2 rfl
def uE {p:Program} {b:Code} (T:Ty) (sem:ae p b (wA T) (uY T) (PQ T)):ae p (.loop b) (wA T) (uY T) (MH T):=by
 refine ae.loop sem (μ:=λx=>(x.1.2.2.1-x.1.2.2.2.1).toNat) ?_ (λx Q h=>h.1);rintro⟨⟨l,g,n,i,_⟩,_⟩ hinv Q hq;exact qpt T l g n i hinv Q hq.2
def ii (g:α->Bool) (l:List α):Int:=(gq g l 0).getD (-1)
def eE (T:Ty):Ct:=⟨[.d (.sl T),hZ T],[i64],λx=>(ii (λn=>(x.2.1 (n,())).1) x.1,()),λ_=>[]⟩
def oQ (T:Ty) (x:ag [.d (.sl T),hZ T]):Fr (aa [i64]):=Jd (sQ x.1 x.1.length 0) (Jb (gq (λn=>(x.2.1 (n,())).1) x.1 0).isSome (Jv ((gq (λn=>(x.2.1 (n,())).1) x.1 0).getD (-1),())) (Jv (-1,())))
def um {p:Program} {T:Ty} (h:af p f ⟨[.d (.sl T),hZ T],[i64],λx=>(oQ T x).get,λx=>[(oQ T x).ok]⟩):af p f (eE T):=
 conv h _ _ (λw F x vs hr _=>by
  obtain⟨l,g,_⟩:=x;obtain⟨v,vs',rfl,hv,_⟩:=hr;have hlen:=mv hv;have hI:sQ l l.length 0:=⟨by omega,by omega,rfl,hlen⟩;refine aF hI ?_;cases hf:gq (λn=>(g (n,())).1) l 0 with
  |some k=>exact aZ rfl ⟨uT,by show(k,())=_; unfold ii; rw[hf]; rfl⟩
  |none=>exact aR rfl ⟨uT,by show((-1:Int),())=_; unfold ii; rw[hf]; rfl⟩)
def Qx (g:α->Bool):(l:List α)->(i:Int)->0<=i->decide ((gq g l i).getD (-1)>=0)=l.any g
 |[],_,_=>rfl
 |x::r,i,h=>by
  unfold gq;simp;split
  ·rename_i hx;rw[hx];simp[h]
  ·rename_i hx;rw[Qx g r (i+1) (by omega)];simp[hx]
def Cl (g:α->Bool) (l:List α):decide (0<=ii g l)=l.any g:=Qx g l 0 (by omega)
def Qw (g:α->Bool):(l:List α)->(i k:Int)->gq g l i=some k->i<=k/\k<i+l.length/\∃ x,l[(k-i).toNat]? = some x/\g x=true
 |[],_,_,h=>nomatch h
 |x::r,i,k,h=>by
  unfold gq at h;split at h
  ·rename_i hx;cases h;exact⟨by omega,by simp; omega,x,by rw[show(i-i).toNat=0 by omega]; rfl,hx⟩
  ·obtain⟨h1,h2,y,h3,h4⟩:=Qw g r (i+1) k h;refine⟨by omega,by simp; omega,y,?_,h4⟩;rw[show(k-i).toNat=(k-(i+1)).toNat+1 by omega];exact h3
def xZ {g:α->Bool} {l:List α} (h:0<=ii g l):ii g l<l.length/\∃ x,l[(ii g l).toNat]? = some x/\g x=true:=by
 unfold ii at h |-;cases hf:gq g l 0 with
 |none=>rw[hf] at h; exact absurd h (by decide)
 |some k=>
  obtain⟨h1,h2,x,h3,h4⟩:=Qw g l 0 k hf;rw[uda];exact⟨by omega,x,by simpa using h3,h4⟩
def fA (T:Ty):Ct:=⟨[.d (.sl T),hZ T],[.bool],λx=>(x.1.any (λn=>(x.2.1 (n,())).1),()),λ_=>[]⟩
def R0:af prog 163 (eE zjz):=
 um (cS (fn:=f163) aH (uE zjz (ae.of_run aH (bs:=0) rfl rfl rfl (λ_=>aY _ 0) (λx=>by kernel_rfl))) (ps:=[.d (.sl zjz),hZ zjz]) (rs:=[i64]) (fr:=oQ zjz))
def IP:af prog 220 (eE ar):=
 um (cS (fn:=f220) aH (uE ar (ae.of_run aH (bs:=0) rfl rfl rfl (λ_=>aY _ 0) (λx=>by kernel_rfl))) (ps:=[.d (.sl ar),hZ ar]) (rs:=[i64]) (fr:=oQ ar))
def R1:af prog 152 (eE ah):=
 um (cS (fn:=f152) aH (uE ah (ae.of_run aH (bs:=0) rfl rfl rfl (λ_=>aY _ 0) (λx=>by kernel_rfl))) (ps:=[.d (.sl ah),hZ ah]) (rs:=[i64]) (fr:=oQ ah))
noncomputable def Yo:Cx:=cx [(220,eE ar)] []
def Yp:CxOK prog Yo:=aP aG ⟨IP,uT⟩ trivial
def NE:af prog 200 (fA ar):=
 conv (aS Yp f200 (fr:=λx=>Jv (decide (ii (λn=>(x.2.1 (n,())).1) x.1>=0),())) (ps:=[.d (.sl ar),hZ ar]) (rs:=[.bool])) _ _
  (λ_ _ x _ _ _=>⟨uT,ufn (Cl _ x.1) rfl⟩)
noncomputable def Yu:Cx:=cx [(152,eE ah)] []
def Yv:CxOK prog Yu:=aP aG ⟨R1,uT⟩ trivial
def Fu:af prog 104 (fA ah):=
 conv (aS Yv f104 (fr:=λx=>Jv (decide (ii (λn=>(x.2.1 (n,())).1) x.1>=0),())) (ps:=[.d (.sl ah),hZ ah]) (rs:=[.bool])) _ _
  (λ_ _ x _ _ _=>⟨uT,ufn (Cl _ x.1) rfl⟩)
section
open Go.Lib
def Cp:∃ i0 z,InsTy prog 78 129 3 i0 z 11 120:=
 have ⟨i0,h1,h2,h3,h4⟩:=ufg (show(prog.info? 129).map (λi=>(i.zero,i.size,i.bytes))=some (some (.agg #[.int .i64 0,.int .i64 0,.int .i64 0,.int .i64 0,.int .i64 0,.int .i64 0,.int .i64 0,.int .i64 0,.slice none 0 0,.slice none 0 0,.int .i64 0]),11,120) by kernel_rfl)
 ⟨i0,_,underlying78,underlying3,h1,h2,h3,h4,rfl,by decide⟩
def qnt:zV prog 269 129 11 120:=by
 intro w B n s v xs news hB hs hv h1 h63 hby;obtain⟨i0,z,T⟩:=Cp;obtain⟨vb,vc,v',w',rfl,hr',e3,e2,e4⟩:=T.fin hB hs hv h1 h63 hby;have hn:(n:Int)<=9223372036854775807:=by unfold maxLen at h63; omega
 go_enter func269,ntmps269
 rcases hs.2 with ⟨rfl,rfl⟩|⟨g,cap,cur,rfl,hbg,hg,hnc,hcm,hcs,htake⟩
 all_goals go_wp2_with (at_builtin; refine Lib.wpList_append_run _ rfl _ _ _ _ rfl _ _ rfl rfl _ _ (hr' _) ?_)
 all_goals (go_ret; exact⟨_,rfl,e3,e2,e4⟩)
def qnw:zX prog 269 129 11:=by
 intro w n i g cap vb vc cur xs news hi hg hcs hroom hcm htake vcur hvg hne hnl hvt hvc hvs h1x h1;obtain⟨i0,z,T⟩:=Cp;have hc63:cap<=9223372036854775807:=by unfold maxLen at hcm; omega
 obtain⟨hz2,hw1,hb1,htn,hin,_,hb3⟩:=ul hi (by omega);have hb2:¬ (cap=i+1):=by omega
 have hb4:¬ (cap=i):=by omega
 obtain⟨C1,C2,hcp1,hcp2,k2,k3⟩:=T.shift hi hg hcs hroom htake hvg hne hnl hvt h1x h1 (vc:=vc);have hov:∀ lb cb,(callFunc 271 #[.slice (some ⟨vb,0,none⟩) 1 vc,.slice (some ⟨g,(i+1)*11,none⟩) lb cb]).run prog w = .ok (.value (.bool false)) w:=λlb cb=>by
  rw[run_callFunc_extern func271 (by kernel_rfl) (by kernel_rfl) (by kernel_rfl) (e:=Extern.SlicesOverlaps.overlaps #[78,78] #[4]) (by kernel_rfl),
   Lib.run_overlaps_apart w 78 4 129 T.us 11 (λw=>by kernel_rfl) ⟨vb,0,none⟩ ⟨g,(i+1)*11,none⟩ 1 vc lb cb hne 129 129 vcur.size cur.size (by simp[World.shape?,hvg]) (by simp[World.shape?,hg]) (by omega) (by simp[World.frozen?,hvg]) (by simp[World.frozen?,hvg])]
  rfl
 go_enter func269,ntmps269
 go_wp2_with (simp only[hov])
 go_region_law (refine vX rfl _ _ 78 78 rfl _ _ (by simp[Act.eval,Act.put]) (by simp[Act.eval,Act.put]) (hcp1 _ _ _) ?_)
 go_wp2_with (at_builtin; refine nI _ rfl _ _ 78 78 rfl _ _ rfl rfl (hcp2 _ _) ?_)
 go_ret
 exact⟨C2,rfl,rfl,k2,k3⟩
def qnu:zW prog 269 129 11 120:=by
 intro w n i g cap vb vc cur xs news hi hg hcs hnc hroom htake vcur hvg hnl hvt h1x h1 h63 hby;obtain⟨i0,z,T⟩:=Cp;have hn63:n<=9223372036854775806:=by unfold maxLen at h63; omega
 obtain⟨hz2,hw1,hb1,htn,hin,hb3,_⟩:=ul hi hn63;obtain⟨G,ROW,C1,C2,hrz,hcpA,hcpB,hGn,hGm,hgr,hhe,k2,k3⟩:=T.grow hi hg hcs hnc hroom htake hvg hnl hvt h1x h1 h63 hby (vc:=vc);have hz3:(cap:Int)<(n:Int)+(1:Int):=by omega
 have hGi:¬ (G=i):=by omega
 have hGim:¬ (G=i+1):=by omega
 have hci:¬ (cap=i):=by omega
 have hG63:G<=9223372036854775807:=by unfold maxLen at hGm; omega
 go_enter func269,ntmps269
 go_wp2_with (first
  |(at_builtin; refine Lib.wpList_append_run _ rfl _ _ _ _ rfl _ _ rfl rfl _ _ (hrz _) ?_)
  |(at_builtin; refine nI _ rfl _ _ 78 78 rfl _ _ rfl rfl (hcpA _ _) ?_)
  |(at_builtin; refine nI _ rfl _ _ 78 78 rfl _ _ rfl rfl (hcpB _ _ _) ?_))
 go_region_law (refine vX rfl _ _ 78 78 rfl _ _ (by simp[Act.eval,Act.put]) (by simp[Act.eval,Act.put]) (hcpB _ _ _) ?_)
 go_wp2
 go_ret
 exact⟨G,C2,rfl,hgr,hhe,hGn,hGm,k2,k3⟩
def qnv:InsOK prog 269 129 zjz 120:=IY (enters_of func269 (by kernel_rfl) rfl) qnt qnu qnw
def qdp:CloneOK prog 270 129 zjz 120:=by
 refine⟨enters_of func270 (by kernel_rfl) rfl,λw n c A xs hnc hA hxl hxc h1 h63 hby=>?_⟩;obtain⟨i0,z,T⟩:=Cp;have hcmp:=T.nil w
 go_enter func270,ntmps270
 cases A with
 |none=>
  have h0:=hA rfl;subst h0;have hx:xs=[]:=uab (by simpa using hxl);subst hx
  go_wp2_with (simp only[hcmp])
  go_ret
  exact⟨_,rfl,⟨rfl,rfl,rfl,ue4 _,λ_ _ _=>rfl⟩,ucq _ _ _ _⟩
 |some ad=>
  obtain⟨v',w',hr',e3,e2⟩:=T.clone hxl (hxc ad rfl) h1 h63 hby (n:=n) (c:=c)
  go_wp2_with (first|(simp only[hcmp]; done)|simp only[hcmp]|(at_builtin; refine Lib.wpList_append_run _ rfl _ _ _ _ rfl _ _ rfl rfl _ _ (hr' _) ?_))
  go_ret
  exact⟨v',rfl,e3,e2⟩
def Cq:∃ i0 z,InsTy prog 79 146 3 i0 z 7 72:=
 have ⟨i0,h1,h2,h3,h4⟩:=ufg (show(prog.info? 146).map (λi=>(i.zero,i.size,i.bytes))=some (some (.agg #[.int .i64 0,.int .i64 0,.int .i64 0,.int .i64 0,.int .i64 0,.int .i64 0,.slice none 0 0]),7,72) by kernel_rfl)
 ⟨i0,_,underlying79,underlying3,h1,h2,h3,h4,rfl,by decide⟩
def qnx:zV prog 286 146 7 72:=by
 intro w B n s v xs news hB hs hv h1 h63 hby;obtain⟨i0,z,T⟩:=Cq;obtain⟨vb,vc,v',w',rfl,hr',e3,e2,e4⟩:=T.fin hB hs hv h1 h63 hby;have hn:(n:Int)<=9223372036854775807:=by unfold maxLen at h63; omega
 go_enter func286,ntmps286
 rcases hs.2 with ⟨rfl,rfl⟩|⟨g,cap,cur,rfl,hbg,hg,hnc,hcm,hcs,htake⟩
 all_goals go_wp2_with (at_builtin; refine Lib.wpList_append_run _ rfl _ _ _ _ rfl _ _ rfl rfl _ _ (hr' _) ?_)
 all_goals (go_ret; exact⟨_,rfl,e3,e2,e4⟩)
def qn0:zX prog 286 146 7:=by
 intro w n i g cap vb vc cur xs news hi hg hcs hroom hcm htake vcur hvg hne hnl hvt hvc hvs h1x h1;obtain⟨i0,z,T⟩:=Cq;have hc63:cap<=9223372036854775807:=by unfold maxLen at hcm; omega
 obtain⟨hz2,hw1,hb1,htn,hin,_,hb3⟩:=ul hi (by omega);have hb2:¬ (cap=i+1):=by omega
 have hb4:¬ (cap=i):=by omega
 obtain⟨C1,C2,hcp1,hcp2,k2,k3⟩:=T.shift hi hg hcs hroom htake hvg hne hnl hvt h1x h1 (vc:=vc);have hov:∀ lb cb,(callFunc 288 #[.slice (some ⟨vb,0,none⟩) 1 vc,.slice (some ⟨g,(i+1)*7,none⟩) lb cb]).run prog w = .ok (.value (.bool false)) w:=λlb cb=>by
  rw[run_callFunc_extern func288 (by kernel_rfl) (by kernel_rfl) (by kernel_rfl) (e:=Extern.SlicesOverlaps.overlaps #[79,79] #[4]) (by kernel_rfl),
   Lib.run_overlaps_apart w 79 4 146 T.us 7 (λw=>by kernel_rfl) ⟨vb,0,none⟩ ⟨g,(i+1)*7,none⟩ 1 vc lb cb hne 146 146 vcur.size cur.size (by simp[World.shape?,hvg]) (by simp[World.shape?,hg]) (by omega) (by simp[World.frozen?,hvg]) (by simp[World.frozen?,hvg])]
  rfl
 go_enter func286,ntmps286
 go_wp2_with (simp only[hov])
 go_region_law (refine vX rfl _ _ 79 79 rfl _ _ (by simp[Act.eval,Act.put]) (by simp[Act.eval,Act.put]) (hcp1 _ _ _) ?_)
 go_wp2_with (at_builtin; refine nI _ rfl _ _ 79 79 rfl _ _ rfl rfl (hcp2 _ _) ?_)
 go_ret
 exact⟨C2,rfl,rfl,k2,k3⟩
def qny:zW prog 286 146 7 72:=by
 intro w n i g cap vb vc cur xs news hi hg hcs hnc hroom htake vcur hvg hnl hvt h1x h1 h63 hby;obtain⟨i0,z,T⟩:=Cq;have hn63:n<=9223372036854775806:=by unfold maxLen at h63; omega
 obtain⟨hz2,hw1,hb1,htn,hin,hb3,_⟩:=ul hi hn63;obtain⟨G,ROW,C1,C2,hrz,hcpA,hcpB,hGn,hGm,hgr,hhe,k2,k3⟩:=T.grow hi hg hcs hnc hroom htake hvg hnl hvt h1x h1 h63 hby (vc:=vc);have hz3:(cap:Int)<(n:Int)+(1:Int):=by omega
 have hGi:¬ (G=i):=by omega
 have hGim:¬ (G=i+1):=by omega
 have hci:¬ (cap=i):=by omega
 have hG63:G<=9223372036854775807:=by unfold maxLen at hGm; omega
 go_enter func286,ntmps286
 go_wp2_with (first
  |(at_builtin; refine Lib.wpList_append_run _ rfl _ _ _ _ rfl _ _ rfl rfl _ _ (hrz _) ?_)
  |(at_builtin; refine nI _ rfl _ _ 79 79 rfl _ _ rfl rfl (hcpA _ _) ?_)
  |(at_builtin; refine nI _ rfl _ _ 79 79 rfl _ _ rfl rfl (hcpB _ _ _) ?_))
 go_region_law (refine vX rfl _ _ 79 79 rfl _ _ (by simp[Act.eval,Act.put]) (by simp[Act.eval,Act.put]) (hcpB _ _ _) ?_)
 go_wp2
 go_ret
 exact⟨G,C2,rfl,hgr,hhe,hGn,hGm,k2,k3⟩
def qnz:InsOK prog 286 146 ar 72:=IY (enters_of func286 (by kernel_rfl) rfl) qnx qny qn0
def qdr:CloneOK prog 287 146 ar 72:=by
 refine⟨enters_of func287 (by kernel_rfl) rfl,λw n c A xs hnc hA hxl hxc h1 h63 hby=>?_⟩;obtain⟨i0,z,T⟩:=Cq;have hcmp:=T.nil w
 go_enter func287,ntmps287
 cases A with
 |none=>
  have h0:=hA rfl;subst h0;have hx:xs=[]:=uab (by simpa using hxl);subst hx
  go_wp2_with (simp only[hcmp])
  go_ret
  exact⟨_,rfl,⟨rfl,rfl,rfl,ue4 _,λ_ _ _=>rfl⟩,ucq _ _ _ _⟩
 |some ad=>
  obtain⟨v',w',hr',e3,e2⟩:=T.clone hxl (hxc ad rfl) h1 h63 hby (n:=n) (c:=c)
  go_wp2_with (first|(simp only[hcmp]; done)|simp only[hcmp]|(at_builtin; refine Lib.wpList_append_run _ rfl _ _ _ _ rfl _ _ rfl rfl _ _ (hr' _) ?_))
  go_ret
  exact⟨v',rfl,e3,e2⟩
def Cr:∃ i0 z,InsTy prog 80 42 3 i0 z 9 72:=
 have ⟨i0,h1,h2,h3,h4⟩:=ufg (show(prog.info? 42).map (λi=>(i.zero,i.size,i.bytes))=some (some (.agg #[.int .i64 0,.int .i64 0,.int .i64 0,.int .i64 0,.int .i64 0,.int .i64 0,.int .i64 0,.int .i64 0,.int .i64 0]),9,72) by kernel_rfl)
 ⟨i0,_,underlying80,underlying3,h1,h2,h3,h4,rfl,by decide⟩
def qn4:zV prog 302 42 9 72:=by
 intro w B n s v xs news hB hs hv h1 h63 hby;obtain⟨i0,z,T⟩:=Cr;obtain⟨vb,vc,v',w',rfl,hr',e3,e2,e4⟩:=T.fin hB hs hv h1 h63 hby;have hn:(n:Int)<=9223372036854775807:=by unfold maxLen at h63; omega
 go_enter func302,ntmps302
 rcases hs.2 with ⟨rfl,rfl⟩|⟨g,cap,cur,rfl,hbg,hg,hnc,hcm,hcs,htake⟩
 all_goals go_wp2_with (at_builtin; refine Lib.wpList_append_run _ rfl _ _ _ _ rfl _ _ rfl rfl _ _ (hr' _) ?_)
 all_goals (go_ret; exact⟨_,rfl,e3,e2,e4⟩)
def qn7:zX prog 302 42 9:=by
 intro w n i g cap vb vc cur xs news hi hg hcs hroom hcm htake vcur hvg hne hnl hvt hvc hvs h1x h1;obtain⟨i0,z,T⟩:=Cr;have hc63:cap<=9223372036854775807:=by unfold maxLen at hcm; omega
 obtain⟨hz2,hw1,hb1,htn,hin,_,hb3⟩:=ul hi (by omega);have hb2:¬ (cap=i+1):=by omega
 have hb4:¬ (cap=i):=by omega
 obtain⟨C1,C2,hcp1,hcp2,k2,k3⟩:=T.shift hi hg hcs hroom htake hvg hne hnl hvt h1x h1 (vc:=vc);have hov:∀ lb cb,(callFunc 305 #[.slice (some ⟨vb,0,none⟩) 1 vc,.slice (some ⟨g,(i+1)*9,none⟩) lb cb]).run prog w = .ok (.value (.bool false)) w:=λlb cb=>by
  rw[run_callFunc_extern func305 (by kernel_rfl) (by kernel_rfl) (by kernel_rfl) (e:=Extern.SlicesOverlaps.overlaps #[80,80] #[4]) (by kernel_rfl),
   Lib.run_overlaps_apart w 80 4 42 T.us 9 (λw=>by kernel_rfl) ⟨vb,0,none⟩ ⟨g,(i+1)*9,none⟩ 1 vc lb cb hne 42 42 vcur.size cur.size (by simp[World.shape?,hvg]) (by simp[World.shape?,hg]) (by omega) (by simp[World.frozen?,hvg]) (by simp[World.frozen?,hvg])]
  rfl
 go_enter func302,ntmps302
 go_wp2_with (simp only[hov])
 go_region_law (refine vX rfl _ _ 80 80 rfl _ _ (by simp[Act.eval,Act.put]) (by simp[Act.eval,Act.put]) (hcp1 _ _ _) ?_)
 go_wp2_with (at_builtin; refine nI _ rfl _ _ 80 80 rfl _ _ rfl rfl (hcp2 _ _) ?_)
 go_ret
 exact⟨C2,rfl,rfl,k2,k3⟩
def qn5:zW prog 302 42 9 72:=by
 intro w n i g cap vb vc cur xs news hi hg hcs hnc hroom htake vcur hvg hnl hvt h1x h1 h63 hby;obtain⟨i0,z,T⟩:=Cr;have hn63:n<=9223372036854775806:=by unfold maxLen at h63; omega
 obtain⟨hz2,hw1,hb1,htn,hin,hb3,_⟩:=ul hi hn63;obtain⟨G,ROW,C1,C2,hrz,hcpA,hcpB,hGn,hGm,hgr,hhe,k2,k3⟩:=T.grow hi hg hcs hnc hroom htake hvg hnl hvt h1x h1 h63 hby (vc:=vc);have hz3:(cap:Int)<(n:Int)+(1:Int):=by omega
 have hGi:¬ (G=i):=by omega
 have hGim:¬ (G=i+1):=by omega
 have hci:¬ (cap=i):=by omega
 have hG63:G<=9223372036854775807:=by unfold maxLen at hGm; omega
 go_enter func302,ntmps302
 go_wp2_with (first
  |(at_builtin; refine Lib.wpList_append_run _ rfl _ _ _ _ rfl _ _ rfl rfl _ _ (hrz _) ?_)
  |(at_builtin; refine nI _ rfl _ _ 80 80 rfl _ _ rfl rfl (hcpA _ _) ?_)
  |(at_builtin; refine nI _ rfl _ _ 80 80 rfl _ _ rfl rfl (hcpB _ _ _) ?_))
 go_region_law (refine vX rfl _ _ 80 80 rfl _ _ (by simp[Act.eval,Act.put]) (by simp[Act.eval,Act.put]) (hcpB _ _ _) ?_)
 go_wp2
 go_ret
 exact⟨G,C2,rfl,hgr,hhe,hGn,hGm,k2,k3⟩
def qn6:InsOK prog 302 42 ah 72:=IY (enters_of func302 (by kernel_rfl) rfl) qn4 qn5 qn7
def qdu:CloneOK prog 303 42 ah 72:=by
 refine⟨enters_of func303 (by kernel_rfl) rfl,λw n c A xs hnc hA hxl hxc h1 h63 hby=>?_⟩;obtain⟨i0,z,T⟩:=Cr;have hcmp:=T.nil w
 go_enter func303,ntmps303
 cases A with
 |none=>
  have h0:=hA rfl;subst h0;have hx:xs=[]:=uab (by simpa using hxl);subst hx
  go_wp2_with (simp only[hcmp])
  go_ret
  exact⟨_,rfl,⟨rfl,rfl,rfl,ue4 _,λ_ _ _=>rfl⟩,ucq _ _ _ _⟩
 |some ad=>
  obtain⟨v',w',hr',e3,e2⟩:=T.clone hxl (hxc ad rfl) h1 h63 hby (n:=n) (c:=c)
  go_wp2_with (first|(simp only[hcmp]; done)|simp only[hcmp]|(at_builtin; refine Lib.wpList_append_run _ rfl _ _ _ _ rfl _ _ rfl rfl _ _ (hr' _) ?_))
  go_ret
  exact⟨v',rfl,e3,e2⟩
end
def pn (g:α->Int) (l:List α) (x:α):Int:=ii (λy=>decide (g y>g x)) l
def iT (g:α->Int) (l:List α) (x:α):List α:=kL (if pn g l x<0 then (l.length:Int) else pn g l x) l [x]
abbrev sW (T:Ty):List PT:=[.d (.sl T),.d T,.fn [T] [i64]]
def xE (T:Ty) (n:Nat) (x:ag (sW T)):Fr (aa [.sl T]):=
 let b:=x.2.2.1;let a:=(x.1.length:Int);Jd (∀ y:aa [T],fi [T] y->av ([]:List Prop)) (Jb (decide (pn (λy=>(b (y,())).1) x.1 x.2.1<0))
  (Jd (x.1.length<=maxLen) (Jd (x.1.length*n<=140737488355328) (Jd (0<=a/\a<=x.1.length) (Jd ([x.2.1].length=1) (Jd (x.1.length+1<=maxLen/\(x.1.length+1)*n<=140737488355328)
   (Jv (kL a x.1 [x.2.1],())))))))
  (Jd (x.1.length<=maxLen) (Jd (x.1.length*n<=140737488355328) (Jd (0<=pn (λy=>(b (y,())).1) x.1 x.2.1/\pn (λy=>(b (y,())).1) x.1 x.2.1<=x.1.length) (Jd ([x.2.1].length=1) (Jd (x.1.length+1<=maxLen/\(x.1.length+1)*n<=140737488355328)
   (Jv (kL (pn (λy=>(b (y,())).1) x.1 x.2.1) x.1 [x.2.1],()))))))))
def tx (T:Ty):Ct:=⟨sW T,[.sl T],λx=>(iT (λy=>(x.2.2.1 (y,())).1) x.1 x.2.1,()),λx=>[x.1.length<=100000]⟩
def Kg (T:Ty) (hn:n<=1000) (x:ag (sW T)) (hl:x.1.length<=100000):(xE T n x).ok/\(xE T n x).get=(iT (λy=>(x.2.2.1 (y,())).1) x.1 x.2.1,()):=by
 have h1:x.1.length<=maxLen:=by unfold maxLen; omega
 have h2:x.1.length*n<=140737488355328:=by
  have:x.1.length*n<=100000*1000:=uea hl hn;omega
 have h3:x.1.length+1<=maxLen/\(x.1.length+1)*n<=140737488355328:=by
  refine⟨by unfold maxLen; omega,?_⟩;have:(x.1.length+1)*n<=100001*1000:=uea (by omega) hn;omega
 refine aF (λ_ _=>uT) ?_;by_cases hp:pn (λy=>(x.2.2.1 (y,())).1) x.1 x.2.1<0
 ·exact aZ (ud6 hp) (aF h1 (aF h2 (aF ⟨by omega,by omega⟩ (aF rfl (aF h3 ⟨uT,by unfold iT; rw[if_pos hp]; rfl⟩)))))
 ·refine aR (udr hp) (aF h1 (aF h2 (aF ⟨by omega,?_⟩ (aF rfl (aF h3 ⟨uT,by unfold iT; rw[if_neg hp]; rfl⟩)))));exact uep (xZ (by unfold pn at hp; omega)).1
def zbz {i:Int} (a:0<=i) (b:i<(n:Int)):i.toNat<n:=by omega
abbrev wC (T:Ty):List PT:=[.d (.sl T),.d i64,.d T]
def BY (T:Ty) (n:Nat) (x:ag (wC T)):Fr (aa [.sl T]):=
 Jd (x.1.length<=maxLen) (Jd (x.1.length*n<=140737488355328) (Jd (0<=x.2.1/\x.2.1<(x.1.length:Int)) (Jd (x.2.1.toNat<x.1.length) (Jv (x.1.set x.2.1.toNat x.2.2.1,())))))
def AG (T:Ty):Ct:=⟨wC T,[.sl T],λx=>(x.1.set x.2.1.toNat x.2.2.1,()),λx=>[x.1.length<=100000,0<=x.2.1/\x.2.1<(x.1.length:Int)]⟩
def W5 (T:Ty) (hn:n<=1000) (x:ag (wC T)) (hl:x.1.length<=100000) (hi:0<=x.2.1/\x.2.1<(x.1.length:Int)):(BY T n x).ok/\(BY T n x).get=(x.1.set x.2.1.toNat x.2.2.1,()):=by
 obtain⟨l,i,y,_⟩:=x;have h1:l.length<=maxLen:=by unfold maxLen; exact uek hl (by decide)
 have h2:l.length*n<=140737488355328:=by
  have:l.length*n<=100000*1000:=uea hl hn;omega
 have h3:i.toNat<l.length:=zbz hi.1 hi.2;exact aF h1 (aF h2 (aF hi (aF h3 ⟨uT,rfl⟩)))
def j7 (T:Ty):Ct:=⟨[.d T,.pfn [T] [i64],.ptr T],[.bool],λx=>(decide ((x.2.1 (x.1,())).1>(x.2.1 (x.2.2.1,())).1),()),λ_=>[]⟩
def qwj:af prog 268 (j7 zjz):=
 conv (aS aH f268 (fr:=λx=>Jv (decide ((x.2.1 (x.1,())).1>(x.2.1 (x.2.2.1,())).1),())) (ps:=(j7 zjz).ps) (rs:=[.bool])) _ _ (λ_ _ _ _ _ _=>⟨uT,rfl⟩)
noncomputable def Yw:Cx:=l8 [(163,eE zjz),(268,j7 zjz)] [] [(270,.clone 129 zjz 120),(269,.ins 129 zjz 120)] (λ_ _ _ _=>none)
def Mi:CxOK prog Yw:=mI (cs:=[(163,eE zjz),(268,j7 zjz)]) (ps:=[]) (rs:=[(270,.clone 129 zjz 120),(269,.ins 129 zjz 120)]) aG ⟨R0,qwj,uT⟩ trivial ⟨qdp,qnv,uT⟩ (λ_ _ _ _ _ h=>(nomatch h))
def qwm:af prog 265 (tx zjz):=
 conv (aS Mi f265 (fr:=xE zjz 120) (ps:=sW zjz) (rs:=[.sl zjz])) _ _ (λ_ _ x _ _ h=>Kg zjz (by decide) x h)
def zc8:af prog 278 (AG zjz):=
 conv (aS Mi f278 (fr:=BY zjz 120) (ps:=wC zjz) (rs:=[.sl zjz])) _ _ (λ_ _ x _ _ h=>W5 zjz (by decide) x h.1 h.2)
def qwk:af prog 285 (j7 ar):=
 conv (aS aH f285 (fr:=λx=>Jv (decide ((x.2.1 (x.1,())).1>(x.2.1 (x.2.2.1,())).1),())) (ps:=(j7 ar).ps) (rs:=[.bool])) _ _ (λ_ _ _ _ _ _=>⟨uT,rfl⟩)
noncomputable def Yx:Cx:=l8 [(220,eE ar),(285,j7 ar)] [] [(287,.clone 146 ar 72),(286,.ins 146 ar 72)] (λ_ _ _ _=>none)
def Mj:CxOK prog Yx:=mI (cs:=[(220,eE ar),(285,j7 ar)]) (ps:=[]) (rs:=[(287,.clone 146 ar 72),(286,.ins 146 ar 72)]) aG ⟨IP,qwk,uT⟩ trivial ⟨qdr,qnz,uT⟩ (λ_ _ _ _ _ h=>(nomatch h))
def qwn:af prog 282 (tx ar):=
 conv (aS Mj f282 (fr:=xE ar 72) (ps:=sW ar) (rs:=[.sl ar])) _ _ (λ_ _ x _ _ h=>Kg ar (by decide) x h)
def zda:af prog 293 (AG ar):=
 conv (aS Mj f293 (fr:=BY ar 72) (ps:=wC ar) (rs:=[.sl ar])) _ _ (λ_ _ x _ _ h=>W5 ar (by decide) x h.1 h.2)
def qwl:af prog 301 (j7 ah):=
 conv (aS aH f301 (fr:=λx=>Jv (decide ((x.2.1 (x.1,())).1>(x.2.1 (x.2.2.1,())).1),())) (ps:=(j7 ah).ps) (rs:=[.bool])) _ _ (λ_ _ _ _ _ _=>⟨uT,rfl⟩)
noncomputable def Yy:Cx:=l8 [(152,eE ah),(301,j7 ah)] [] [(303,.clone 42 ah 72),(302,.ins 42 ah 72)] (λ_ _ _ _=>none)
def Yz:CxOK prog Yy:=mI (cs:=[(152,eE ah),(301,j7 ah)]) (ps:=[]) (rs:=[(303,.clone 42 ah 72),(302,.ins 42 ah 72)]) aG ⟨R1,qwl,uT⟩ trivial ⟨qdu,qn6,uT⟩ (λ_ _ _ _ _ h=>(nomatch h))
def qwo:af prog 298 (tx ah):=
 conv (aS Yz f298 (fr:=xE ah 72) (ps:=sW ah) (rs:=[.sl ah])) _ _ (λ_ _ x _ _ h=>Kg ah (by decide) x h)
abbrev db (s:aq.den):List zjz.den:=s.2.1
abbrev bq (s:aq.den):List ar.den:=s.2.2.1
abbrev jW (s:aq.den):List ah.den:=s.2.2.2.1
abbrev mg (s:aq.den):Int:=s.2.2.2.2.1
abbrev cC (f:factT.den):Int:=f.1
abbrev aU (f:factT.den):Int:=f.2.1
abbrev mU (f:factT.den):Int:=f.2.2.1
abbrev hH (f:factT.den):Int:=f.2.2.2.1
abbrev hN (f:factT.den):Int:=f.2.2.2.2.1
abbrev mV (f:factT.den):dm.den:=f.2.2.2.2.2.1
abbrev lF (f:factT.den):az.den:=f.2.2.2.2.2.2.1
abbrev fB (f:factT.den):dD.den:=f.2.2.2.2.2.2.2.1
abbrev mT (f:factT.den):bn.den:=f.2.2.2.2.2.2.2.2.1
abbrev fD (f:factT.den):ah.den:=f.2.2.2.2.2.2.2.2.2.1
abbrev nW (a:zjz.den):Int:=a.1.1
abbrev oR (g:ar.den):Int:=g.1.1
def gz (s:aq.den) (id:Int):Int:=ii (λa=>nW a==id) (db s)
def jH (s:aq.den) (id:Int):Int:=ii (λg=>oR g==id) (bq s)
def kj (s:aq.den) (id:Int):zjz.den×Bool:=if gz s id>=0 then ((db s).getD (gz s id).toNat zjz.dflt,true) else (zjz.dflt,false)
def FU:Ct:=⟨[.d zjz,.ptr i64],[.bool],λx=>(nW x.1==x.2.1,()),λ_=>[]⟩
def Gp:Ct:=⟨[.d ar,.ptr i64],[.bool],λx=>(oR x.1==x.2.1,()),λ_=>[]⟩
def ZZ:af prog 164 FU:=
 conv (aS aH f164 (fr:=λx=>Jv (nW x.1==x.2.1,())) (ps:=FU.ps) (rs:=[.bool])) _ _ (λ_ _ _ _ _ _=>⟨uT,rfl⟩)
def qkm:af prog 284 Gp:=
 conv (aS aH f284 (fr:=λx=>Jv (oR x.1==x.2.1,())) (ps:=Gp.ps) (rs:=[.bool])) _ _ (λ_ _ _ _ _ _=>⟨uT,rfl⟩)
noncomputable def Y0:Cx:=cx [(163,eE zjz),(220,eE ar),(164,FU),(284,Gp)] []
def Mk:CxOK prog Y0:=aP aG ⟨R0,IP,ZZ,qkm,uT⟩ trivial
abbrev sX:List PT:=[.d aq,.d i64]
def FV:Ct:=⟨sX,[i64],λx=>(gz x.1 x.2.1,()),λ_=>[]⟩
def Gq:Ct:=⟨sX,[i64],λx=>(jH x.1 x.2.1,()),λ_=>[]⟩
def N8:af prog 115 FV:=
 conv (aS Mk f115 (fr:=λx=>Jd (∀ y:aa [zjz],fi [zjz] y->av ([]:List Prop)) (Jv (gz x.1 x.2.1,()))) (ps:=sX) (rs:=[i64])) _ _ (λ_ _ _ _ _ _=>aF (λ_ _=>uT) ⟨uT,rfl⟩)
def Qq:af prog 281 Gq:=
 conv (aS Mk f281 (fr:=λx=>Jd (∀ y:aa [ar],fi [ar] y->av ([]:List Prop)) (Jv (jH x.1 x.2.1,()))) (ps:=sX) (rs:=[i64])) _ _ (λ_ _ _ _ _ _=>aF (λ_ _=>uT) ⟨uT,rfl⟩)
noncomputable def Y1:Cx:=cx [(115,FV),(281,Gq)] []
def Y2:CxOK prog Y1:=aP aG ⟨N8,Qq,uT⟩ trivial
def wN:Ct:=⟨sX,[zjz,.bool],λx=>((kj x.1 x.2.1).1,(kj x.1 x.2.1).2,()),λ_=>[]⟩
def NA:af prog 71 wN:=
 conv (aS Y2 f71 (fr:=λx=>Jb (decide (gz x.1 x.2.1>=0)) (Jd (0<=gz x.1 x.2.1/\gz x.1 x.2.1<((db x.1).length:Int)) (Jv ((db x.1).getD (gz x.1 x.2.1).toNat zjz.dflt,true,()))) (Jv (zjz.dflt,false,()))) (ps:=sX) (rs:=[zjz,.bool])) _ _ (λ_ _ x _ _ _=>by
  by_cases h:gz x.1 x.2.1>=0
  ·refine aZ (ud6 h) (aF ⟨h,(xZ h).1⟩ ⟨uT,?_⟩);show _=((kj x.1 x.2.1).1,(kj x.1 x.2.1).2,());unfold kj; rw[if_pos h]; rfl
  ·refine aR (udr h) ⟨uT,?_⟩;show _=((kj x.1 x.2.1).1,(kj x.1 x.2.1).2,());unfold kj; rw[if_neg h]; rfl)
def ym (t:b8.den):aq.den:=(t,[],[],[],0,())
def Gy:Ct:=⟨[.d b8],[aq],λx=>(ym x.1,()),λ_=>[]⟩
def qt7:af prog 31 Gy:=
 conv (aS aH f31 (fr:=λx=>Jv (ym x.1,())) (ps:=[.d b8]) (rs:=[aq])) _ _ (λ_ _ _ _ _ _=>⟨uT,rfl⟩)
def qc (n a b:Int):Bool:=bif decide (n>=a) then decide (n<=b) else false
def zc9 {n b:Int}:qc n a b=true↔a<=n/\n<=b:=by
 unfold qc;by_cases h:a<=n<;>simp[h]
abbrev N1:List PT:=[.d i64,.d i64,.d i64]
def gV:Ct:=⟨N1,[.bool],λx=>(qc x.1 x.2.1 x.2.2.1,()),λ_=>[]⟩
def W7:af prog 91 gV:=
 conv (aS aH f91 (fr:=λx=>Jv (qc x.1 x.2.1 x.2.2.1,())) (ps:=N1) (rs:=[.bool])) _ _ (λ_ _ _ _ _ _=>⟨uT,rfl⟩)
def A9:Ct:=⟨[.d dD],[ar],λx=>((x.1,[],()),()),λ_=>[]⟩
def T8:af prog 218 A9:=
 conv (aS aH f218 (fr:=λx=>Jv ((x.1,[],()),())) (ps:=[.d dD]) (rs:=[ar])) _ _ (λ_ _ _ _ _ _=>⟨uT,rfl⟩)
def uz (g:ar.den):Int:=match g.2.1.getLast? with
 |some a=>a.1
 |none=>g.1.2.2.2.2.1
def BV (g:ar.den):Fr (aa [i64]):=let a:=((List.length g.2.1):Int);Jb (decide (a>0)) (Jd (0<=I6.wrap (a-1)/\I6.wrap (a-1)<a) (Jv ((List.getD g.2.1 (I6.wrap (a-1)).toNat bn.dflt).1,()))) (Jv (g.1.2.2.2.2.1,()))
def qpi {c:dD.den} {l:List bn.den} (hlen:(l.length:Int)<=9223372036854775807):(BV (c,l,())).ok/\(BV (c,l,())).get=(uz (c,l,()),()):=by
 cases l with
 |nil=>exact aR rfl ⟨uT,rfl⟩
 |cons a r=>
  have hw:I6.wrap (((a::r).length:Int)-1)=r.length:=by
   rw[IntWalk.i64_in _ (by simp only[uc6] at hlen |-; omega)]; simp
  unfold BV;refine aZ (by simp) ?_;dsimp only;rw[hw];refine aF ⟨by omega,by simp only[uc6]; omega⟩ ⟨uT,?_⟩;show((List.getD (a::r) ((r.length:Int)).toNat bn.dflt).1,())=_;unfold uz;rw[uan,uah];have:((r.length:Int)).toNat=(a::r).length-1:=by simp
  rw[this,uap (by simp)];rfl
def A8:Ct:=⟨[.d ar],[i64],λx=>(uz x.1,()),λ_=>[]⟩
def qpg:af prog 231 A8:=
 conv (aS aH f231 (fr:=λx=>BV x.1) (ps:=[.d ar]) (rs:=[i64])) _ _ (λw F x vs hr _=>by
  obtain⟨⟨c,l,_⟩,_⟩:=x;obtain⟨v,vs',rfl,hv,_⟩:=hr;have h1:l.length<=maxLen:=(aA.wf hv.2.2).2.1.1;have hlen:(l.length:Int)<=9223372036854775807:=by
   unfold maxLen at h1;omega
  exact qpi hlen)
abbrev yL:Ty:=.pair i64 (.pair i64 .unit)
abbrev lW:Pt:=⟨24,0,⟨[(9,.d i64),(8,.d i64),(7,.d aK)],[.x 2 211 yL,.r 2 2 0]⟩,⟨[],[]⟩,⟨[(4,.d .bool)],[]⟩⟩
abbrev vR:Type:=ag []×cR [.x 2 211 yL,.r 2 2 0]
def wd (e:i64.den) (s:vR):Fr (vR ⊕ lW.R.X):=
 Jb (bif decide (e<s.2.1.1) then true else decide (e>s.2.1.2.1)) (Jv (.inr ((false,()),()))) (Jv (.inl ((),(s.2.1.1,s.2.1.2.1,()),())))
def pS (x:lW.M.X):Int×List i64.den×vR:=(x.1.1,x.1.2.2.1,x.1.2.2.2,x.2)
def Rf (x:lW.M.X):Prop:=x.1.2.1=(x.1.2.2.1.length:Int)
def qvn (s:vR):lW.E.X:=((),())
def qe1:vR:=(aW _,bN _)
def Hp:lW.R.X:=(aW _,bN _)
def qsx:ae prog (.loop (au f92 0)) lW.M lW (FL wd pS Rf qvn Rd.back qe1 Hp):=
 qf aH (λ_ _=>.n .o) i64.dflt (λx=>x.1.2.1) (λx s=>((I6.wrap (x.1.1+1),x.1.2.1,x.1.2.2.1,s.1),s.2)) (λ_ h=>h)
def vJ (y:lW.M.X):vR ⊕ lW.R.X:=dt wd ((pS y).2.1.drop (pS y).1.toNat) (pS y).2.2
def qu0 (y:lW.M.X):Prop:=jo wd ((pS y).2.1.drop (pS y).1.toNat) (pS y).2.2
def JM {step:T->σ->Fr (σ ⊕ ρ)}:(l:List T)->(∀ e∈l,∀ s,(step e s).ok)->(s:σ)->jo step l s
 |[],_,_=>trivial
 |e::l,h,s=>⟨h e uca s,by
   split
   ·exact JM l (λe he=>h e (ubh _ he)) _
   ·trivial⟩
def ID {step:T->σ->Fr (σ ⊕ ρ)} {I:σ->Prop} {p:T->Bool} {c:ρ} (h:∀ e s,I s->(step e s).get=if p e=true then .inl s else .inr c):(l:List T)->(s:σ)->I s->dt step l s=if l.all p=true then .inl s else .inr c
 |[],_,_=>rfl
 |e::l,s,hs=>by
  by_cases hp:p e=true
  ·simp only[dt,h e s hs,hp,if_true,uef,ueh];exact ID h l s hs
  ·simp only[dt,h e s hs,hp,ufl,uef,Bool.false_and,ub1]
def HY (x:ag [.d yL,.d aK]):Fr (aa [.bool]):=
 let a:=((0,((List.length x.2.1):Int),x.2.1,()),(x.1.1,x.1.2.1,()),());Jd (InL (Rf a) (pS a)) (Jd (qu0 a) (Jb (dF (vJ a)) (Jv (true,())) (Jv ((zej Hp (vJ a)).1.1,()))))
def qjx:af prog 92 (bg [.d yL,.d aK] [.bool] HY):=
 cS aH qsx
def rf (a b:Int) (l:List Int):Bool:=l.all λx=>decide (a<=x)&&decide (x<=b)
def gk:Ct:=⟨[.d yL,.d aK],[.bool],λx=>(rf x.1.1 x.1.2.1 x.2.1,()),λ_=>[]⟩
def qnc (a b:Int) (l:List Int):dt wd l ((),(a,b,()),())=if rf a b l=true then .inl ((),(a,b,()),()) else .inr ((false,()),()):=
 ID (I:=λs=>s=((),(a,b,()),())) (λe s hs=>by
  subst hs;by_cases h1:e<a
  ·rw[if_neg (by simp; omega)];exact if_pos (by simp[h1])
  ·by_cases h2:e>b
   ·rw[if_neg (by simp; omega)];exact if_pos (by simp[h2])
   ·rw[if_pos (by simp; omega)];exact if_neg (by simp; omega)) l _ rfl
def qnd:af prog 92 gk:=
 conv qjx _ _ (λw F x vs hr _=>by
  obtain⟨⟨a,b,_⟩,l,_⟩:=x;obtain⟨v,vs',rfl,hv,hr'⟩:=hr;obtain⟨v',vs'',rfl,hv',_⟩:=hr';have hlen:((List.length (α:=Int) l:Nat):Int)<=9223372036854775807:=mv hv';show(HY ((a,b,()),l,())).ok/\(HY ((a,b,()),l,())).get=(rf a b l,());refine aF ⟨rfl,ue5 _,ub2 _,hlen⟩ (aF (JM (step:=wd) _ (λe _ s=>⟨λ_=>uT,λ_=>uT⟩) _) ?_);have hg:vJ ((0,((List.length (α:=Int) l:Nat):Int),l,()),(a,b,()),())=if rf a b l=true then .inl ((),(a,b,()),()) else .inr ((false,()),()):=by
   show dt wd (List.drop 0 l) ((),(a,b,()),())=_;rw[ueb,qnc]
  cases hc:rf a b l
  ·rw[hc,if_neg (by decide)] at hg;refine aR (by show dF (vJ ((0,((List.length (α:=Int) l:Nat):Int),l,()),(a,b,()),()))=false; rw[hg]; rfl) ⟨uT,?_⟩;show((zej Hp (vJ ((0,((List.length (α:=Int) l:Nat):Int),l,()),(a,b,()),()))).1.1,())=_;rw[hg];rfl
  ·rw[hc,if_pos rfl] at hg;exact aZ (by show dF (vJ ((0,((List.length (α:=Int) l:Nat):Int),l,()),(a,b,()),()))=true; rw[hg]; rfl) ⟨uT,rfl⟩)
noncomputable def XL:Cx:=cx [(92,gk),(84,tv),(144,fM),(91,gV)] []
def s8:CxOK prog XL:=aP aG ⟨qnd,SK,oT,W7,uT⟩ trivial
abbrev ay:Ty:=.pair i64 (.pair i64 (.pair i64 (.pair i64 (.pair i64 .unit))))
def BJ (x:ag [.d ah]):Fr (aa [.bool]):=
 let l:=x.1.2.1;let g:=x.1.2.2.2;let m:=gk.f ((1,10000,()),[g.1],());let k:=decide (g.2.2.1>0);let h:=((gk.f ((0,0,()),[g.2.1,g.2.2.1,g.2.2.2.1],())).1,());let c:=((gk.f ((0,100,()),[g.2.2.2.1],())).1,());let b:=(false,());let a:=gk.f ((0,1000000000000000,()),[g.2.1,g.2.2.1],());Jb (!(gk.f ((1,1000000000,()),[x.1.1],())).1) (Jb true (Jv b) (Jb (l==1) (Jb m.1 (Jv h) (Jv b)) (Jb (l==2) (Jb (l==2) (Jb (g.1==0) (Jb a.1 (Jb k (Jv c) (Jv b)) (Jv b)) (Jv b)) (Jv b)) (Jb (l==3) (Jb (g.1==0) (Jb a.1 (Jb k (Jv c) (Jv b)) (Jv b)) (Jv b)) (Jv b))))) (Jb ((tv.f ((x.1.2.2.1.1,x.1.2.2.1.2.1,()),())).1==0) (Jb true (Jv b) (Jb (l==1) (Jb m.1 (Jv h) (Jv b)) (Jb (l==2) (Jb (l==2) (Jb (g.1==0) (Jb a.1 (Jb k (Jv c) (Jv b)) (Jv b)) (Jv b)) (Jv b)) (Jb (l==3) (Jb (g.1==0) (Jb a.1 (Jb k (Jv c) (Jv b)) (Jv b)) (Jv b)) (Jv b))))) (Jb (!(gk.f ((1,255,()),[g.2.2.2.2.1],())).1) (Jv b) (Jb (l==1) (Jb m.1 (Jv h) (Jv b)) (Jb (l==2) (Jb (l==2) (Jb (g.1==0) (Jb a.1 (Jb k (Jv c) (Jv b)) (Jv b)) (Jv b)) (Jv b)) (Jb (l==3) (Jb (g.1==0) (Jb a.1 (Jb k (Jv c) (Jv b)) (Jv b)) (Jv b)) (Jv b))))))
def qjw:af prog 55 (bg [.d ah] [.bool] BJ):=
 aS s8 f55
def xz (x:ag [.d ay]):Fr (aa [.bool]):=
 let a:=(false,());Jb (gk.f ((1,1000000000,()),[x.1.1],())).1 (Jb (gk.f ((0,1000000000,()),[x.1.2.1],())).1 (Jb (gk.f ((1,292194,()),[x.1.2.2.1],())).1 (Jb (gk.f ((0,7,()),[x.1.2.2.2.1],())).1 (Jv ((gk.f ((0,1000000000000000,()),[x.1.2.2.2.2.1],())).1,())) (Jv a)) (Jv a)) (Jv a)) (Jv a)
def qjv:af prog 103 (bg [.d ay] [.bool] xz):=
 aS s8 f103
def Qa (x:ag [.d dD]):Fr (aa [.bool]):=
 let a:=x.1.2.2;Jv (bif bif bif bif (gV.f (x.1.1,1,1000000000,())).1 then (gV.f (x.1.2.1,1,1000000000,())).1 else false then (gV.f (a.2.2.2.1,0,1000000000,())).1 else false then bif (gV.f (a.2.1,1,292194,())).1 then (gV.f (a.2.2.1,1,292194,())).1 else false else false then (gV.f (a.1,0,7,())).1 else false,())
def qih:af prog 53 (bg [.d dD] [.bool] Qa):=
 aS s8 f53
def B4 (x:ag [.d bn]):Fr (aa [.bool]):=
 let b:=gV.f (x.1.2.1,1,5,());let a:=gV.f (x.1.1,1,292194,());Jb (bif x.1.2.1==4 then true else x.1.2.1==5) (Jv (bif bif a.1 then b.1 else false then (gV.f (x.1.2.2.1,0,0,())).1 else false,())) (Jv (bif bif a.1 then b.1 else false then (gV.f (x.1.2.2.1,0,1000000000000000,())).1 else false,()))
def qii:af prog 54 (bg [.d bn] [.bool] B4):=
 aS s8 f54
def PZ (x:ag [.d factT]):Fr (aa [.bool]):=
 let a:=x.1.2.2.2.2.2;let h:=a.1.2.1;let g:=a.2.2;let k:=g.1.2.2;let c:=a.2.1.2.2.2;let b:=g.2.2.1.2;let l:=b.2.2.2;Jv (bif bif bif bif bif bif bif bif bif bif bif bif bif bif ((List.length c.2.1):Int)==0 then ((List.length a.1.2.2.1):Int)==0 else false then x.1.2.2.1==0 else false then x.1.2.2.2.1==0 else false then x.1.2.2.2.2.1==0 else false then a.1.1.1==0&&(a.1.1.2.1==0&&true) else false then h.1==0&&(h.2.1==0&&(h.2.2.1==0&&(h.2.2.2.1==0&&true))) else false then a.2.1.1==0 else false then a.2.1.2.1==0 else false then a.2.1.2.2.1==0 else false then c.2.2.1==0 else false then c.1.1==0&&(c.1.2.1==0&&(c.1.2.2.1==0&&(c.1.2.2.2.1==0&&true))) else false then g.1.1==0&&(g.1.2.1==0&&(k.1==0&&(k.2.1==0&&(k.2.2.1==0&&(k.2.2.2.1==0&&true))))) else false then g.2.1.1==0&&(g.2.1.2.1==0&&(g.2.1.2.2.1==0&&true)) else false then g.2.2.1.1==0&&(b.1==0&&(b.2.1.1==0&&(b.2.1.2.1==0&&true)&&(b.2.2.1==0&&(l.1==0&&(l.2.1==0&&(l.2.2.1==0&&(l.2.2.2.1==0&&true))))))) else false,())
def qie:af prog 50 (bg [.d factT] [.bool] PZ):=
 aS s8 f50
def Ql (x:ag [.d ah,.d i64,.d i64]):Fr (aa [i64]):=
 let a:=fM.f ((x.1.2.2.1.1,x.1.2.2.1.2.1,()),x.2.1,());Jd ((bif x.1.2.1 != 1 then true else !a.1)=false->¬x.2.2.1<0) (Jb (bif bif x.1.2.1 != 1 then true else !a.1 then true else I6.wrap ((BitVec.ofInt I6.bits (Int.fdiv x.1.2.2.2.2.2.2.2.1 (2 ^ min (Int.toNat x.2.2.1) I6.bits)) &&& BitVec.ofInt I6.bits 1).toNat:Int)==0) (Jv (0,())) (Jv (x.1.2.2.2.1,())))
def qjo:af prog 304 (bg [.d ah,.d i64,.d i64] [i64] Ql):=
 aS s8 f304
def Dv (t:ah.den):Bool:=(BJ (t,())).get.1
def yJ (l:ay.den):Bool:=(xz (l,())).get.1
def Oq (c:dD.den):Bool:=(Qa (c,())).get.1
def qz (a:bn.den):Bool:=(B4 (a,())).get.1
def Ak (f:factT.den):Bool:=(PZ (f,())).get.1
def CZ (t:ah.den) (day peril:Int):Int:=(Ql (t,day,peril,())).get.1
def iD:Ct:=⟨[.d ah],[.bool],λx=>(Dv x.1,()),λ_=>[]⟩
def lx:Ct:=⟨[.d ay],[.bool],λx=>(yJ x.1,()),λ_=>[]⟩
def wO:Ct:=⟨[.d dD],[.bool],λx=>(Oq x.1,()),λ_=>[]⟩
def tk:Ct:=⟨[.d bn],[.bool],λx=>(qz x.1,()),λ_=>[]⟩
def Av:Ct:=⟨[.d factT],[.bool],λx=>(Ak x.1,()),λ_=>[]⟩
def G3:Ct:=⟨[.d ah,.d i64,.d i64],[i64],λx=>(CZ x.1 x.2.1 x.2.2.1,()),λx=>[¬ x.2.2.1<0]⟩
def vF:af prog 55 iD:=conv qjw _ _ (λ_ _ x _ _ _=>⟨by show(BJ x).ok; unfold BJ; (repeat' first|exact trivial|(refine⟨λ_=>?_,λ_=>?_⟩)),rfl⟩)
def yK:af prog 103 lx:=conv qjv _ _ (λ_ _ x _ _ _=>⟨by show(xz x).ok; unfold xz; (repeat' first|exact trivial|(refine⟨λ_=>?_,λ_=>?_⟩)),rfl⟩)
def Ot:af prog 53 wO:=conv qih _ _ (λ_ _ x _ _ _=>⟨uT,rfl⟩)
def Oy:af prog 54 tk:=conv qii _ _ (λ_ _ x _ _ _=>⟨by show(B4 x).ok; unfold B4; (repeat' first|exact trivial|(refine⟨λ_=>?_,λ_=>?_⟩)),rfl⟩)
def qbh:af prog 50 Av:=conv qie _ _ (λ_ _ x _ _ _=>⟨uT,rfl⟩)
def qv9:af prog 304 G3:=conv qjo _ _ (λ_ _ x _ _ h=>⟨⟨λ_=>h,by (repeat' first|exact trivial|(refine⟨λ_=>?_,λ_=>?_⟩))⟩,rfl⟩)
section
open Go.Lib
abbrev aJ:Ty:=.pair i64 (.pair i64 (.pair i64 (.pair i64 (.pair i64 (.pair .bool .unit)))))
def yB {x:aJ.den} (hs:arr.size=aJ.size) (h:aA w F aJ x (λj u=>arr[j]? = some u)) :
  arr = #[.int .i64 x.1,.int .i64 x.2.1,.int .i64 x.2.2.1,.int .i64 x.2.2.2.1,.int .i64 x.2.2.2.2.1,.bool x.2.2.2.2.2.1]:=by
 obtain⟨h0,h1,h2,h3,h4,h5,_⟩:=h;refine ucg λj=>?_
 match j with
 |0=>exact h0.1
 |1=>exact h1.1
 |2=>exact h2.1
 |3=>exact h3.1
 |4=>exact h4.1
 |5=>exact h5
 |j+6=>
  rw[ua0 (by rw[hs]; show 6<=j+6; omega)];simp
def iv {x:aJ.den} (h0:inR .i64 x.1) (h1:inR .i64 x.2.1) (h2:inR .i64 x.2.2.1) (h3:inR .i64 x.2.2.2.1) (h4:inR .i64 x.2.2.2.2.1) :
  aA w F aJ x (λj u=>[Value.int .i64 x.1,.int .i64 x.2.1,.int .i64 x.2.2.1,.int .i64 x.2.2.2.1,.int .i64 x.2.2.2.2.1,.bool x.2.2.2.2.2.1][j]? = some u):=
 ⟨⟨rfl,h0⟩,⟨rfl,h1⟩,⟨rfl,h2⟩,⟨rfl,h3⟩,⟨rfl,h4⟩,rfl,uT⟩
def oS {y:aa [i64]} (h:dM w F [i64] y vs):vs=[.int .i64 y.1]/\inR .i64 y.1:=by
 obtain⟨v,vs',rfl,⟨_,hw,h3⟩,h4⟩:=h;subst h4;obtain⟨h5,h6⟩:v.cells[0]? = some (Value.int .i64 y.1)/\inR .i64 y.1:=h3;have hv:v.cells = #[v]:=by
  cases v<;>first|rfl|(exact absurd (hw.2 ⟨_,rfl⟩) (by decide))
 rw[hv] at h5;cases h5;exact⟨rfl,h6⟩
def qD (hg:w.heap[b]? = some (.cells arr ty (0,0))) (k:Nat):w.cell? ⟨b,k,none⟩=arr[k]? := by
 simp[World.cell?,hg]
def xV (hg:w.heap[b]? = some (.cells arr ty (0,0))) (k:Nat):w.frozen? ⟨b,k,none⟩=false:=by
 simp[World.frozen?,hg]
def qmu:UpdOK prog 172 aJ [i64] (λx y=>(y.1,x.2.1,x.2.2.1,x.2.2.2.1,x.2.2.2.2.1,x.2.2.2.2.2.1,())):=by
 refine⟨enters_of func172 (by kernel_rfl) rfl,λw F b ety arr x y vs hg hs ho hx hy=>?_⟩;obtain⟨rfl,hr⟩:=oS hy;have ha:=yB hs hx;subst ha
 go_enter func172,ntmps172
 have hc:=qD hg;have hf:=xV hg;obtain⟨h0,h1,h2,h3,h4,h5,_⟩:=hx
 go_wp2_with (simp only[hc,hf])
 first
  |exact⟨⟨_,rfl⟩,[.int .i64 y.1,.int .i64 x.2.1,.int .i64 x.2.2.1,.int .i64 x.2.2.2.1,.int .i64 x.2.2.2.2.1,.bool x.2.2.2.2.2.1],rfl,(uc0 w b 0 _ ety (0,0) _ hg).trans (by simp[wrap64,udc]),iv (x:=(y.1,x.2.1,x.2.2.1,x.2.2.2.1,x.2.2.2.2.1,x.2.2.2.2.2.1,())) (hr) (h1.2) (h2.2) (h3.2) (h4.2)⟩
  |exact⟨.tuple #[],[.int .i64 y.1,.int .i64 x.2.1,.int .i64 x.2.2.1,.int .i64 x.2.2.2.1,.int .i64 x.2.2.2.2.1,.bool x.2.2.2.2.2.1],rfl,rfl,(uc0 w b 0 _ ety (0,0) _ hg).trans (by simp[wrap64,udc]),iv (x:=(y.1,x.2.1,x.2.2.1,x.2.2.2.1,x.2.2.2.2.1,x.2.2.2.2.2.1,())) (hr) (h1.2) (h2.2) (h3.2) (h4.2)⟩
  |exact ue3 (v:=.tuple #[]) (uey rfl _ _ _) rfl ⟨⟨_,rfl⟩,[.int .i64 y.1,.int .i64 x.2.1,.int .i64 x.2.2.1,.int .i64 x.2.2.2.1,.int .i64 x.2.2.2.2.1,.bool x.2.2.2.2.2.1],rfl,(uc0 w b 0 _ ety (0,0) _ hg).trans (by simp[wrap64,udc]),iv (x:=(y.1,x.2.1,x.2.2.1,x.2.2.2.1,x.2.2.2.2.1,x.2.2.2.2.2.1,())) (hr) (h1.2) (h2.2) (h3.2) (h4.2)⟩
def qwa:UpdOK prog 173 aJ [i64] (λx y=>(x.1,I6.wrap (x.2.1+y.1),x.2.2.1,x.2.2.2.1,x.2.2.2.2.1,x.2.2.2.2.2.1,())):=by
 refine⟨enters_of func173 (by kernel_rfl) rfl,λw F b ety arr x y vs hg hs ho hx hy=>?_⟩;obtain⟨rfl,hr⟩:=oS hy;have ha:=yB hs hx;subst ha
 go_enter func173,ntmps173
 have hc:=qD hg;have hf:=xV hg;obtain⟨h0,h1,h2,h3,h4,h5,_⟩:=hx
 go_wp2_with (simp only[hc,hf])
 first
  |exact⟨⟨_,rfl⟩,[.int .i64 x.1,.int .i64 (I6.wrap (x.2.1+y.1)),.int .i64 x.2.2.1,.int .i64 x.2.2.2.1,.int .i64 x.2.2.2.2.1,.bool x.2.2.2.2.2.1],rfl,(uc0 w b 1 _ ety (0,0) _ hg).trans (by simp[wrap64,udc]),iv (x:=(x.1,I6.wrap (x.2.1+y.1),x.2.2.1,x.2.2.2.1,x.2.2.2.2.1,x.2.2.2.2.2.1,())) (h0.2) (gd .i64 _) (h2.2) (h3.2) (h4.2)⟩
  |exact⟨.tuple #[],[.int .i64 x.1,.int .i64 (I6.wrap (x.2.1+y.1)),.int .i64 x.2.2.1,.int .i64 x.2.2.2.1,.int .i64 x.2.2.2.2.1,.bool x.2.2.2.2.2.1],rfl,rfl,(uc0 w b 1 _ ety (0,0) _ hg).trans (by simp[wrap64,udc]),iv (x:=(x.1,I6.wrap (x.2.1+y.1),x.2.2.1,x.2.2.2.1,x.2.2.2.2.1,x.2.2.2.2.2.1,())) (h0.2) (gd .i64 _) (h2.2) (h3.2) (h4.2)⟩
  |exact ue3 (v:=.tuple #[]) (uey rfl _ _ _) rfl ⟨⟨_,rfl⟩,[.int .i64 x.1,.int .i64 (I6.wrap (x.2.1+y.1)),.int .i64 x.2.2.1,.int .i64 x.2.2.2.1,.int .i64 x.2.2.2.2.1,.bool x.2.2.2.2.2.1],rfl,(uc0 w b 1 _ ety (0,0) _ hg).trans (by simp[wrap64,udc]),iv (x:=(x.1,I6.wrap (x.2.1+y.1),x.2.2.1,x.2.2.2.1,x.2.2.2.2.1,x.2.2.2.2.2.1,())) (h0.2) (gd .i64 _) (h2.2) (h3.2) (h4.2)⟩
def qw5:UpdOK prog 174 aJ [i64] (λx y=>(x.1,x.2.1,x.2.2.1,I6.wrap (x.2.2.2.1+y.1),x.2.2.2.2.1,x.2.2.2.2.2.1,())):=by
 refine⟨enters_of func174 (by kernel_rfl) rfl,λw F b ety arr x y vs hg hs ho hx hy=>?_⟩;obtain⟨rfl,hr⟩:=oS hy;have ha:=yB hs hx;subst ha
 go_enter func174,ntmps174
 have hc:=qD hg;have hf:=xV hg;obtain⟨h0,h1,h2,h3,h4,h5,_⟩:=hx
 go_wp2_with (simp only[hc,hf])
 first
  |exact⟨⟨_,rfl⟩,[.int .i64 x.1,.int .i64 x.2.1,.int .i64 x.2.2.1,.int .i64 (I6.wrap (x.2.2.2.1+y.1)),.int .i64 x.2.2.2.2.1,.bool x.2.2.2.2.2.1],rfl,(uc0 w b 3 _ ety (0,0) _ hg).trans (by simp[wrap64,udc]),iv (x:=(x.1,x.2.1,x.2.2.1,I6.wrap (x.2.2.2.1+y.1),x.2.2.2.2.1,x.2.2.2.2.2.1,())) (h0.2) (h1.2) (h2.2) (gd .i64 _) (h4.2)⟩
  |exact⟨.tuple #[],[.int .i64 x.1,.int .i64 x.2.1,.int .i64 x.2.2.1,.int .i64 (I6.wrap (x.2.2.2.1+y.1)),.int .i64 x.2.2.2.2.1,.bool x.2.2.2.2.2.1],rfl,rfl,(uc0 w b 3 _ ety (0,0) _ hg).trans (by simp[wrap64,udc]),iv (x:=(x.1,x.2.1,x.2.2.1,I6.wrap (x.2.2.2.1+y.1),x.2.2.2.2.1,x.2.2.2.2.2.1,())) (h0.2) (h1.2) (h2.2) (gd .i64 _) (h4.2)⟩
  |exact ue3 (v:=.tuple #[]) (uey rfl _ _ _) rfl ⟨⟨_,rfl⟩,[.int .i64 x.1,.int .i64 x.2.1,.int .i64 x.2.2.1,.int .i64 (I6.wrap (x.2.2.2.1+y.1)),.int .i64 x.2.2.2.2.1,.bool x.2.2.2.2.2.1],rfl,(uc0 w b 3 _ ety (0,0) _ hg).trans (by simp[wrap64,udc]),iv (x:=(x.1,x.2.1,x.2.2.1,I6.wrap (x.2.2.2.1+y.1),x.2.2.2.2.1,x.2.2.2.2.2.1,())) (h0.2) (h1.2) (h2.2) (gd .i64 _) (h4.2)⟩
def qdw:UpdOK prog 175 aJ [i64] (λx y=>(x.1,x.2.1,x.2.2.1,x.2.2.2.1,x.2.2.2.2.1,false,())):=by
 refine⟨enters_of func175 (by kernel_rfl) rfl,λw F b ety arr x y vs hg hs ho hx hy=>?_⟩;obtain⟨rfl,hr⟩:=oS hy;have ha:=yB hs hx;subst ha
 go_enter func175,ntmps175
 have hc:=qD hg;have hf:=xV hg;obtain⟨h0,h1,h2,h3,h4,h5,_⟩:=hx
 go_wp2_with (simp only[hc,hf])
 first
  |exact⟨⟨_,rfl⟩,[.int .i64 x.1,.int .i64 x.2.1,.int .i64 x.2.2.1,.int .i64 x.2.2.2.1,.int .i64 x.2.2.2.2.1,.bool false],rfl,(uc0 w b 5 _ ety (0,0) _ hg).trans (by simp[wrap64,udc]),iv (x:=(x.1,x.2.1,x.2.2.1,x.2.2.2.1,x.2.2.2.2.1,false,())) (h0.2) (h1.2) (h2.2) (h3.2) (h4.2)⟩
  |exact⟨.tuple #[],[.int .i64 x.1,.int .i64 x.2.1,.int .i64 x.2.2.1,.int .i64 x.2.2.2.1,.int .i64 x.2.2.2.2.1,.bool false],rfl,rfl,(uc0 w b 5 _ ety (0,0) _ hg).trans (by simp[wrap64,udc]),iv (x:=(x.1,x.2.1,x.2.2.1,x.2.2.2.1,x.2.2.2.2.1,false,())) (h0.2) (h1.2) (h2.2) (h3.2) (h4.2)⟩
  |exact ue3 (v:=.tuple #[]) (uey rfl _ _ _) rfl ⟨⟨_,rfl⟩,[.int .i64 x.1,.int .i64 x.2.1,.int .i64 x.2.2.1,.int .i64 x.2.2.2.1,.int .i64 x.2.2.2.2.1,.bool false],rfl,(uc0 w b 5 _ ety (0,0) _ hg).trans (by simp[wrap64,udc]),iv (x:=(x.1,x.2.1,x.2.2.1,x.2.2.2.1,x.2.2.2.2.1,false,())) (h0.2) (h1.2) (h2.2) (h3.2) (h4.2)⟩
def qw9:UpdOK prog 176 aJ [i64] (λx y=>(x.1,x.2.1,x.2.2.1,x.2.2.2.1,x.2.2.2.2.1,true,())):=by
 refine⟨enters_of func176 (by kernel_rfl) rfl,λw F b ety arr x y vs hg hs ho hx hy=>?_⟩;obtain⟨rfl,hr⟩:=oS hy;have ha:=yB hs hx;subst ha
 go_enter func176,ntmps176
 have hc:=qD hg;have hf:=xV hg;obtain⟨h0,h1,h2,h3,h4,h5,_⟩:=hx
 go_wp2_with (simp only[hc,hf])
 first
  |exact⟨⟨_,rfl⟩,[.int .i64 x.1,.int .i64 x.2.1,.int .i64 x.2.2.1,.int .i64 x.2.2.2.1,.int .i64 x.2.2.2.2.1,.bool true],rfl,(uc0 w b 5 _ ety (0,0) _ hg).trans (by simp[wrap64,udc]),iv (x:=(x.1,x.2.1,x.2.2.1,x.2.2.2.1,x.2.2.2.2.1,true,())) (h0.2) (h1.2) (h2.2) (h3.2) (h4.2)⟩
  |exact⟨.tuple #[],[.int .i64 x.1,.int .i64 x.2.1,.int .i64 x.2.2.1,.int .i64 x.2.2.2.1,.int .i64 x.2.2.2.2.1,.bool true],rfl,rfl,(uc0 w b 5 _ ety (0,0) _ hg).trans (by simp[wrap64,udc]),iv (x:=(x.1,x.2.1,x.2.2.1,x.2.2.2.1,x.2.2.2.2.1,true,())) (h0.2) (h1.2) (h2.2) (h3.2) (h4.2)⟩
  |exact ue3 (v:=.tuple #[]) (uey rfl _ _ _) rfl ⟨⟨_,rfl⟩,[.int .i64 x.1,.int .i64 x.2.1,.int .i64 x.2.2.1,.int .i64 x.2.2.2.1,.int .i64 x.2.2.2.2.1,.bool true],rfl,(uc0 w b 5 _ ety (0,0) _ hg).trans (by simp[wrap64,udc]),iv (x:=(x.1,x.2.1,x.2.2.1,x.2.2.2.1,x.2.2.2.2.1,true,())) (h0.2) (h1.2) (h2.2) (h3.2) (h4.2)⟩
def gp:List (Int×TypeId):=[(1,153),(2,155),(3,157),(4,158),(5,160),(6,162),(7,199)]
def uO (k:Int):Value:=match cD gp k with
 |some ty=>.iface ty (.agg #[])
 |none=>.nilIface
def IM {k:Int} (h:k<1\/k>7):cD gp k=none:=by
 have:gp.find? (λx=>x.1==k)=none:=by
  rw[List.find?_eq_none];intro x hx;simp only[gp,uee,List.not_mem_nil,or_false] at hx;rcases hx with rfl|rfl|rfl|rfl|rfl|rfl|rfl<;>simp<;>omega
 unfold cD;rw[this];rfl
def yX {k:Int} (h:1<=k/\k<=7):k=1\/k=2\/k=3\/k=4\/k=5\/k=6\/k=7:=by omega
def qkz (k:Int) (R:Ending->World->Prop) (w:World) (hR:∀ o,R (.returned (uO k)) (w.alloc o)):Calls prog 49 #[.int .i64 k] w R:=by
 go_enter func49,ntmps49
 by_cases h1:k<1
 ·have hz:uO k = .nilIface:=by unfold uO; rw[IM (.inl h1)]
  rw[hz] at hR
  go_wp2
  exact hR _
 ·by_cases h2:k>7
  ·have hz:uO k = .nilIface:=by unfold uO; rw[IM (.inr h2)]
   rw[hz] at hR
   go_wp2
   exact hR _
  ·rcases yX (k:=k) (by omega) with rfl|rfl|rfl|rfl|rfl|rfl|rfl
   all_goals
    go_wp2
    exact hR _
def R2 {es:List (Int×TypeId)} {t:Ty} {x:Int×t.den} (h:cD es x.1=some ty) (hu:bu w F t x.2 u):bu w F (.ic es t) x (.iface ty u):=
 ⟨rfl,⟨λh=>(by cases h),λh=>(by obtain⟨_,h⟩:=h; cases h)⟩,.inl ⟨ty,u,h,rfl,hu⟩⟩
def Tb {es:List (Int×TypeId)} {t:Ty} {x:Int×t.den} (h:cD es x.1=none):bu w F (.ic es t) x .nilIface:=
 ⟨rfl,⟨λh=>(by cases h),λh=>(by obtain⟨_,h⟩:=h; cases h)⟩,.inr ⟨h,rfl⟩⟩
def Ui {t:Ty} {y:t.den} {o:Obj} (hF:∀ b,F b->b<w.heap.size) (h:bu w F t y v):fJ w F [t] (y,()) (.returned v) (w.alloc o):=
 ⟨v,F,rfl,(ufd _ w).alloc (ue4 _) _,λ_ h=>h,λb hb=>⟨.inl hb,by have:=hF b hb; simp; omega⟩,h.mono (λ_ h=>h) (λb hb=>uc8 _ _ _ (hF b hb))⟩
def Ry {k:Int} {u:Unit} (h:cJ prog w F [.d i64] (k,u) vs):vs=[.int .i64 k]/\inR .i64 k:=by
 obtain⟨v,vs',rfl,h1,h2⟩:=h;exact oS (w:=w) (F:=F) (y:=(k,())) ⟨v,vs',rfl,h1,h2⟩
def Gz:Ct:=⟨[.d i64],[.ic gp .unit],λx=>((x.1,()),()),λ_=>[]⟩
def qky:af prog 49 Gz:=by
 refine⟨enters_of func49 (by kernel_rfl) rfl,λw F xs vs hbd hr _=>?_⟩;obtain⟨k,_⟩:=xs;obtain⟨rfl,_⟩:=Ry hr;refine qkz k _ w λo=>Ui hbd ?_;unfold uO;split
 ·rename_i ty h;exact R2 h ⟨rfl,⟨λ_=>⟨_,rfl⟩,λ_=>rfl⟩,uT⟩
 ·rename_i h;exact Tb h
end
end Go.Proofs.YtmcjmjbeknbddaaGreat
