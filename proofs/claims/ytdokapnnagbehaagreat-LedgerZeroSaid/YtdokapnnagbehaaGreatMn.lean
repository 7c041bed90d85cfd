/-
  Parts of the proof, one behind the other.
-/
import Derived.Test.YtdokapnnagbehaaGreatMm
import Derived.Deep.RegionLaw
import Derived.LoopN
set_option linter.all false
set_option maxRecDepth 100000
set_option maxHeartbeats 4000000
open Option renaming some->U,none->V
open Bool renaming true->Z,false->Y
open Decidable renaming decide->J
open Go Go.RowKit
variable {T α σ ρ β:Type} {P:Program} {ad:Addr} {arr cs cur:Array Value} {f:FuncId} {x a y day:Int} {k:IntKind} {l:List Int} {xs vs news:List Value} {off i n b c d j B m len:Nat} {F F' K:Nat->Prop} {R g R':Nat->Value->Prop} {o:Oper} {p:Prop} {e ety t ty el:TypeId} {v u vx:Value} {w w' W' W:World}
namespace Go.Proofs.YtdokapnnagbehaaGreat
open Go Go.Ab Go.RowKit Go.Proofs Tryz
open Go.Ab.Fr renaming val->Jv,need->Jd,br->Jb
abbrev Cg:List MI:=[.y 9999 250 [(U 252,co)],.r 0 9999 (1000000+248),.r 10000 9999 0]
abbrev lV:Pt:=⟨23,0,⟨[(1,.d i64)],Cg⟩,⟨[],Cg⟩,⟨[],[]⟩⟩
abbrev kW:Pt:=⟨48,0,⟨[(7,.d i64),(2,.d i64),(1,.d i64)],Cg⟩,⟨[(7,.d i64),(1,.d i64)],Cg⟩,⟨[],[]⟩⟩
def zek(j:Int):Int:=I6.wrap ((I6.wrap (j-1)).tdiv 2)
def jK(l:bF)(i j:Int):Bool:=Jw (l.getD i.toNat co.dflt) (l.getD j.toNat co.dflt)
def qlq(x:lV.M.X):Fr lV.Out:=
 match x with
 |((j,_),((l,_),_))=>
  Jd ((2:Int)≠0) (Jb (zek j==j)
   (Jb Z (Jv (Rd.out ((),(l,()),()))) (Jd (inR l (zek j)) (Jd (inR l j) (Jv (Rd.next ((zek j,()),(gb l (zek j) j,()),()))))))
   (Jd (inR l j) (Jd (inR l (zek j)) (Jb (!jK l j (zek j)) (Jv (Rd.out ((),(l,()),())))
    (Jd (inR l (zek j)) (Jd (inR l j) (Jv (Rd.next ((zek j,()),(gb l (zek j) j,()),())))))))))
def g7(i:Int):Int:=I6.wrap (I6.wrap (2*i)+1)
def jc(i:Int):Int:=I6.wrap (g7 i+1)
def yo(i n:Int):Bool:=bif J (g7 i>=n)then Z else J (g7 i<0)
def xH(l:bF)(i n i0 j:Int):Fr kW.Out:=
 Jd (inR l j) (Jd (inR l i) (Jb (!jK l j i) (Jv (Rd.out ((i,i0,()),(l,()),()))) (Jd (inR l i) (Jd (inR l j) (Jv (Rd.next ((j,n,i0,()),(gb l i j,()),())))))))
def qlp(x:kW.M.X):Fr kW.Out:=
 match x with
 |((i,n,i0,_),((l,_),_))=>
  Jb (yo i n) (Jv (Rd.out ((i,i0,()),(l,()),())))
   (Jb (J (jc i<n)) (Jd (inR l (jc i)) (Jd (inR l (g7 i)) (Jb (jK l (jc i) (g7 i)) (xH l i n i0 (jc i)) (xH l i n i0 (g7 i)))))
    (Jb Y (xH l i n i0 (jc i)) (xH l i n i0 (g7 i))))
def qzb:ae prog (au f167 0) lV.M lV qlq:=dn sC
def qza:ae prog (au f168 0) kW.M kW qlp:=dn sC
def kO(l:bF)(j:Int):bF:=
 if zek j=j then l else if jK l j (zek j)=Z then (if _h:(zek j).toNat<j.toNat then kO (gb l (zek j) j) (zek j)else l)else l
termination_by j.toNat
def j9(l:bF)(i n:Int):Int:=if jc i<n/\jK l (jc i) (g7 i)=Z then jc i else g7 i
def iO(l:bF)(i n:Int):bF×Int:=
 if yo i n=Z then (l,i)else if jK l (j9 l i n) i=Z then (if _h:(n-j9 l i n).toNat<(n-i).toNat then iO (gb l i (j9 l i n)) (j9 l i n) n else (l,i))else (l,i)
termination_by (n-i).toNat
structure UpI (l:bF) (j:Int):Prop where
 at_:inR l j
 len:l.length<=1000000000
structure DnI (l:bF) (i n:Int):Prop where
 at_:inR l i
 n:n<=(l.length:Int)
 len:l.length<=1000000000
def Nc(x:lV.M.X):Fr lV.Out:=
 match x with
 |((j,_),((l,_),_))=>Jd (UpI l j) (Jv (Rd.out ((),(kO l j,()),())))
def Fe(x:kW.M.X):Fr kW.Out:=
 match x with
 |((i,n,i0,_),((l,_),_))=>Jd (DnI l i n) (Jv (Rd.out (((iO l i n).2,i0,()),((iO l i n).1,()),())))
def VX{i n c:Int}(h:i<c)(j:c<n):(n-c).toNat<(n-i).toNat:=by omega
def qv8{j:Int}(h:0<=j/\j<=4611686018427387903)(m:zek j≠j):zek j=(j-1)/2/\1<=j:=by
 have i:1<=j:=by
  by_cases h0:j=0;subst h0;exact absurd (by decide) m;omega
 refine⟨?_,i⟩;unfold zek;rw[show I6.wrap (j-1)=j-1 from cz (by omega),Int.tdiv_eq_ediv_of_nonneg (by omega)];exact cz (by omega)
def UpI.par{l:bF}{j:Int}(h:UpI l j)(m:zek j≠j):UpI l (zek j)/\(zek j).toNat<j.toNat:=by
 have q:=h.at_;have i:=h.len;obtain⟨e,h0⟩:=qv8 (j:=j) ⟨by omega,by omega⟩ m;exact⟨⟨by rw[e];omega,i⟩,by rw[e];omega⟩
def UpI.swap{l:bF}{i j k:Int}(h:UpI l k):UpI (gb l i j) k:=⟨by rw[inR,lg];exact h.at_,by rw[lg];exact h.len⟩
def DnI.swap{l:bF}{i j k n:Int}(h:DnI l k n):DnI (gb l i j) k n:=⟨by rw[inR,lg];exact h.at_,by rw[lg];exact h.n,by rw[lg];exact h.len⟩
def DnI.ch{l:bF}{i n:Int}(h:DnI l i n)(hc:yo i n=Y):DnI l (g7 i) n/\(jc i<n->DnI l (jc i) n)/\i<g7 i/\i<jc i/\g7 i<n:=by
 have u:=h.at_;have m:=h.len;have q:=h.n;have e1:g7 i=2*i+1:=by
  unfold g7;rw[show I6.wrap (2*i)=2*i from cz (by omega)];exact cz (by omega)
 have e2:jc i=2*i+2:=by
  unfold jc;rw[e1,show 2*i+1+1=2*i+2 by omega];exact cz (by omega)
 have j:g7 i<n:=by
  unfold yo at hc;by_cases t:g7 i>=n;rw[ud7 t]at hc;cases hc;omega
 refine⟨⟨by omega,q,m⟩,λt=>⟨by omega,q,m⟩,by omega,by omega,j⟩
def qse:ae prog (.loop (au f167 0)) lV.M lV Nc:=
 ae.loop qzb (inv:=λx=>UpI x.2.1.1 x.1.1) (μ:=λx=>x.1.1.toNat)
  (by
   rintro⟨⟨j,_⟩,⟨⟨l,_⟩,_⟩⟩ i Q hq;have hq:=hq.2;have i:UpI l j:=i;refine⟨by decide,λhb=>⟨λ_=>?_,λh=>(by cases h)⟩,λhb=>?_⟩;have e:zek j=j:=by simpa using hb
   rw[kO,if_pos e]at hq;exact hq;have e:zek j≠j:=by simpa using hb
   obtain⟨t,q⟩:=i.par e;rw[kO,if_neg e]at hq;refine⟨i.at_,t.at_,λu=>?_,λu=>⟨t.at_,i.at_,t.swap,q,t.swap,?_⟩⟩;have m:¬ jK l j (zek j)=true:=by simpa using u
   rw[if_neg m]at hq;exact hq;have m:jK l j (zek j)=true:=by simpa using u
   rw[if_pos m,dif_pos q]at hq;exact hq)
  (λx Q h=>h.1)
def qsd:ae prog (.loop (au f168 0)) kW.M kW Fe:=
 ae.loop qza (inv:=λx=>DnI x.2.1.1 x.1.1 x.1.2.1) (μ:=λx=>(x.1.2.1-x.1.1).toNat)
  (by
   rintro⟨⟨i,n,i0,_⟩,⟨⟨l,_⟩,_⟩⟩ j Q hq;have hq:=hq.2;have j:DnI l i n:=j;refine⟨λhb=>?_,λhb=>?_⟩;rw[iO,if_pos hb]at hq;exact hq;obtain⟨w,P,S,h4,W⟩:=j.ch hb;rw[iO,if_neg (by rw[hb];decide)]at hq;have key:∀ c:Int,j9 l i n=c->DnI l c n->i<c->c<n->(xH l i n i0 c).satP λ
     |.next t=>(DnI t.2.1.1 t.1.1 t.1.2.1)/\(t.1.2.1-t.1.1).toNat<(n-i).toNat/\(Fe t).satP Q
     |.out y=>Q (.out y)
     |.back z=>Q (.back z)
     |.pan p=>Q (.pan p):=λc hc u O H=>by
    rw[hc]at hq;have hm:(n-c).toNat<(n-i).toNat:=VX O H;refine⟨u.at_,j.at_,λN=>?_,λN=>⟨j.at_,u.at_,u.swap,hm,u.swap,?_⟩⟩;have q:¬ jK l c i=true:=by simpa using N
    rw[if_neg q]at hq;exact hq;have q:jK l c i=true:=by simpa using N
    rw[if_pos q,dif_pos hm]at hq;exact hq
   refine⟨λC=>?_,λC=>⟨λh=>(by cases h),λ_=>key _ ?_ w S W⟩⟩;have m:=ucw C;refine⟨(P m).at_,w.at_,λF=>key _ ?_ (P m) h4 m,λF=>key _ ?_ w S W⟩;exact if_pos ⟨m,F⟩;exact if_neg (λh=>by rw[F]at h;exact absurd h.2 (by decide));exact if_neg (λh=>absurd h.1 (ucg C)))
  (λx Q h=>h.1)
def Rt:Ht:=⟨248,250,252,co,[.d i64],[],λl x=>(kO l x.1,()),λl x=>[UpI l x.1]⟩
def Rq:Ht:=⟨248,250,252,co,[.d i64,.d i64],[.bool],λl x=>((iO l x.1 x.2.1).1,J ((iO l x.1 x.2.1).2>x.1),()),λl x=>[DnI l x.1 x.2.1]⟩
def qm9:SoundHt prog 167 Rt:=
 Bf (Ci sC (Λ:=λ_=>lV.han EW.Γ lV.M Nc) (fn:=f167) (pt:=248) (bt:=250) (e:=252) (T:=co) (ps:=[.d i64]) (rs:=[]) (fr:=λl x=>Jd (UpI l x.1) (Jv (kO l x.1,()))) (0,()) (by kernel_rfl)
  (λc E hc=>ea hc (by kernel_rfl) (b:=au f167 0) (by kernel_rfl) (ae.han sC rfl qse)) (λl x=>by kernel_rfl)) _ _ λ_ _ _ _ _ _ _ _ i=>⟨⟨i,uT⟩,rfl⟩
def qm3:SoundHt prog 168 Rq:=
 Bf (Ci sC (Λ:=λ_=>kW.han EW.Γ kW.M Fe) (fn:=f168) (pt:=248) (bt:=250) (e:=252) (T:=co) (ps:=[.d i64,.d i64]) (rs:=[.bool]) (fr:=λl x=>Jd (DnI l x.1 x.2.1) (Jv ((iO l x.1 x.2.1).1,J ((iO l x.1 x.2.1).2>x.1),()))) (0,0,()) (by kernel_rfl)
  (λc E hc=>ea hc (by kernel_rfl) (b:=au f168 0) (by kernel_rfl) (ae.han sC rfl qsd)) (λl x=>by kernel_rfl)) _ _ λ_ _ _ _ _ _ _ _ i=>⟨⟨i,uT⟩,rfl⟩
def qok(Q:co.den->Prop):(n:Nat)->(l:bF)->(j:Int)->j.toNat<=n->UpI l j->(∀ x∈l,Q x)->(kO l j).length=l.length/\∀ x∈kO l j,Q x:=λn=>by
 induction n with
 |zero=>
  intro l j F h i;rw[kO];split;exact⟨rfl,i⟩;rename_i m;have:=(h.par m).2;omega
 |succ n H=>
  intro l j F h i;rw[kO];split;exact⟨rfl,i⟩;rename_i m;obtain⟨q,u⟩:=h.par m;by_cases t:jK l j (zek j)=Z;rw[if_pos t,dif_pos u];obtain⟨w,C⟩:=H (gb l (zek j) j) (zek j) (by omega) q.swap (Ll q.at_ h.at_ i);exact⟨w.trans (lg _ _ _),C⟩;rw[if_neg t];exact⟨rfl,i⟩
def OD{l:bF}{i n:Int}(h:DnI l i n)(hc:yo i n=Y):DnI l (j9 l i n) n/\i<j9 l i n/\j9 l i n<n:=by
 obtain⟨m,q,t,u,w⟩:=h.ch hc;unfold j9;split;rename_i j;exact⟨q j.1,u,j.1⟩;exact⟨m,t,w⟩
def qoj(Q:co.den->Prop):(m:Nat)->(l:bF)->(i n:Int)->(n-i).toNat<=m->DnI l i n->(∀ x∈l,Q x)->(iO l i n).1.length=l.length/\∀ x∈(iO l i n).1,Q x:=λm=>by
 induction m with
 |zero=>
  intro l i n H h j;rw[iO];split;exact⟨rfl,j⟩;rename_i hc;have:=OD h (by simpa using hc);omega
 |succ m N=>
  intro l i n H h j;rw[iO];split;exact⟨rfl,j⟩;rename_i hc;obtain⟨q,u,w⟩:=OD h (by simpa using hc);by_cases t:jK l (j9 l i n) i=Z;rw[if_pos t,dif_pos (VX u w)];obtain⟨C,F⟩:=N (gb l i (j9 l i n)) (j9 l i n) n (by omega) q.swap (Ll h.at_ q.at_ j);exact⟨C.trans (lg _ _ _),F⟩;rw[if_neg t];exact⟨rfl,j⟩
noncomputable def ZX:FuncId->Option (Func×(Nat->St->Option Tr)):=cu [(317,(f317,bw)),(316,(f316,bw))]
noncomputable def KP:Nat->FuncId->List AV->St->Option Tr:=iS KH (iS (fU prog (cx [] []) ZX) (iS (ue (cx [] []).Γ 167 Rt) (ue (cx [] []).Γ 168 Rq)))
def ZL:gQ prog KP:=jN Ff (jN (gG kq (lk (by kernel_rfl) (lk (by kernel_rfl) qe))) (jN (Ch kq.ct qm9) (Ch kq.ct qm3)))
noncomputable def Zn:Cx:=cW [] [] KP
def M7:CxOK prog Zn:=cZ aG trivial trivial ZL
abbrev ug:Ty:=.ic [(1,252)] co
def fq(l:bF):Int:=I6.wrap ((l.length:Int)-1)
def yI(l:bF)(y:co.den):bF:=kO (l++[y]) (fq (l++[y]))
def iU(l:bF):bF:=(iO (gb l 0 (fq l)) 0 (fq l)).1
def iu(l:bF):bF:=(iU l).take (fq (iU l)).toNat
def po(l:bF):co.den:=(iU l).getD (fq (iU l)).toNat co.dflt
def qly(l:bF)(x:ag [.d ug]):Fr (bF×aa []):=
 Jd (cD [(1,252)] x.1.1=U 252) (Jd (l.length + [x.1.2].length<=maxLen/\(l.length + [x.1.2].length)*24<=140737488355328) (Jd (UpI (l++[x.1.2]) (fq (l++[x.1.2]))) (Jv (yI l x.1.2,()))))
def qlx(l:bF)(_:ag []):Fr (bF×aa [ug]):=
 let b:=fq l;let a:=((iU l).length:Int);Jd (inR l 0) (Jd (inR l b) (Jd (DnI (gb l 0 b) 0 b) (Jd (0<=fq (iU l)/\fq (iU l)<a) (Jd ((fq (iU l)).toNat<(iU l).length) (Jd (0<=fq (iU l)/\fq (iU l)<=a) (Jv (iu l,((1,po l),()))))))))
def yh{l:bF}(h:1<=l.length)(i:l.length<=1000001):fq l=(l.length:Int)-1:=cz (by omega)
def Up{l:bF}{y:co.den}(h:l.length<=1000000):UpI (l++[y]) (fq (l++[y])):=by
 have e:(l++[y]).length=l.length+1:=ub5;have i:=yh (l:=l++[y]) (by omega) (by omega);exact⟨by rw[i];omega,by omega⟩
def qwr{l:bF}{y:co.den}(h:l.length<=1000000)(Q:co.den->Prop)(q:∀ x∈l,Q x)(t:Q y):(yI l y).length=l.length+1/\∀ x∈yI l y,Q x:=by
 obtain⟨j,m⟩:=qok Q _ (l++[y]) (fq (l++[y])) (ue6 _) (Up h) (λx i=>by
  rcases udp.1 i with i|i
  exact q x i;rw[uce.1 i];exact t)
 exact⟨j.trans ub5,m⟩
def Uf{l:bF}(h:1<=l.length)(j:l.length<=1000000):DnI (gb l 0 (fq l)) 0 (fq l):=by
 have i:=yh h (by omega);refine⟨?_,?_,?_⟩;rw[inR,lg];omega;rw[lg];omega;rw[lg];omega
def Kh{l:bF}(h:1<=l.length)(i:l.length<=1000000)(Q:co.den->Prop)(q:∀ x∈l,Q x):(iU l).length=l.length/\∀ x∈iU l,Q x:=by
 have t:=yh h (by omega);obtain⟨j,m⟩:=qoj Q _ (gb l 0 (fq l)) 0 (fq l) (ue6 _) (Uf h i) (Ll (by omega) (by omega) q);exact⟨j.trans (lg _ _ _),m⟩
def Ug{l:bF}(h:1<=l.length)(i:l.length<=1000000):fq (iU l)=(l.length:Int)-1:=by
 have j:=(Kh h i (λ_=>True) (λ_ _=>uT)).1;rw[yh (by omega) (by omega),j]
def Uh{l:bF}(h:1<=l.length)(i:l.length<=1000000)(Q:co.den->Prop)(q:∀ x∈l,Q x):(iu l).length+1=l.length/\(∀ x∈iu l,Q x)/\Q (po l):=by
 obtain⟨u,j⟩:=Kh h i Q q;have m:=Ug h i;refine⟨?_,λx t=>j x (ubp t),?_⟩;unfold iu;rw[uc3,m];omega;unfold po;rw[m,uah,uaq (by omega)];exact j _ (udg _)
def Rs:Ht:=⟨248,250,252,co,[.d ug],[],λl x=>(yI l x.1.2,()),λl x=>[x.1.1=1,l.length<=1000000]⟩
def Rr:Ht:=⟨248,250,252,co,[],[ug],λl _=>(iu l,((1,po l),())),λl _=>[1<=l.length,l.length<=1000000]⟩
def qm7:SoundHt prog 119 Rs:=
 Bf (Ci M7 (Λ:=bw) (fn:=f119) (pt:=248) (bt:=250) (e:=252) (T:=co) (ps:=[.d ug]) (rs:=[]) (fr:=qly) ((1,co.dflt),()) (by kernel_rfl)
  (λc _ _=>aY c 0) (λl x=>by kernel_rfl)) _ _ λ_ _ l x _ _ _ _ i=>by
   obtain⟨j,m⟩:x.1.1=1/\l.length<=1000000:=i;have q:=ew;refine⟨⟨?_,?_,Up m,uT⟩,rfl⟩;rw[j];rfl;show l.length+1<=maxLen/\(l.length+1)*24<=140737488355328;have:(1000001:Nat)<=maxLen:=by decide
   omega
def qm6:SoundHt prog 121 Rr:=
 Bf (Ci M7 (Λ:=bw) (fn:=f121) (pt:=248) (bt:=250) (e:=252) (T:=co) (ps:=[]) (rs:=[ug]) (fr:=qlx) () (by kernel_rfl)
  (λc _ _=>aY c 0) (λl x=>by kernel_rfl)) _ _ λ_ _ l x _ _ _ _ m=>by
   obtain⟨i,j⟩:1<=l.length/\l.length<=1000000:=m;have q:=(Kh i j (λ_=>True) (λ_ _=>uT)).1;have t:=Ug i j;have u:=yh i (by omega);refine⟨⟨by omega,by omega,Uf i j,by omega,by omega,by omega,uT⟩,rfl⟩
noncomputable def KO:Nat->FuncId->List AV->St->Option Tr:=iS KH (iS (ue (cx [] []).Γ 119 Rs) (ue (cx [] []).Γ 121 Rr))
noncomputable def Zm:Cx:=cW [] [] KO
def EX:CxOK prog Zm:=cZ aG trivial trivial (jN Ff (jN (Ch kq.ct qm7) (Ch kq.ct qm6)))
abbrev FI:List MI:=[.y 11 250 [(U 252,co)],.r 3 11 0]
abbrev Dn:Pt:=⟨58,0,⟨[(14,.d i64),(13,.d i64),(12,.d (.sl ah))],FI⟩,⟨[],FI⟩,⟨[],[]⟩⟩
abbrev pw:Pt:=⟨58,3,⟨[],FI++[.o 7 3 i64]⟩,⟨[],[.o 7 3 i64]⟩,⟨[],[]⟩⟩
def Ki(s:bF)(a b c:Int):Fr bF:=Jd ((1:Int)=1) (Jd (s.length<=1000000) (Jv (yI s (a,b,c,()))))
def zn(_k:Int×(List ah.den))(b:Prop)(i:Int)(e:ah.den)(s:bF):Fr bF:=
 let a:=Ki s e.2.1 e.2.2.2.2.1 i;Jd b (Jb (e.2.1==1) (Ki s e.2.1 0 i) (Jb (e.2.1==2) (Jb (e.2.1==2) a (Jv s)) (Jb (e.2.1==3) a (Jv s))))
def ZD:Dn.M.X->Fr Dn.Out:=FG (λx=>(x.1.1,(x.1.2.1,x.1.2.2.1),x.2.1.1)) (λk=>k.1) (λk=>k.2) zn (λ_ s=>((),((s,()),())))
def qsq:ae prog (.loop (au f75 0)) Dn.M Dn ZD:=
 cN EX (λi k s=>((i,k.1,k.2,()),((s,()),()))) ah.dflt
def qlv(x:pw.M.X):Fr pw.Out:=
 match x with
 |(_,((l,_),o,_))=>Jb (J ((l.length:Int)>0))
   (Jd (1<=l.length) (Jd (l.length<=1000000) (Jd (cD [(1,252)] 1=U 252) (Jb Z
    (Jd (o.length + [(po l).2.2.1].length<=maxLen/\(o.length + [(po l).2.2.1].length)*8<=140737488355328) (Jv (Rd.next ((),(iu l,()),o++[(po l).2.2.1],()))))
    (Jv (Rd.next ((),(iu l,()),o,())))))))
   (Jv (Rd.out ((),o,())))
def qzh:ae prog (au f75 1) pw.M pw qlv:=dn EX
def rI:Nat->bF->List Int->List Int
 |0,_,o=>o
 |n+1,l,o=>rI n (iu l) (o++[(po l).2.2.1])
def ZE(x:pw.M.X):Fr pw.Out:=
 match x with
 |(_,((l,_),o,_))=>Jd (o.length+l.length<=1000000) (Jv (Rd.out ((),rI l.length l o,())))
def qsr:ae prog (.loop (au f75 1)) pw.M pw ZE:=
 ae.loop qzh (inv:=λx=>x.2.2.1.length+x.2.1.1.length<=1000000) (μ:=λx=>x.2.1.1.length)
  (by
   rintro⟨_,⟨⟨l,_⟩,o,_⟩⟩ i Q hq;have hq:=hq.2;have i:o.length+List.length l<=1000000:=i;refine⟨λhb=>?_,λhb=>?_⟩;have j:(List.length l:Int)>0:=ucw hb;have m:1<=List.length l:=by omega
   have q:List.length l<=1000000:=by omega
   obtain⟨t,_,_⟩:=Uh m q (λ_=>True) (λ_ _=>uT);have u:=ew;refine⟨m,q,rfl,λ_=>⟨?_,?_,?_,?_,?_⟩,λh=>(by cases h)⟩;show o.length+1<=maxLen/\(o.length+1)*8<=140737488355328;omega;show(o++[_]).length+(iu l).length<=1000000;rw[ub5];show o.length+1+(iu l).length<=1000000;omega;show(iu l).length<List.length l;omega;show(o++[_]).length+(iu l).length<=1000000;rw[ub5];show o.length+1+(iu l).length<=1000000;omega;have e:List.length l=(iu l).length+1:=t.symm;rw[e]at hq;exact hq;have j:¬ (List.length l:Int)>0:=ucg hb;have e:List.length l=0:=by omega
   rw[e]at hq;exact hq)
  (λx Q h=>h.1)
def C6(ts:List ah.den):Int×(List ah.den):=((ts.length:Int),ts)
def ud(ts:List ah.den):bF:=bO (zn (C6 ts) True) 0 ts []
def Qk(x:ag [.d (.sl ah)]):Fr (aa [aK]):=
 cI (InK (List.length x.1:Int) 0 (List.length x.1)) (bM (zn (C6 x.1) True) 0 x.1 []) (ud x.1) (λl=>Jd (([]:List Int).length+l.length<=1000000) (Jv (rI l.length l [],())))
def qjn:af prog 75 (bg [.d (.sl ah)] [aK] Qk):=
 oP EX qsq qsr (fn:=f75)
def JW(ts:List ah.den)(H:ts.length<=1000000):bM (zn (C6 ts) True) 0 ts []/\(ud ts).length<=ts.length/\∀ x∈ud ts,0<=x.2.2.1/\x.2.2.1<(ts.length:Int):=
 dk (step:=zn (C6 ts) True) (λi (s:bF)=>s.length<=i/\∀ x∈s,0<=x.2.2.1/\x.2.2.1<(ts.length:Int)) ts (λi e s F j=>by
  have hi:=eD F;have q:s.length<=1000000:=uel j.1 (by omega);have m:∀ a b:Int,(Ki s a b i).satP (λu=>u.length<=i+1/\∀ x∈u,0<=x.2.2.1/\x.2.2.1<(ts.length:Int)):=λa b=>by
   obtain⟨w,C⟩:=qwr (y:=(a,b,(i:Int),())) q (λx=>0<=x.2.2.1/\x.2.2.1<(ts.length:Int)) j.2 ⟨ub3 _,Int.ofNat_lt.2 hi⟩;exact⟨rfl,q,by rw[w];exact Nat.succ_le_succ j.1,C⟩
  have t:s.length<=i+1/\∀ x∈s,0<=x.2.2.1/\x.2.2.1<(ts.length:Int):=⟨Nat.le_succ_of_le j.1,j.2⟩;exact⟨uT,λ_=>m _ _,λ_=>⟨λ_=>⟨λ_=>m _ _,λ_=>t⟩,λ_=>⟨λ_=>m _ _,λ_=>t⟩⟩⟩) [] ⟨ue6 _,λ_ h=>(nomatch h)⟩
def Ue(Q:Int->Prop):(n:Nat)->(l:bF)->(o:List Int)->l.length=n->n<=1000000->(∀ x∈l,Q x.2.2.1)->(∀ x∈o,Q x)->∀ x∈rI n l o,Q x
 |0,_,_,_,_,_,j=>j
 |n+1,l,o,u,w,h,j=>by
  obtain⟨t,m,q⟩:=Uh (l:=l) (by omega) (by omega) (λx=>Q x.2.2.1) h;refine Ue Q n (iu l) _ (by omega) (by omega) m (λx i=>?_);rcases udp.1 i with i|i
  exact j x i;rw[uce.1 i];exact q
def Ud:(n:Nat)->(l:bF)->(o:List Int)->(rI n l o).length=o.length+n
 |0,_,_=>rfl
 |n+1,l,o=>by
  rw[rI,Ud n,ub5];show o.length+1+n=_;omega
def iE:Ct:=⟨[.d (.sl ah)],[aK],λx=>(Qk x).get,λx=>[List.length (α:=ah.den) x.1<=1000000]⟩
def qcv:af prog 75 iE:=bW qjn _ (λx hw i=>⟨gt hw.1.1,(JW x.1 i).1,by
 have h:=(JW x.1 i).2.1;have i:List.length x.1<=1000000:=i;show 0+(ud x.1).length<=1000000;omega,uT⟩)
def TB(ts:List ah.den)(i:ts.length<=1000000):(iE.f (ts,())).1.length<=ts.length/\∀ x∈(iE.f (ts,())).1,0<=x/\x<(ts.length:Int):=by
 obtain⟨_,j,m⟩:=JW ts i;refine⟨?_,Ue (λx=>0<=x/\x<(ts.length:Int)) _ (ud ts) [] rfl (uel j i) m (λ_ h=>(nomatch h))⟩;show(rI _ _ _).length<=_;rw[Ud];show 0+(ud ts).length<=_;omega
section
open Go.Shelf Go.Lib
def qn8:∃ i0 z,InsTy prog 95 101 3 i0 z 5 40:=
 have ⟨i0,j,m,q,t⟩:=ufi (show(prog.info? 101).map (λi=>(i.zero,i.size,i.bytes))=U (U (.agg #[.int .i64 0,.int .i64 0,.int .i64 0,.int .i64 0,.int .i64 0]),5,40) by kernel_rfl)
 ⟨i0,_,underlying95,underlying3,j,m,q,t,rfl,by decide⟩
def qds:CloneOK prog 74 101 ay 40:=by
 refine⟨enters_of func74 (by kernel_rfl) rfl,λw n c A xs N H j u F m q=>?_⟩;obtain⟨i0,z,T⟩:=qn8;have i:=T.nil w
 go_enter func74,ntmps74
 cases A with
 |none=>
  have h0:=H rfl;subst h0;have O:xs=[]:=uab (by simpa using j);subst O
  go_wp2_with (simp only[i])
  go_ret
  exact⟨_,rfl,⟨rfl,rfl,rfl,ue6 _,λ_ _ _=>rfl⟩,ucr _ _ _ _⟩
 |some ad=>
  obtain⟨P,w',t,C,e2⟩:=T.clone j (u ad rfl) F m q (n:=n) (c:=c)
  go_wp2_with (first|(simp only[i];done)|simp only[i]|(at_builtin;refine Lib.wpList_append_run _ rfl _ _ _ _ rfl _ _ rfl rfl _ _ (t _) ?_))
  go_ret
  exact⟨P,rfl,C,e2⟩
def qn9:∃ i0 z,InsTy prog 69 107 3 i0 z 2 16:=
 have ⟨i0,j,m,q,t⟩:=ufi (show(prog.info? 107).map (λi=>(i.zero,i.size,i.bytes))=U (U (.agg #[.int .i64 0,.int .i64 0]),2,16) by kernel_rfl)
 ⟨i0,_,underlying69,underlying3,j,m,q,t,rfl,by decide⟩
def qdt:CloneOK prog 59 107 bR 16:=by
 refine⟨enters_of func59 (by kernel_rfl) rfl,λw n c A xs N H j u F m q=>?_⟩;obtain⟨i0,z,T⟩:=qn9;have i:=T.nil w
 go_enter func59,ntmps59
 cases A with
 |none=>
  have h0:=H rfl;subst h0;have O:xs=[]:=uab (by simpa using j);subst O
  go_wp2_with (simp only[i])
  go_ret
  exact⟨_,rfl,⟨rfl,rfl,rfl,ue6 _,λ_ _ _=>rfl⟩,ucr _ _ _ _⟩
 |some ad=>
  obtain⟨P,w',t,C,e2⟩:=T.clone j (u ad rfl) F m q (n:=n) (c:=c)
  go_wp2_with (first|(simp only[i];done)|simp only[i]|(at_builtin;refine Lib.wpList_append_run _ rfl _ _ _ _ rfl _ _ rfl rfl _ _ (t _) ?_))
  go_ret
  exact⟨P,rfl,C,e2⟩
end
abbrev j8:Ty:=.sl dq
noncomputable def UE:List (FuncId×Row):=[(1000000000000+130,.rw 0 132),(74,.clone 101 ay 40)]
noncomputable def Mq:Cx:=l8 [(76,tE),(73,tF),(75,iE)] [] UE (λ_ _ _ _=>V)
def wz:CxOK prog Mq:=mI (cs:=[(76,tE),(73,tF),(75,iE)]) (ps:=[]) (rs:=UE) aG ⟨qcw,qc0,qcv,uT⟩ trivial ⟨uT,qds,uT⟩ (λ_ _ _ _ _ h=>(nomatch h))
abbrev CM:List MI:=[.o 8 101 ay,.o 9 (ed 130 0 132) j8]
abbrev rO:Pt:=⟨112,2,⟨[(56,.d i64),(55,.d i64),(54,.d aK),(36,.d i64),(35,.d i64),(34,.d aK),(0,.d (.sl ah)),(1,.d (.sl ay)),(11,.d i64),(10,.d (.sl ay))],.x 14 44 ah :: .r 14 14 0::CM⟩,⟨[(36,.d i64),(35,.d i64),(34,.d aK),(0,.d (.sl ah)),(1,.d (.sl ay)),(11,.d i64),(10,.d (.sl ay))],CM⟩,⟨[],[]⟩⟩
abbrev qos:Type:=Int×Int×List Int×List ah.den×List ay.den×Int×List ay.den
abbrev yd:Type:=Int×List Int×qos×ah.den
abbrev la:Type:=List ay.den×List (List dq.den)
def Ft(j:List ay.den)(i:Int):Int:=(j.getD i.toNat ay.dflt).2.2.2.2.1
def Lo(j:List ay.den)(i e:Int):Int:=if Ft j i<e then Ft j i else e
def Ju(j:List ay.den)(i v:Int):List ay.den:=
 j.set i.toNat ((j.getD i.toNat ay.dflt).1,(j.getD i.toNat ay.dflt).2.1,(j.getD i.toNat ay.dflt).2.2.1,(j.getD i.toNat ay.dflt).2.2.2.1,I6.wrap (Ft j i-v),())
def qty(out:List (List dq.den))(i:Int)(c:dq.den):List (List dq.den):=out.set i.toNat (out.getD i.toNat []++[c])
def Cm(n:Nat)(i:Int)(x:Fr la):Fr la:=Jd (0<=i/\i<(n:Int)) (Jd (i.toNat<n) x)
def pN(k:yd)(b:Prop)(i:Int)(e:i64.den)(s:la):Fr la:=
 let c:=Lo s.1 i e;let a:=s.2.getD i.toNat [];Jd b (Cm s.1.length i (Cm s.1.length i (Cm s.1.length i
  (Jb (J (Lo s.1 i e>0))
   (Cm s.2.length i (Jd (a.length+1<=maxLen/\(a.length+1)*16<=140737488355328) (Jd (0<=i/\i<(s.2.length:Int)) (Jd (i.toNat<s.2.length/\i.toNat=i.toNat)
    (Jv (Ju s.1 i c,qty s.2 i (k.2.2.2.1,Lo s.1 i e,())))))))
   (Jv (Ju s.1 i c,s.2))))))
def qvj(k:yd)(s:la):rO.E.X:=((k.2.2.1.1,k.2.2.1.2.1,k.2.2.1.2.2.1,k.2.2.1.2.2.2.1,k.2.2.1.2.2.2.2.1,k.2.2.1.2.2.2.2.2.1,k.2.2.1.2.2.2.2.2.2,()),s.1,s.2,())
def Nk:rO.M.X->Fr rO.Out:=FG (λx=>(x.1.1,((x.1.2.1,x.1.2.2.1,(x.1.2.2.2.1,x.1.2.2.2.2.1,x.1.2.2.2.2.2.1,x.1.2.2.2.2.2.2.1,x.1.2.2.2.2.2.2.2.1,x.1.2.2.2.2.2.2.2.2.1,x.1.2.2.2.2.2.2.2.2.2.1),x.2.1):yd),((x.2.2.1,x.2.2.2.1):la))) (λk=>k.1) (λk=>k.2.1) pN qvj
noncomputable def RE:Code:=(Go.Ab.loopB (au f48 0) 0).getD .skip
def qsn:ae prog (.loop RE) rO.M rO Nk:=
 cN wz (λi k s=>((i,k.1,k.2.1,k.2.2.1.1,k.2.2.1.2.1,k.2.2.1.2.2.1,k.2.2.1.2.2.2.1,k.2.2.1.2.2.2.2.1,k.2.2.1.2.2.2.2.2.1,k.2.2.1.2.2.2.2.2.2,()),k.2.2.2,s.1,s.2,())) i64.dflt
abbrev Dm:Pt:=⟨112,0,⟨[(36,.d i64),(35,.d i64),(34,.d aK),(0,.d (.sl ah)),(1,.d (.sl ay)),(11,.d i64),(10,.d (.sl ay))],CM⟩,⟨[(1,.d (.sl ay))],CM⟩,⟨[],[]⟩⟩
abbrev ye:Type:=Int×List Int×List ah.den×List ay.den
abbrev pF:Type:=Int×List ay.den×la
def om(t:ah.den)(rd:List ay.den):List Int:=(tE.f (t,rd,())).1
def C4(k:ye)(i:Int)(t:ah.den)(j:Int)(rd:List ay.den):yd:=((om t rd).length,om t rd,(i,k.1,k.2.1,k.2.2.1,k.2.2.2,j,rd),t)
def Lt(k:ye)(i:Int)(t:ah.den)(j:Int)(rd:List ay.den)(s:la):Fr pF:=
 Jd (rd.length<=1000000) (cI (InK ((om t rd).length:Int) 0 (om t rd).length) (bM (pN (C4 k i t j rd) True) 0 (om t rd) s) (bO (pN (C4 k i t j rd) True) 0 (om t rd) s) (λr=>Jv (j,rd,r)))
def sm(k:ye)(b:Prop)(i:Int)(e:i64.den)(s:pF):Fr pF:=
 let a:=k.2.2.1.getD (Int.toNat e) ah.dflt;Jd b (Jd (0<=e/\e<(k.2.2.1.length:Int))
  (Jb (a.2.1 != s.1)
   (Jd (s.2.2.1.length<=maxLen) (Jd (s.2.2.1.length*40<=140737488355328) (Lt k i a a.2.1 s.2.2.1 s.2.2)))
   (Lt k i a s.1 s.2.1 s.2.2)))
def ZC:Dm.M.X->Fr Dm.Out:=FG (λx=>(x.1.1,((x.1.2.1,x.1.2.2.1,x.1.2.2.2.1,x.1.2.2.2.2.1):ye),((x.1.2.2.2.2.2.1,x.1.2.2.2.2.2.2.1,x.2.1,x.2.2.1):pF))) (λk=>k.1) (λk=>k.2.1) sm (λk s=>((k.2.2.2,()),s.2.2.1,s.2.2.2,()))
def qsp:ae prog (.loop (au f48 0)) Dm.M Dm ZC:=
 cN wz (λi k s=>((i,k.1,k.2.1,k.2.2.1,k.2.2.2,s.1,s.2.1,()),s.2.2.1,s.2.2.2,())) i64.dflt (Λ:=λ_=>rO.han Mq.Γ rO.M Nk) (hΛ:=λ_=>kP (by kernel_rfl) (b:=RE) (by kernel_rfl) (ae.han wz rfl qsn))
abbrev ofN:List MI:=[.o 9 (ed 130 0 132) j8,.o 97 101 ay,.o 17 3 i64]
abbrev Dl:Pt:=⟨112,4,⟨[(99,.d i64),(98,.d i64)],ofN⟩,⟨[],[.o 9 (ed 130 0 132) j8,.o 17 3 i64]⟩,⟨[],[]⟩⟩
def zm(k:Int×List (List dq.den)×List ay.den)(b:Prop)(i:Int)(e:ay.den)(s:List Int):Fr (List Int):=
 Jd b (Jd (i.toNat<k.2.2.length) (Jd (0<=i/\i<(s.length:Int)) (Jd (i.toNat<s.length) (Jv (s.set i.toNat e.2.2.2.2.1)))))
def ZB:Dl.M.X->Fr Dl.Out:=FG (λx=>(x.1.1,(x.1.2.1,x.2.1,x.2.2.1),x.2.2.2.1)) (λk=>k.1) (λk=>k.2.2) zm (λk s=>((),k.2.1,s,()))
def qso:ae prog (.loop (au f48 1)) Dl.M Dl ZB:=
 cN wz (λi k s=>((i,k.1,()),k.2.1,k.2.2,s,())) ay.dflt
def nj(ts:List ah.den)(i:List ay.den):ye:=(((iE.f (ts,())).1.length:Int),(iE.f (ts,())).1,ts,i)
def uI(n:Nat)(z:Int):Prop:=0<=(n:Int)/\(n:Int)<=(n:Int)/\(n:Int)<=(maxLen:Int)/\(n:Int)*z<=140737488355328
def BL(x:ag [.d (.sl ah),.d (.sl ay)]):Fr (aa [.sl j8,aK,i64]):=
 Jb ((tF.f (x.1,x.2.1,())).1 != 0) (Jv ([],[],(tF.f (x.1,x.2.1,())).1,()))
  (Jd (List.length x.2.1<=maxLen) (Jd (List.length x.2.1*40<=140737488355328) (Jd (uI (List.length x.2.1) 24) (Jd (List.length x.2.1<=maxLen) (Jd (List.length x.2.1*40<=140737488355328) (Jd (List.length x.1<=1000000)
   (cI (InK ((iE.f (x.1,())).1.length:Int) 0 (iE.f (x.1,())).1.length) (bM (sm (nj x.1 x.2.1) True) 0 (iE.f (x.1,())).1 (1,x.2.1,x.2.1,List.replicate (Int.toNat (List.length x.2.1:Int)) [])) (bO (sm (nj x.1 x.2.1) True) 0 (iE.f (x.1,())).1 (1,x.2.1,x.2.1,List.replicate (Int.toNat (List.length x.2.1:Int)) []))
    (λs=>Jd (uI (List.length x.2.1) 8)
     (cI (InK (s.2.2.1.length:Int) 0 s.2.2.1.length) (bM (zm ((s.2.2.1.length:Int),s.2.2.2,s.2.2.1) True) 0 s.2.2.1 (List.replicate (Int.toNat (List.length x.2.1:Int)) 0)) (bO (zm ((s.2.2.1.length:Int),s.2.2.2,s.2.2.1) True) 0 s.2.2.1 (List.replicate (Int.toNat (List.length x.2.1:Int)) 0))
      (λo=>Jv (s.2.2.2,o,0,())))))))))))
def qkf:af prog 48 (bg [.d (.sl ah),.d (.sl ay)] [.sl j8,aK,i64] BL):=
 oP wz qsp qso (fn:=f48)
def yl{z:Int}(h:n<=1000000)(hz:0<=z/\z<=1000):uI n z:=by
 have:=ew;refine⟨by omega,by omega,by omega,?_⟩;have i:(n:Int)*z<=1000000*z:=Int.mul_le_mul_of_nonneg_right (by omega) hz.1;omega
def quh(k:yd)(s:la)(n m:Nat)(hb:k.2.1.length<=n)(P:m+n<=999999)(F:s.1.length=n)(H:s.2.length=n)(O:∀ g∈s.2,g.length<=m):
  bM (pN k True) 0 k.2.1 s/\(bO (pN k True) 0 k.2.1 s).1.length=n/\(bO (pN k True) 0 k.2.1 s).2.length=n/\∀ g∈(bO (pN k True) 0 k.2.1 s).2,g.length<=m+k.2.1.length:=
 dk (step:=pN k True) (λj (s:la)=>s.1.length=n/\s.2.length=n/\∀ g∈s.2,g.length<=m+j) k.2.1 (λj e s N i=>by
  have w:j<n:=uca (eD N) hb;obtain⟨t,u⟩:=lK w i.1;obtain⟨b1,b2⟩:=lK w i.2.1;have hg:(s.2.getD (Int.toNat (j:Int)) []).length<=m+j:=by
   rw[uah,uaq b2];exact i.2.2 _ (udg b2)
  have C:∀ v,(Ju s.1 j v).length=n:=λv=>by
   show(List.set _ _ _).length=n;rw[udl];exact i.1
  have Q:=ew;refine⟨uT,t,u,t,u,t,u,λ_=>⟨b1,b2,by omega,b1,⟨b2,rfl⟩,C _,?_,λg q=>?_⟩,λ_=>⟨C _,i.2.1,λg q=>Nat.le_succ_of_le (i.2.2 g q)⟩⟩;show(List.set _ _ _).length=n;rw[udl];exact i.2.1;rcases uap q with h|h
  exact Nat.le_succ_of_le (i.2.2 g h);rw[h,ub5];exact Nat.succ_le_succ hg) s ⟨F,H,O⟩
def quk(ts:List ah.den)(j:List ay.den)(ht:ts.length<=100)(hl:j.length<=2000)(s:pF)(m:s.2.1.length=j.length/\s.2.2.1.length=j.length/\s.2.2.2.length=j.length/\∀ g∈s.2.2.2,g.length<=0):
  bM (sm (nj ts j) True) 0 (iE.f (ts,())).1 s/\(bO (sm (nj ts j) True) 0 (iE.f (ts,())).1 s).2.2.1.length=j.length/\(bO (sm (nj ts j) True) 0 (iE.f (ts,())).1 s).2.2.2.length=j.length/\∀ g∈(bO (sm (nj ts j) True) 0 (iE.f (ts,())).1 s).2.2.2,g.length<=1000000:=by
 obtain⟨o1,o2⟩:=TB ts (by omega);have hx:=ew;have key:=dk (step:=sm (nj ts j) True) (λi (s:pF)=>s.2.1.length=j.length/\s.2.2.1.length=j.length/\s.2.2.2.length=j.length/\∀ g∈s.2.2.2,g.length<=i*2000) (iE.f (ts,())).1 (λi e s P m=>by
  have hi:i<100:=by
   have:=eD P;omega
  have F:=o2 e (ubf P);have w:∀ t C rd,List.length rd=j.length->(Lt (nj ts j) i t C rd s.2.2).satP (λ(s:pF)=>s.2.1.length=j.length/\s.2.2.1.length=j.length/\s.2.2.2.length=j.length/\∀ g∈s.2.2.2,g.length<=(i+1)*2000):=λt C rd u=>by
   have q:(om t rd).length<=j.length:=by
    rcases zbs t rd (by omega)with h|h
    have:om t rd=[]:=h;rw[this];exact ufc _;exact Nat.le_of_eq (h.trans u)
   obtain⟨H,S,N,O⟩:=quh (C4 (nj ts j) i t C rd) s.2.2 j.length (i*2000) q (by omega) m.2.1 m.2.2.1 m.2.2.2;refine⟨by omega,fz (A:=λ(r:la)=>r.1.length=j.length/\r.2.length=j.length/\∀ g∈r.2,g.length<=(i+1)*2000) (dI (by omega)) ⟨H,S,N,λg hg=>?_⟩ (λr Q=>⟨u,Q⟩)⟩;have h5:=O g hg;have h6:List.length (C4 (nj ts j) i t C rd).2.1<=j.length:=q;omega
  exact⟨uT,F,λ_=>⟨by omega,by omega,w _ _ _ m.2.1⟩,λ_=>w _ _ _ m.1⟩) s ⟨m.1,m.2.1,m.2.2.1,λg hg=>uel (m.2.2.2 g hg) (ufc _)⟩
 obtain⟨H,_,N,O,W⟩:=key;exact⟨H,N,O,λg hg=>uel (W g hg) (by omega)⟩
def quj(out:List (List dq.den))(j:List ay.den)(s:List Int)(m:s.length=j.length):bM (zm ((j.length:Int),out,j) True) 0 j s/\True:=
 ⟨(dk (step:=zm ((j.length:Int),out,j) True) (λ_ (s:List Int)=>s.length=j.length) j (λi e s q m=>by
  obtain⟨t,u⟩:=lK (eD q) m;obtain⟨C,w⟩:=lK (l:=j) (eD q) rfl;exact⟨uT,w,t,u,(show(List.set _ _ _).length=_ by rw[udl];exact m)⟩) s m).1,uT⟩
def Wc(ts:List ah.den)(i:List ay.den):(BL (ts,i,())).satP (λy=>y.1.length<=2000/\∀ g∈y.1,List.length (α:=dq.den) g<=1000000):=by
 unfold BL;refine⟨λ_=>⟨ufc _,λ_ h=>(nomatch h)⟩,λF=>?_⟩;have j:(tF.f (ts,i,())).1=0:=by simpa using F
 obtain⟨w,C⟩:=qtr ts i j;have H:=ew;have u:i.length<=1000000:=by omega
 have t:Int.toNat (i.length:Int)=i.length:=ucz _;refine⟨by show i.length<=maxLen;omega,by show i.length*40<=_;omega,yl u (by decide),by show i.length<=maxLen;omega,by show i.length*40<=_;omega,by show ts.length<=_;omega,fz (A:=λ(s:pF)=>s.2.2.1.length=i.length/\s.2.2.2.length=i.length/\∀ g∈s.2.2.2,g.length<=1000000) (dI ?_) (quk ts i w C _ ⟨rfl,rfl,?_,λg hg=>?_⟩) (λs q=>⟨yl u (by decide),fz (A:=λ_=>True) (dI (by rw[q.1];omega)) (quj s.2.2.2 s.2.2.1 _ ?_) (λo _=>⟨by show s.2.2.2.length<=_;omega,q.2.2⟩)⟩)⟩;have:=(TB ts (by omega)).1;show(iE.f (ts,())).1.length<=_;omega;show(List.replicate (Int.toNat (i.length:Int)) _).length=i.length;rw[List.length_replicate,t];have m:g∈List.replicate (Int.toNat (i.length:Int)) ([]:List dq.den):=hg;rw[List.eq_of_mem_replicate m];exact ue6 _;show(List.replicate (Int.toNat (i.length:Int)) _).length=_;rw[List.length_replicate,t];exact q.1.symm
def tD:Ct:=⟨[.d (.sl ah),.d (.sl ay)],[.sl j8,aK,i64],λx=>(BL x).get,λ_=>[]⟩
def O6:af prog 48 tD:=bW qkf _ (λx _ _=>(cO (Wc x.1 x.2.1)).1)
def Wb(ts:List ah.den)(i:List ay.den):(tD.f (ts,i,())).1.length<=2000/\∀ g∈(tD.f (ts,i,())).1,List.length (α:=dq.den) g<=1000000:=(cO (Wc ts i)).2
noncomputable def YH:Cx:=cx [(228,A9),(229,qu)] []
def Mr:CxOK prog YH:=aP aG ⟨T8,OT,uT⟩ trivial
abbrev pq:Pt:=⟨32,0,⟨[(5,.d i64),(4,.d i64)],[.x 1 150 ar,.r 1 1 0,.x 3 150 ar,.r 3 3 0]⟩,⟨[(4,.d i64)],[]⟩,⟨[],[]⟩⟩
def qlt(x:pq.M.X):Fr pq.Out:=
 match x with
 |((k,e,_),f,y,_)=>
  Jb (bif J (k<(List.length f.2.1:Int))then e==0 else Y)
   (Jd (0<=k/\k<(List.length f.2.1:Int)) (Jv (Rd.next ((I6.wrap (k+1),(qu.f (y,List.getD f.2.1 k.toNat bn.dflt,())).2.1,()),f,(qu.f (y,List.getD f.2.1 k.toNat bn.dflt,())).1,()))))
   (Jv (Rd.out ((e,()),())))
def qzg:ae prog (au f209 0) pq.M pq qlt:=dn Mr
def r7:List bn.den->ar.den->Int->Int
 |[],_,e=>e
 |a::r,y,e=>if e=0 then r7 r (qu.f (y,a,())).1 (qu.f (y,a,())).2.1 else e
def Z8(x:pq.M.X):Fr pq.Out:=
 match x with
 |((k,e,_),f,y,_)=>Jd (0<=k/\k<=(List.length f.2.1:Int)/\List.length f.2.1<=maxLen) (Jv (Rd.out ((r7 (List.drop k.toNat f.2.1) y e,()),())))
def qtn{k:Int}{l:List bn.den}(h:0<=k/\k<=(l.length:Int)/\l.length<=maxLen)(m:k<(l.length:Int)):I6.wrap (k+1)=k+1/\List.drop k.toNat l=l.getD k.toNat bn.dflt::List.drop (k+1).toNat l:=by
 have j:maxLen<=9223372036854775807:=by decide
 have i:k.toNat<l.length:=by omega
 refine⟨cz (by omega),?_⟩;rw[show(k+1).toNat=k.toNat+1 by omega,ual i,uah,uaq i];rfl
def qtm{k:Int}(h:0<=k/\k<=(n:Int)/\n<=maxLen)(i:k<(n:Int)):(0<=k+1/\k+1<=(n:Int)/\n<=maxLen)/\((n:Int)-(k+1)).toNat<((n:Int)-k).toNat:=by omega
def qtl{k:Int}(h:0<=k/\k<=(n:Int)/\n<=maxLen)(i:¬ k<(n:Int)):n<=k.toNat:=by omega
def qsh:ae prog (.loop (au f209 0)) pq.M pq Z8:=
 ae.loop qzg (inv:=λx=>0<=x.1.1/\x.1.1<=(List.length x.2.1.2.1:Int)/\List.length x.2.1.2.1<=maxLen) (μ:=λx=>((List.length x.2.1.2.1:Int)-x.1.1).toNat)
  (by
   rintro⟨⟨k,e,_⟩,f,y,_⟩ i Q hq;have hq:Q (Rd.out ((r7 (List.drop k.toNat f.2.1) y e,()),())):=hq.2;have i:0<=k/\k<=(List.length f.2.1:Int)/\List.length f.2.1<=maxLen:=i;by_cases j:k<(List.length f.2.1:Int);obtain⟨e1,e2⟩:=qtn i j;obtain⟨q,t⟩:=qtm i j;rw[e2]at hq;by_cases m:e=0;rw[r7,if_pos m]at hq;refine⟨λ_=>⟨⟨i.1,j⟩,?_⟩,λhb=>?_⟩;rw[e1];exact⟨q,t,q,hq⟩;rw[ud7 j,m]at hb;cases hb;rw[r7,if_neg m]at hq;refine⟨λhb=>?_,λ_=>hq⟩;have hb:(bif J (k<(List.length f.2.1:Int))then e==0 else Y)=true:=hb;rw[ud7 j]at hb;exact absurd (by simpa using hb) m;have:=qtl i j;rw[ua2 this,r7]at hq;refine⟨λhb=>?_,λ_=>hq⟩;have hb:(bif J (k<(List.length f.2.1:Int))then e==0 else Y)=true:=hb;rw[uds j]at hb;cases hb)
  (λx Q h=>h.1)
def Qh(x:ag [.d ar]):Fr (aa [.bool]):=
 Jd (0<=(0:Int)/\(0:Int)<=(List.length x.1.2.1:Int)/\List.length x.1.2.1<=maxLen) (Jv (r7 (List.drop (Int.toNat 0) x.1.2.1) (A9.f (x.1.1,())).1 0==0,()))
def GJ:Ct:=⟨[.d ar],[.bool],λx=>(Qh x).get,λ_=>[]⟩
def qjj:af prog 209 (bg [.d ar] [.bool] Qh):=cS Mr qsh (fn:=f209)
def qcn:af prog 209 GJ:=bW qjj _ (λx hw _=>⟨⟨by decide,ub3 _,hw.1.2.1.1⟩,uT⟩)
noncomputable def YI:Cx:=cx [(135,ly),(68,wO),(209,GJ)] []
def Ms:CxOK prog YI:=aP aG ⟨Vw,Ot,qcn,uT⟩ trivial
def B5(x:ag [.d ar]):Fr (aa [aJ]):=
 Jv ((if (ly.f (x.1,())).1.1<(ly.f (x.1,())).1.2.1 then (ly.f (x.1,())).1.2.1 else (ly.f (x.1,())).1.1,(ly.f (x.1,())).1.2),())
def qin:af prog 83 ⟨[.d ar],[aJ],λxs=>(B5 xs).get,λxs=>[(B5 xs).ok]⟩:=
 cf Ms (Λ:=bw) (fn:=f83) (aW [.d ar]) (by kernel_rfl) (λc E _=>aY c 0) (λx=>by kernel_rfl)
def GA:Ct:=⟨[.d ar],[aJ],λx=>(B5 x).get,λ_=>[]⟩
def qb4:af prog 83 GA:=bW qin _ (λx hw _=>uT)
def Bz(x:ag [.d ar,.ptr ak]):Fr (aa [.bool]):=
 Jv (bif bif !(wO.f (x.1.1,())).1 then Z else x.1.1.2.2.1 != x.2.1.1 then Z else !(GJ.f (x.1,())).1,())
def qh7:af prog 208 ⟨[.d ar,.ptr ak],[.bool],λxs=>(Bz xs).get,λxs=>[(Bz xs).ok]⟩:=
 cf Ms (Λ:=bw) (fn:=f208) (aW [.d ar,.ptr ak]) (by kernel_rfl) (λc E _=>aY c 0) (λx=>by kernel_rfl)
def AI:Ct:=⟨[.d ar,.ptr ak],[.bool],λx=>(Bz x).get,λ_=>[]⟩
def qb0:af prog 208 AI:=bW qh7 _ (λx hw _=>uT)
noncomputable def YJ:Cx:=cx [(136,j6),(210,fA ar),(208,AI)] []
def YK:CxOK prog YJ:=aP aG ⟨xn,NE,qb0,uT⟩ trivial
def By(x:ag [.d ak,.d (.sl ar)]):Fr (aa [.bool]):=
 let a:=j6.f (x.1,());Jd (a.1=Z->∀ (i:aa [ar]),fi [ar] i->av (AI.ok (i.1,x.1,()))) (Jv (bif a.1 then !((fA ar).f (x.2.1,λi=>AI.f (i.1,x.1,()),())).1 else Y,()))
def qh8:af prog 180 ⟨[.d ak,.d (.sl ar)],[.bool],λxs=>(By xs).get,λxs=>[(By xs).ok]⟩:=
 cf YK (Λ:=bw) (fn:=f180) (aW [.d ak,.d (.sl ar)]) (by kernel_rfl) (λc E _=>aY c 0) (λx=>by kernel_rfl)
def G9:Ct:=⟨[.d ak,.d (.sl ar)],[.bool],λx=>(By x).get,λ_=>[]⟩
def qb1:af prog 180 G9:=bW qh8 _ (λx hw _=>by unfold By;repeat' first|exact trivial|intro _|refine⟨?_,?_⟩|decide)
noncomputable def Mu:Cx:=cx [(180,G9)] []
def ES:CxOK prog Mu:=aP aG ⟨qb1,uT⟩ trivial
abbrev vg:Pt:=⟨31,0,⟨[(14,.d i64),(13,.d i64),(12,.d (.sl ar)),(5,.d i64),(1,.d (.sl ar))],[]⟩,⟨[(5,.d i64),(1,.d (.sl ar))],[]⟩,⟨[],[]⟩⟩
def DI(k:Int×(List ar.den)×(List ar.den))(b:Prop)(i:Int)(e:ar.den)(s:Int):Fr (Int):=
 Jd b (Jv (I6.wrap (s+((List.length e.2.1):Int))))
def MR:vg.M.X->Fr vg.Out:=FG (λx=>(x.1.1,(x.1.2.1,x.1.2.2.1,x.1.2.2.2.2.1),x.1.2.2.2.1)) (λk=>k.1) (λk=>k.2.1) DI (λk s=>((s,k.2.2,()),()))
def qrr:ae prog (.loop (au f132 0)) vg.M vg MR:=
 cN ES (λi k s=>((i,k.1,k.2.1,s,k.2.2,()),())) ar.dflt
def QP:=λk s=>bO (DI k True) 0 k.2.1 s
def Tn:=λk s=>bM (DI k True) 0 k.2.1 s
def zdy(Γ:Gm):St->Option Tr:=vg.han Γ vg.M MR
def B3(x:ag [.d ak,.d (.sl ar)]):Fr (aa [i64]):=
 Jb (!(G9.f x).1) (Jv (1,())) (cI (InK (((List.length x.2.1):Int)) 0 (List.length x.2.1)) (Tn (((List.length x.2.1):Int),x.2.1,x.2.1) 0) (QP (((List.length x.2.1):Int),x.2.1,x.2.1) 0) (λs0=>Jb (bif J (((List.length x.2.1):Int)>2000)then Z else J (s0>2000)) (Jv (2,())) (Jv (0,()))))
def qia:af prog 132 ⟨[.d ak,.d (.sl ar)],[i64],λxs=>(B3 xs).get,λxs=>[(B3 xs).ok]⟩:=
 cf ES (Λ:=(λ_=>zdy Mu.Γ)) (fn:=f132) (aW [.d ak,.d (.sl ar)]) (by kernel_rfl) (λc E hc=>ea hc (by kernel_rfl) (b:=au f132 0) (by kernel_rfl) (ae.han ES rfl qrr)) (λx=>by kernel_rfl)
def ev(l:List ar.den):Prop:=l.length<=1000000/\∀ f∈l,List.length (α:=bn.den) f.2.1<=1000000
def ej(l:List ar.den):Nat:=(l.map (λf=>List.length (α:=bn.den) f.2.1)).sum
def V1:(l:List ar.den)->(∀ f∈l,List.length (α:=bn.den) f.2.1<=n)->ej l<=l.length*n
 |[],_=>ufc _
 |f::r,h=>by
  have j:=h f ucb;have m:=V1 r (λf i=>h f (ubi _ i));show List.length (α:=bn.den) f.2.1+ej r<=(r.length+1)*n;rw[ue8];omega
def V2{l:List ar.den}{e:ar.den}(j:l[i]?= U e):ej (l.take (i+1))=ej (l.take i)+List.length (α:=bn.den) e.2.1:=by
 unfold ej;rw[List.take_succ,j,udt,List.sum_append];rfl
def qda(l:List ar.den)(h:ev l):Tn ((l.length:Int),l,l) 0/\QP ((l.length:Int),l,l) 0=(ej l:Int):=by
 have key:=dk (step:=DI ((l.length:Int),l,l) True) (λi (s:Int)=>s=(ej (l.take i):Int)) l (λi e s u C=>by
  refine⟨uT,?_⟩;have m:=V1 (n:=1000000) (l.take (i+1)) (λf w=>h.2 f (ubp w));have q:(l.take (i+1)).length<=1000000:=by
   rw[uc3];have:=h.1;omega
  have j:=V2 u;show I6.wrap (s+(List.length (α:=bn.den) e.2.1:Int))=_;have t:ej (l.take (i+1))<=1000000*1000000:=uel m (ubd _ q);rw[j,C];rw[j]at t;rw[show((ej (List.take i l)+List.length (α:=bn.den) e.2.1:Nat):Int)=(ej (List.take i l):Int)+(List.length (α:=bn.den) e.2.1:Int) from rfl];exact cz (by omega)) 0 rfl
 rw[List.take_length]at key;exact key
def OG(c:ak.den)(l:List ar.den)(h:ev l):(B3 (c,l,())).satP (λy=>y.1=0->l.length<=2000/\ej l<=2000):=by
 refine⟨λ_ h=>(by cases h),λ_=>fz (A:=λs=>s=(ej l:Int)) (dI (uel h.1 (by decide))) (qda l h) (λs m=>⟨λ_ h=>(by cases h),λhb _=>?_⟩)⟩;have hb:(bif J ((l.length:Int)>2000)then Z else J (s>2000))=false:=hb;by_cases i:(l.length:Int)>2000;rw[ud7 i]at hb;cases hb;rw[uds i]at hb;have j:¬ s>2000:=ucg hb;rw[m]at j;omega
def qC:Ct:=⟨[.d ak,.d (.sl ar)],[i64],λx=>(B3 x).get,λx=>[ev x.2.1]⟩
def qb3:af prog 132 qC:=bW qia _ (λx _ i=>(cO (OG x.1 x.2.1 i)).1)
def qdb(c:ak.den)(l:List ar.den)(h:ev l)(h0:(qC.f (c,l,())).1=0):l.length<=2000/\ej l<=2000:=(cO (OG c l h)).2 h0
noncomputable def IW:Code:=((Go.Ab.loopB (au f211 0) 0).getD .skip)
def qzd:ae prog IW (eO 272 aw).M (eO 272 aw) (xI 272 aw):=
 dn aH
def qqz:ae prog (.loop IW) (eO 272 aw).M (eO 272 aw) (sG 272 aw):=S5 qzd
noncomputable def WO:Nat->St->Option Tr:=λ_=>(eO 272 aw).han dB.Γ (eO 272 aw).M (sG 272 aw)
def qpb{E:Env}:bP prog E WO (au f211 0) 0:=
 kP (b:=IW) (by kernel_rfl) (by kernel_rfl) (ae.han aH rfl qqz)
def qzf:ae prog (au f211 0) (eP 272 aw).M (eP 272 aw) (xJ 272 aw):=
 ae.of_run aH (bs:=0) (Λ:=WO) rfl rfl rfl (λE=>qpb) (λx=>by kernel_rfl)
def qq1:ae prog (.loop (au f211 0)) (eP 272 aw).M (eP 272 aw) (sH 272 aw):=S6 qzf
noncomputable def zdq:Nat->St->Option Tr:=λ_=>(eP 272 aw).han dB.Γ (eP 272 aw).M (sH 272 aw)
def qoc:SoundMt prog 211 (kQ 272 aw):=
 gW (iq aH (Λ:=zdq) (fn:=f211) (fr:=(xK 272 aw)) (e:=272) (T:=aw) (ps:=[.d i64,.d i64,(aV aw)]) (rs:=[]) (0,0,(λ_=>(0,()),λ_=>True),()) (by kernel_rfl) rfl rfl
  (λc E hc=>ea hc (by kernel_rfl) (b:=au f211 0) (by kernel_rfl) (ae.han aH rfl qq1)) (λl x=>by kernel_rfl)) _ _ λ_ _ l xs _ _ i _ j=>RO l xs i j
def qzz:ae prog (au f240 0) (eX 272 aw).M (eX 272 aw) (xU 272 aw):=
 dn aH
def qrn:ae prog (.loop (au f240 0)) (eX 272 aw).M (eX 272 aw) (sP 272 aw):=SE qzz
noncomputable def zdx:Nat->St->Option Tr:=λ_=>(eX 272 aw).han dB.Γ (eX 272 aw).M (sP 272 aw)
def zbd:SoundMt prog 240 (jL 272 aw):=
 gW (iq aH (Λ:=zdx) (fn:=f240) (fr:=(Ca 272 aw)) (e:=272) (T:=aw) (ps:=[.d i64,.d i64,.d i64,(aV aw)]) (rs:=[]) (0,0,0,(λ_=>(0,()),λ_=>True),()) (by kernel_rfl) rfl rfl
  (λc E hc=>ea hc (by kernel_rfl) (b:=au f240 0) (by kernel_rfl) (ae.han aH rfl qrn)) (λl x=>by kernel_rfl)) _ _ λ_ _ l xs _ _ i _ j=>VE l xs i j
noncomputable def LZ:Cx:=cW [] [] (fG (cx [] []).Γ 240 (jL 272 aw))
def EG:CxOK prog LZ:=cZ aG trivial trivial (gu aH.ct zbd)
def qzm:ae prog (au f231 0) (eR 272 aw).M (eR 272 aw) (xM 272 aw):=
 dn EG
def qra:ae prog (.loop (au f231 0)) (eR 272 aw).M (eR 272 aw) (sJ 272 aw):=S8 qzm
noncomputable def zdt:Nat->St->Option Tr:=λ_=>(eR 272 aw).han LZ.Γ (eR 272 aw).M (sJ 272 aw)
def qxy:SoundMt prog 231 (pb 272 aw):=
 gW (iq EG (Λ:=zdt) (fn:=f231) (fr:=(xN 272 aw)) (e:=272) (T:=aw) (ps:=[.d i64,.d i64,.d i64,(aV aw)]) (rs:=[]) (0,0,0,(λ_=>(0,()),λ_=>True),()) (by kernel_rfl) rfl rfl
  (λc E hc=>ea hc (by kernel_rfl) (b:=au f231 0) (by kernel_rfl) (ae.han EG rfl qra)) (λl x=>by kernel_rfl)) _ _ λ_ _ l xs _ _ i _ j=>UB l xs i j
def qzo:ae prog (au f212 0) (eS 272 aw).M (eS 272 aw) (xO 272 aw):=
 dn aH
def qrc:ae prog (.loop (au f212 0)) (eS 272 aw).M (eS 272 aw) (sK 272 aw):=S9 qzo
def qzs:ae prog (au f212 2) (eU 272 aw).M (eU 272 aw) (xQ 272 aw):=
 dn aH
def qrg:ae prog (.loop (au f212 2)) (eU 272 aw).M (eU 272 aw) (sM 272 aw):=SB qzs
def qzw:ae prog (au f212 4) (eW 272 aw).M (eW 272 aw) (xS 272 aw):=
 dn aH
def qrk:ae prog (.loop (au f212 4)) (eW 272 aw).M (eW 272 aw) (sO 272 aw):=SD qzw
def qzq:ae prog (au f212 1) (eT 272 aw).M (eT 272 aw) (xP 272 aw):=
 dn aH
def qre:ae prog (.loop (au f212 1)) (eT 272 aw).M (eT 272 aw) (sL 272 aw):=SA qzq
def qzu:ae prog (au f212 3) (eV 272 aw).M (eV 272 aw) (xR 272 aw):=
 dn aH
def qri:ae prog (.loop (au f212 3)) (eV 272 aw).M (eV 272 aw) (sN 272 aw):=SC qzu
noncomputable def Mb(n:Nat):Cx:=cW [] [] (iS (fG (cx [] []).Γ 231 (pb 272 aw)) (fG (cx [] []).Γ 212 ((iP 272 aw) n)))
def Xr(h:SoundMt prog 212 ((iP 272 aw) n)):CxOK prog (Mb n):=cZ aG trivial trivial (jN (gu aH.ct qxy) (gu aH.ct h))
noncomputable def LM:Nat->St->Option Tr
 |0=>(eS 272 aw).han dB.Γ (eS 272 aw).M (sK 272 aw)
 |1=>(eT 272 aw).han dB.Γ (eT 272 aw).M (sL 272 aw)
 |2=>(eU 272 aw).han dB.Γ (eU 272 aw).M (sM 272 aw)
 |3=>(eV 272 aw).han dB.Γ (eV 272 aw).M (sN 272 aw)
 |_=>(eW 272 aw).han dB.Γ (eW 272 aw).M (sO 272 aw)
def qpf{E:Env}{c:Code}(hc:f212.body=U c):bP prog E LM c 0:=by
 have q:(f212.body.map ce)=U 5:=by kernel_rfl
 have b0:f212.body.bind (Go.Ab.loopB · 0)=U (au f212 0):=by kernel_rfl
 have b1:f212.body.bind (Go.Ab.loopB · 1)=U (au f212 1):=by kernel_rfl
 have b2:f212.body.bind (Go.Ab.loopB · 2)=U (au f212 2):=by kernel_rfl
 have b3:f212.body.bind (Go.Ab.loopB · 3)=U (au f212 3):=by kernel_rfl
 have t:f212.body.bind (Go.Ab.loopB · 4)=U (au f212 4):=by kernel_rfl
 have hb:∀ i,i<5->f212.body.bind (Go.Ab.loopB · i)=U (au f212 i):=λi hi=>match i,hi with
  |0,_=>b0
  |1,_=>b1
  |2,_=>b2
  |3,_=>b3
  |4,_=>t
 rw[hc]at q hb;simp only[Option.map_some,uck]at q;simp only[uc8]at hb;refine jJ c 0 λi u j=>?_;have m:=loopB_lt j;rw[q]at m;have e:=hb i m;rw[e]at j;cases j
 match i,m with
 |0,_=>exact ae.han aH rfl qrc
 |1,_=>exact ae.han aH rfl qre
 |2,_=>exact ae.han aH rfl qrg
 |3,_=>exact ae.han aH rfl qri
 |4,_=>exact ae.han aH rfl qrk
def qyc(n:Nat)(l:List (aw).den)(x:ag [.d i64,.d i64,.d i64,(aV aw)]):yS prog (Mb n) LM f212 272 aw [.d i64,.d i64,.d i64,(aV aw)] [] l x=U ((qY 272 aw) n l x):=by kernel_rfl
def VG:(n:Nat)->SoundMt prog 212 ((iP 272 aw) n)
 |0=>by
  have hf:prog.funcs[212]?= some f212:=by kernel_rfl
  obtain⟨c,hb⟩:∃ c,f212.body=some c:=⟨_,rfl⟩;refine⟨by decide,rfl,rfl,enters hf hb (by kernel_rfl),λw F l xs v vs rows _ _ _ _ _ _ _ hok=>?_⟩;have h:SymOk 0 xs.1 xs.2.1 xs.2.2.1 xs.2.2.2.1 l:=hok;have h1:=h.am;have h2:=h.mb;have h3:=h.size;omega
 |n+1=>by
  refine gW (iq (Xr (VG n)) (Λ:=LM) (fn:=f212) (fr:=(qY 272 aw) n) (e:=272) (T:=aw) (ps:=[.d i64,.d i64,.d i64,(aV aw)]) (rs:=[]) (0,0,0,(λ_=>(0,()),λ_=>True),()) (by kernel_rfl) rfl rfl
   (λc E hc=>qpf hc) (qyc n)) _ _ λw F l xs vs _ _ _ hok=>?_
  obtain⟨a,m,b,g,rfl⟩:∃ (a m b:Int) (g:(aV aw).den),xs=(a,m,b,g,()):=⟨xs.1,xs.2.1,xs.2.2.1,xs.2.2.2.1,rfl⟩;have h:SymOk (n+1) a m b g l:=hok;have h0:=h.a0;have h1:=h.am;have h2:=h.mb;obtain⟨a',rfl⟩:∃ n:Nat,a=n:=⟨a.toNat,by omega⟩;obtain⟨m',rfl⟩:∃ n:Nat,m=n:=⟨m.toNat,by omega⟩;obtain⟨b',rfl⟩:∃ n:Nat,b=n:=⟨b.toNat,by omega⟩;exact VL n a' m' b' g l h
noncomputable def zM:Cx:=cW [] [] (iS (fG (cx [] []).Γ 211 (kQ 272 aw)) (fG (cx [] []).Γ 212 ((iP 272 aw) big)))
def qj:CxOK prog zM:=cZ aG trivial trivial (jN (gu aH.ct qoc) (gu aH.ct (VG big)))
def qy8:ae prog (au f181 0) (eN 272 aw).M (eN 272 aw) (xG 272 aw):=
 dn qj
def qqs:ae prog (.loop (au f181 0)) (eN 272 aw).M (eN 272 aw) (sF 272 aw):=S4 qy8
noncomputable def Kc:Code:=((Go.Ab.loopB (au f181 1) 0).getD .skip)
def qzk:ae prog Kc (eQ 272 aw).M (eQ 272 aw) (xL 272 aw):=
 dn qj
def qq6:ae prog (.loop Kc) (eQ 272 aw).M (eQ 272 aw) (sI 272 aw):=S7 qzk
noncomputable def WQ:Nat->St->Option Tr:=λ_=>(eQ 272 aw).han zM.Γ (eQ 272 aw).M (sI 272 aw)
def qpd{E:Env}:bP prog E WQ (au f181 1) 0:=
 kP (b:=Kc) (by kernel_rfl) (by kernel_rfl) (ae.han qj rfl qq6)
def qy6:ae prog (au f181 1) (eM 272 aw).M (eM 272 aw) (xF 272 aw):=
 ae.of_run qj (bs:=0) (Λ:=WQ) rfl rfl rfl (λE=>qpd) (λx=>by kernel_rfl)
def qqq:ae prog (.loop (au f181 1)) (eM 272 aw).M (eM 272 aw) (sE 272 aw):=S3 qy6
noncomputable def zdv:Nat->St->Option Tr
 |0=>(eN 272 aw).han zM.Γ (eN 272 aw).M (sF 272 aw)
 |_=>(eM 272 aw).han zM.Γ (eM 272 aw).M (sE 272 aw)
def zan:SoundMt prog 181 (nk 272 aw):=
 gW (iq qj (Λ:=zdv) (fn:=f181) (fr:=(xT 272 aw)) (e:=272) (T:=aw) (ps:=[.d i64,(aV aw)]) (rs:=[]) (0,(λ_=>(0,()),λ_=>True),()) (by kernel_rfl) rfl rfl
  (λc E hc=>C8 hc (by kernel_rfl) (b0:=au f181 0) (b1:=au f181 1) (by kernel_rfl) (by kernel_rfl) (ae.han qj rfl qqs) (ae.han qj rfl qqq)) (λl x=>by kernel_rfl)) _ _ λ_ _ l xs _ _ i _ j=>Vu l xs i j
noncomputable def Xu:Cx:=cW [] [] (fG (cx [] []).Γ 181 (nk 272 aw))
def Xv:CxOK prog Xu:=cZ aG trivial trivial (gu aH.ct zan)
def zac:SoundMt prog 133 (pd 272 aw):=
 gW (iq Xv (Λ:=bw) (fn:=f133) (fr:=(BZ 272 aw)) (e:=272) (T:=aw) (ps:=[(aV aw)]) (rs:=[]) ((λ_=>(0,()),λ_=>True),()) (by kernel_rfl) rfl rfl
  (λc E _=>aY c 0) (λl x=>by kernel_rfl)) _ _ λ_ _ l xs _ _ i _ j=>Vo l xs i j
noncomputable def Mv:Cx:=cx [(157,mC)] []
def ET:CxOK prog Mv:=aP aG ⟨Be,uT⟩ trivial
abbrev rM:Pt:=⟨18,0,⟨[(8,.d i64),(7,.d i64),(6,.d aK),(3,.d i64)],[]⟩,⟨[(3,.d i64)],[]⟩,⟨[(2,.d i64)],[]⟩⟩
def mn(k:Int×(List Int)×Int)(b:Prop)(i:Int)(e:i64.den)(s:Unit):Fr (Unit ⊕ rM.R.X):=
 Jd b (Jb (e != k.2.2) (Jv (.inr ((e,()),()))) (Jv (.inl ())))
def MS:rM.M.X->Fr rM.Out:=FK (λx=>(x.1.1,(x.1.2.1,x.1.2.2.1,x.1.2.2.2.1),())) (λk=>k.1) (λk=>k.2.1) mn (λk s=>((k.2.2,()),())) (λ_ y=>Rd.back y) () (aW _,bN _)
def qrx:ae prog (.loop (au f182 0)) rM.M rM MS:=
 lm ET (λi k s=>((i,k.1,k.2.1,k.2.2,()),())) i64.dflt
def qmg:=λk s=>da (mn k True) 0 k.2.1 s
def qun:=λk s=>eJ (mn k True) 0 k.2.1 s
def zdz(Γ:Gm):St->Option Tr:=rM.han Γ rM.M MS
def HJ(x:ag [.d aK]):Fr (aa [i64]):=
 iY (InK (((List.length x.1):Int)) 0 (List.length x.1)) (qun (((List.length x.1):Int),x.1,0) ()) (qmg (((List.length x.1):Int),x.1,0) ()) () (aW _,bN _) (λ_=>Jv (0,())) (λi=>Jv (i.1.1,()))
def qip:af prog 182 ⟨[.d aK],[i64],λxs=>(HJ xs).get,λxs=>[(HJ xs).ok]⟩:=
 cf ET (Λ:=(λ_=>zdz Mv.Γ)) (fn:=f182) (aW [.d aK]) (by kernel_rfl) (λc E hc=>ea hc (by kernel_rfl) (b:=au f182 0) (by kernel_rfl) (ae.han ET rfl qrx)) (λx=>by kernel_rfl)
def xc:Ct:=⟨[.d aK],[i64],λx=>(HJ x).get,λ_=>[]⟩
def qb6:af prog 182 xc:=bW qip _ (λx hw _=>ss (gt hw.1.1) (by refine JL (λ_ _ _=>?_) _ _ _;exact⟨uT,λ_=>uT,λ_=>uT⟩) (λ_=>uT) (λ_=>uT))
noncomputable def YL:Cx:=cx [(157,mC),(182,xc)] []
def YM:CxOK prog YL:=aP aG ⟨Be,qb6,uT⟩ trivial
def B0(x:ag [.d aw,.d aw]):Fr (aa [i64]):=
 Jv ((xc.f ([(mC.f (x.1.2.1.1,x.2.1.2.1.1,())).1,(mC.f (x.1.1,x.2.1.1,())).1],())).1,())
def qh9:af prog 134 ⟨[.d aw,.d aw],[i64],λxs=>(B0 xs).get,λxs=>[(B0 xs).ok]⟩:=
 cf YM (Λ:=bw) (fn:=f134) (aW [.d aw,.d aw]) (by kernel_rfl) (λc E _=>aY c 0) (λx=>by kernel_rfl)
def qB:Ct:=⟨[.d aw,.d aw],[i64],λx=>(B0 x).get,λ_=>[]⟩
def qb2:af prog 134 qB:=bW qh9 _ (λx hw _=>uT)
def qvh(a b:Int):(xc.f ([a,b],())).1=if a≠0 then a else b:=by
 have q:∀ (k:Int×List Int×Int) (i e:Int),k.2.2=0->(mn k True i e ()).get=if e≠0 then .inr ((e,()),())else .inl ():=λk i e t=>by
  show(if (e != k.2.2)=Z then _ else _)=_;rw[t];by_cases m:e=0;rw[if_neg (by simp[m]),if_neg (by simp[m])];rfl;rw[if_pos (by simpa using m),if_pos m];rfl
 show((iY _ _ (da (mn (2,[a,b],0) True) 0 [a,b] ()) () (aW _,bN _) _ _).get:aa [i64]).1=_;by_cases j:a=0;have e1:da (mn (2,[a,b],0) True) 0 [a,b] ()=da (mn (2,[a,b],0) True) 1 [b] ():=by
  rw[da,q _ _ _ rfl,if_neg (by simp[j])];rfl
 rw[e1,if_neg (by simp[j])];by_cases hb:b=0;have e2:da (mn (2,[a,b],0) True) 1 [b] ()=.inl ():=by
  rw[da,q _ _ _ rfl,if_neg (by simp[hb])];rfl
 rw[e2,hb];rfl;have e2:da (mn (2,[a,b],0) True) 1 [b] ()=.inr ((b,()),()):=by
  rw[da,q _ _ _ rfl,if_pos hb]
 rw[e2];rfl;have e1:da (mn (2,[a,b],0) True) 0 [a,b] ()=.inr ((a,()),()):=by
  rw[da,q _ _ _ rfl,if_pos j]
 rw[e1,if_pos j];rfl
def yg(x:aw.den):Int:=x.2.1.1*18446744073709551616+x.1
def qai{b f g:Int}(i:0<=f/\f<18446744073709551616)(hg:0<=g/\g<18446744073709551616):(if l5 a b≠0 then l5 a b else l5 f g)<0↔a*18446744073709551616+f<b*18446744073709551616+g:=by
 unfold l5;split<;>split<;>(try split)<;>(try split)<;>(try split)<;>omega
def qah{x y:aw.den}(i:0<=x.1/\x.1<18446744073709551616)(j:0<=y.1/\y.1<18446744073709551616):(qB.f (x,y,())).1<0↔yg x<yg y:=by
 have e:(qB.f (x,y,())).1=(xc.f ([l5 x.2.1.1 y.2.1.1,l5 x.1 y.1],())).1:=rfl;rw[e,qvh];exact qai i j
def Ke(c:ak.den)(i j:Int):Int:=
 bif bif bif !(j6.f (c,())).1 then Z else J (i<0)then Z else J (j<0)then 0
 else (tA.f ((AK.f (c,(AJ.f (c,i,())).1,())).1,[I6.wrap (c.2.2.1-j)],())).1
def wT:Ct:=⟨[.d ak,.d i64,.d i64],[i64],λx=>(Ke x.1 x.2.1 x.2.2.1,()),λ_=>[]⟩
def IZ{ps:List PT}{g:ag ps->aa [i64]}{ok:ag ps->List Prop}(h:af prog f ⟨ps,[i64],g,ok⟩){xs:ag ps}(hb:∀ b,F b->b<w.heap.size)(q:cJ prog w F ps xs vs)(m:av (ok xs)):
  Calls prog f vs.toArray w λe w'=>e=.returned (.int .i64 (g xs).1)/\Go.Ab.inR .i64 (g xs).1/\Below w.heap.size w w':=by
 refine(h.2 w F xs vs hb q m).mono ?_;rintro e w' ⟨v,F',rfl,i,_,_,t⟩;have j:aE prog w' F' (λ_ _=>True) (dE i64 (g xs).1) v:=fT t;exact⟨by rw[j.2.1],j.2.2,i⟩
def W9(n:Int):wrap64 n=I6.wrap n:=by unfold wrap64;rw[udd]
def qJ(c:ak.den):Value:=.agg #[.int .i64 c.1,.int .i64 c.2.1,.int .i64 c.2.2.1,.int .i64 c.2.2.2.1,.int .i64 c.2.2.2.2.1]
def qem{c:ak.den}(h:bu w F ak c v):v=qJ c:=by
 obtain⟨cs,rfl⟩:=h.2.1.1 rfl;have H:cs.size=5:=h.1;obtain⟨h0,q,t,u,C,_⟩:=h.2.2;unfold qJ;congr 1;apply ufj;exact H;intro i j m
 match i,j,m with
 |0,h,_=>exact ud0 ((uam h).symm.trans h0.1)
 |1,h,_=>exact ud0 ((uam h).symm.trans q.1)
 |2,h,_=>exact ud0 ((uam h).symm.trans t.1)
 |3,h,_=>exact ud0 ((uam h).symm.trans u.1)
 |4,h,_=>exact ud0 ((uam h).symm.trans C.1)
def qwb (c0 O t P Q i j:Int) (rt:Bool) (q u:Int->Int) (C:Int->Int->Int)
  (hR:∀ W,Calls prog 136 #[.agg #[.int .i64 c0,.int .i64 O,.int .i64 t,.int .i64 P,.int .i64 Q]] W λe w'=>e=.returned (.bool rt)/\Below W.heap.size W w')
  (hC:∀ W,Calls prog 137 #[.agg #[.int .i64 c0,.int .i64 O,.int .i64 t,.int .i64 P,.int .i64 Q],.int .i64 i] W λe w'=>e=.returned (.int .i64 (q i))/\Go.Ab.inR IntKind.i64 (q i)/\Below W.heap.size W w')
  (hS:∀ W,Go.Ab.inR IntKind.i64 (q i)->Calls prog 138 #[.agg #[.int .i64 c0,.int .i64 O,.int .i64 t,.int .i64 P,.int .i64 Q],.int .i64 (q i)] W λe w'=>e=.returned (.int .i64 (u (q i)))/\Go.Ab.inR IntKind.i64 (u (q i))/\Below W.heap.size W w')
  (hL:∀ W b,Go.Ab.inR IntKind.i64 (u (q i))->W.heap[b]?= U (.cells #[.int .i64 (wrap64 (t-j))] 3 (0,0))->Calls prog 139 #[.int .i64 (u (q i)),.slice (U ⟨b,0,V⟩) 1 1] W λe w'=>e=.returned (.int .i64 (C (u (q i)) (wrap64 (t-j))))/\Go.Ab.inR IntKind.i64 (C (u (q i)) (wrap64 (t-j)))/\Below W.heap.size W w')
  (w:World) :
  Calls prog 84 #[.agg #[.int .i64 c0,.int .i64 O,.int .i64 t,.int .i64 P,.int .i64 Q],.int .i64 i,.int .i64 j] w λe w'=>
   e=.returned (.int .i64 (bif bif bif !rt then Z else J (i<0)then Z else J (j<0)then 0 else C (u (q i)) (wrap64 (t-j))))/\Go.Ab.inR IntKind.i64 (bif bif bif !rt then Z else J (i<0)then Z else J (j<0)then 0 else C (u (q i)) (wrap64 (t-j)))/\Below w.heap.size w w':=by
 have hB0:=(uff _ w).alloc (ue6 _) (.cells #[.int .i64 c0,.int .i64 O,.int .i64 t,.int .i64 P,.int .i64 Q] 142);have hq0:=World.alloc_heap_new w (.cells #[.int .i64 c0,.int .i64 O,.int .i64 t,.int .i64 P,.int .i64 Q] 142)
 go_enter func84,ntmps84
 have fin:=λF (h:Below _ _ F)=>hB0.trans (h.mono hB0.size);cases rt
 ·go_wp2_with (first
   |(go_at_call 136;refine(hR _).mono ?_;rintro e F ⟨rfl,m⟩))
  go_ret
  exact⟨rfl,zF .i64,fin _ m⟩
 by_cases h1:i<0
 ·go_wp2_with (first
   |(go_at_call 136;refine(hR _).mono ?_;rintro e F ⟨rfl,m⟩))
  go_ret
  have z:(bif bif bif !Z then Z else J (i<0)then Z else J (j<0)then 0 else C (u (q i)) (wrap64 (t-j)))=0:=by simp[h1]
  rw[z];exact⟨rfl,zF .i64,fin _ m⟩
 by_cases h2:j<0
 ·go_wp2_with (first
   |(go_at_call 136;refine(hR _).mono ?_;rintro e F ⟨rfl,m⟩))
  go_ret
  have z:(bif bif bif !Z then Z else J (i<0)then Z else J (j<0)then 0 else C (u (q i)) (wrap64 (t-j)))=0:=by simp[h2]
  rw[z];exact⟨rfl,zF .i64,fin _ m⟩
 have S:(bif bif bif !Z then Z else J (i<0)then Z else J (j<0)then 0 else C (u (q i)) (wrap64 (t-j)))=C (u (q i)) (wrap64 (t-j)):=by simp[h1,h2]
 rw[S]
 go_wp2_with (first
   |(go_at_call 136;refine(hR _).mono ?_;rintro e F ⟨rfl,m⟩
     have N:=(m.block _ (by simp)).trans hq0;have k0:=aO N 0;have k1:=aO N 1;have k2:=aO N 2;have k3:=aO N 3;have k4:=aO N 4;simp at k0 k1 k2 k3 k4))
 have b1:=λo=>(fin _ m).alloc (fin _ m).size o;have lt:=(uaf.1 N).1;refine wp_loop_rounds 3 ?_;rw[rounds_succ]
 go_wp2_with (first
  |(go_at_call 137;refine(hC _).mono ?_;rintro e w2 ⟨rfl,n2,H⟩
    have y2:=(H.block F.heap.size (by simp)).trans (World.alloc_heap_new F _);have x2:=(H.block w.heap.size (by simp;omega)).trans ((uc9 F _ _ lt).trans N);have j0:=aO y2 0;have j1:=aO y2 1;simp at j0 j1))
 rw[rounds_succ]
 go_wp2_with (first
  |(go_at_call 138;refine(hS _ n2).mono ?_;rintro e w3 ⟨rfl,n3,hb3⟩
    have x3:=(hb3.block _ (uaf.1 x2).1).trans x2;have i2:=aO x3 2;simp at i2))
 rw[rounds_succ]
 go_wp2_with (first
  |(go_at_call 139;refine(hL _ _ n3 (World.alloc_heap_new _ _)).mono ?_;rintro e w4 ⟨rfl,n4,hb4⟩))
 go_ret
 have b2:=(b1 _).trans (H.mono (b1 _).size);have b3:=b2.trans (hb3.mono b2.size);have b4:=λo=>b3.alloc b3.size o;exact⟨rfl,n4,(b4 _).trans (hb4.mono (b4 _).size)⟩
def TY:af prog 84 wT:=by
 refine⟨enters_of func84 (by kernel_rfl) rfl,λw F xs vs hbd hr _=>?_⟩;obtain⟨c,loss,used,_⟩:=xs;obtain⟨v,vs',rfl,hv,hn⟩:=hr;obtain⟨rfl,hl,hu⟩:vs'=[.int .i64 loss,.int .i64 used]/\Go.Ab.inR IntKind.i64 loss/\Go.Ab.inR IntKind.i64 used:=by
  obtain⟨v1,vs1,rfl,h1,v2,vs2,rfl,h2,h3⟩:=hn;cases h3;obtain⟨e1,r1⟩:=oS (w:=w) (F:=F) (y:=(loss,())) ⟨v1,[],rfl,h1,rfl⟩;obtain⟨e2,r2⟩:=oS (w:=w) (F:=F) (y:=(used,())) ⟨v2,[],rfl,h2,rfl⟩;cases e1;cases e2;exact⟨rfl,r1,r2⟩
 obtain rfl:=qem hv;have hv:bu w F ak c (qJ c):=hv;have hz:∀ b,(λ_:Nat=>False) b->b<0:=λ_ h=>h.elim;have cv:∀ W:World,bu W (λ_=>False) ak c (qJ c):=λW=>hv;have nn:∀ (W:World) (n:Int),Go.Ab.inR IntKind.i64 n->bu W (λ_=>False) i64 n (.int .i64 n):=λW n hn=>⟨rfl,⟨λh=>(by cases h),λh=>(by obtain⟨_,h⟩:=h;cases h)⟩,rfl,hn⟩;have hR:=λW:World=>FM (w:=W) (F:=λ_=>False) (xs:=(c,())) (vs:=[qJ c]) xn (λ_ h=>h.elim) ⟨_,_,rfl,cv W,rfl⟩ trivial;have hC:=λW:World=>IZ (w:=W) (F:=λ_=>False) (xs:=(c,loss,())) (vs:=[qJ c,.int .i64 loss]) qb7 (λ_ h=>h.elim) ⟨_,_,rfl,cv W,_,_,rfl,nn W loss hl,rfl⟩ trivial;have hS:=λ(W:World) (n:Int) (hn:Go.Ab.inR IntKind.i64 n)=>IZ (w:=W) (F:=λ_=>False) (xs:=(c,n,())) (vs:=[qJ c,.int .i64 n]) qb8 (λ_ h=>h.elim) ⟨_,_,rfl,cv W,_,_,rfl,nn W n hn,rfl⟩ trivial;have hL:=λ(W:World) (b:Nat) (n:Int) (hn:Go.Ab.inR IntKind.i64 n) (m:Int) (hm:Go.Ab.inR IntKind.i64 m) (hb:W.heap[b]?= some (.cells #[.int .i64 m] 3 (0,0)))=>
  IZ (w:=W) (F:=λq=>q=b) (xs:=(n,[m],())) (vs:=[.int .i64 n,.slice (some ⟨b,0,none⟩) 1 1]) O1 (λq h=>by rw[h];exact(uaf.1 hb).1)
   ⟨_,_,rfl,⟨rfl,⟨λh=>(by cases h),λh=>(by obtain⟨_,h⟩:=h;cases h)⟩,rfl,hn⟩,_,_,rfl,⟨rfl,⟨λh=>(by cases h),λh=>(by obtain⟨_,h⟩:=h;cases h)⟩,some ⟨b,0,none⟩,1,rfl,ue6 _,(by decide),λi x hx=>⟨⟨b,0,none⟩,rfl,rfl,(by
    cases i with
    |zero=>
     cases hx;exact⟨aO hb 0,hm⟩
    |succ i=>cases hx)⟩⟩,rfl⟩ trivial
 refine(qwb c.1 c.2.1 c.2.2.1 c.2.2.2.1 c.2.2.2.2.1 loss used (j6.f (c,())).1 (λn=>(AJ.f (c,n,())).1) (λn=>(AK.f (c,n,())).1) (λn m=>(tA.f (n,[m],())).1)
  hR hC (λW h=>hS W _ h) (λW b h hb=>hL W b _ h _ (by rw[W9];exact gd _ _) hb) w).mono ?_
 rintro e w' ⟨rfl,hin,hbel⟩;have he:(wT.f (c,loss,used,())).1=(bif bif bif !(j6.f (c,())).1 then true else decide (loss<0)then true else decide (used<0)then 0 else (tA.f ((AK.f (c,(AJ.f (c,loss,())).1,())).1,[wrap64 (c.2.2.1-used)],())).1):=by
  rw[W9];rfl
 exact⟨_,F,rfl,hbel,λ_ h=>h,λb hb=>⟨.inl hb,uca (hbd b hb) hbel.size⟩,rfl,⟨λh=>(by cases h),λh=>(by obtain⟨_,h⟩:=h;cases h)⟩,ufo (λn=>some (Value.int IntKind.i64 n)) he.symm,he ▸ hin⟩
noncomputable def Hl:List (FuncId×Ct):=[(134,qB),(132,qC),(84,wT)]
def OW:iz prog Hl:=⟨qb2,qb3,TY,uT⟩
noncomputable def Mw:Cx:=cW Hl [] (fG (cx Hl []).Γ 133 (pd 272 aw))
def w6:CxOK prog Mw:=cZ aG OW trivial (gu (aP (ps:=[]) aG OW trivial).ct zac)
abbrev vA:Pt:=⟨123,2,⟨[(35,.d i64),(34,.d i64),(33,.d (.sl bn)),(8,.d i64),(27,.d i64),(26,.d i64),(25,.d (.sl ar)),(1,.d (.sl ar))],[.x 2 142 ak,.r 2 2 0,.o 7 272 aw]⟩,⟨[(27,.d i64),(26,.d i64),(25,.d (.sl ar)),(1,.d (.sl ar))],[.x 2 142 ak,.r 2 2 0,.o 7 272 aw]⟩,⟨[],[]⟩⟩
def wc(k:Int×(List bn.den)×Int×Int×Int×(List ar.den)×(List ar.den)×ak.den)(b:Prop)(i:Int)(e:bn.den)(s:(List aw.den)):Fr ((List aw.den)):=
 let a:=(k.2.2.1,e,());Jd b (Jd (s.length + [a].length<=maxLen/\(s.length + [a].length)*32<=140737488355328) (Jv (s++[a])))
noncomputable def RF:Code:=((Go.Ab.loopB (au f82 0) 0).getD .skip)
def Nl:vA.M.X->Fr vA.Out:=FG (λx=>(x.1.1,(x.1.2.1,x.1.2.2.1,x.1.2.2.2.1,x.1.2.2.2.2.1,x.1.2.2.2.2.2.1,x.1.2.2.2.2.2.2.1,x.1.2.2.2.2.2.2.2.1,x.2.1),x.2.2.1)) (λk=>k.1) (λk=>k.2.1) wc (λk s=>((k.2.2.2.1,k.2.2.2.2.1,k.2.2.2.2.2.1,k.2.2.2.2.2.2.1,()),(k.2.2.2.2.2.2.2,s,())))
def qst:ae prog (.loop RF) vA.M vA Nl:=
 cN w6 (λi k s=>((i,k.1,k.2.1,k.2.2.1,k.2.2.2.1,k.2.2.2.2.1,k.2.2.2.2.2.1,k.2.2.2.2.2.2.1,()),k.2.2.2.2.2.2.2,s,())) bn.dflt
def zec(Γ:Gm):St->Option Tr:=vA.han Γ vA.M Nl
abbrev Dp:Pt:=⟨123,4,⟨[(57,.d i64),(56,.d i64),(14,.d i64)],[.x 2 142 ak,.r 2 2 0,.o 55 272 aw,.o 12 3 i64,.o 13 3 i64,.o 15 198 ep]⟩,⟨[],[.o 15 198 ep]⟩,⟨[],[]⟩⟩
def DZ(k:Int×ak.den×(List aw.den))(b:Prop)(i:Int)(e:aw.den)(s:Int×(List Int)×(List Int)×(List ep.den)):Fr (Int×(List Int)×(List Int)×(List ep.den)):=
 let n:=(s.2.1.length:Int);let m:=s.2.2.2;let h:=s.2.2.1;let l:=(h.length:Int);let d:=Int.toNat e.1;let c:=I6.wrap (s.2.1.getD d i64.dflt+e.2.1.2.2.1);let o:=s.2.1.set d c;let a:=(wT.f (k.2.1,o.getD d i64.dflt,I6.wrap (s.1-h.getD d i64.dflt),())).1-h.getD d i64.dflt;let g:=(e.1,e.2.1.1,I6.wrap a,());Jd b (Jd (Int.toNat i<k.2.2.length) (Jb (e.2.1.2.1 != 2) (Jv (s.1,s.2.1,h,m)) (Jd (0<=e.1/\e.1<n) (Jd (Int.toNat e.1<s.2.1.length) (Jd (0<=e.1/\e.1<n) (Jd (Int.toNat e.1<s.2.1.length) (Jd (0<=e.1/\e.1<(o.length:Int)) (Jd (Int.toNat e.1<o.length) (Jd (0<=e.1/\e.1<l) (Jd (Int.toNat e.1<h.length) (Jd (0<=e.1/\e.1<l) (Jd (Int.toNat e.1<h.length) (Jb (J (I6.wrap a<=0)) (Jv (s.1,s.2.1.set d c,h,m)) (Jd (0<=e.1/\e.1<l) (Jd (Int.toNat e.1<h.length) (Jd (0<=e.1/\e.1<l) (Jd (Int.toNat e.1<h.length) (Jd (m.length + [g].length<=maxLen/\(m.length + [g].length)*24<=140737488355328) (Jv (I6.wrap (s.1+I6.wrap a),s.2.1.set d c,h.set d (I6.wrap (h.getD d i64.dflt+I6.wrap a)),m++[g]))))))))))))))))))))
def ZG:Dp.M.X->Fr Dp.Out:=FG (λx=>(x.1.1,(x.1.2.1,x.2.1,x.2.2.1),(x.1.2.2.1,x.2.2.2.1,x.2.2.2.2.1,x.2.2.2.2.2.1))) (λk=>k.1) (λk=>k.2.2) DZ (λk s=>((),s.2.2.2,()))
def qsv:ae prog (.loop (au f82 1)) Dp.M Dp ZG:=
 cN w6 (λi k s=>((i,k.1,s.1,()),k.2.1,k.2.2,s.2.1,s.2.2.1,s.2.2.2,())) aw.dflt
def Ra:=λk s=>bO (DZ k True) 0 k.2.2 s
def T4:=λk s=>bM (DZ k True) 0 k.2.2 s
abbrev Do:Pt:=⟨123,0,⟨[(27,.d i64),(26,.d i64),(25,.d (.sl ar)),(1,.d (.sl ar))],[.x 2 142 ak,.r 2 2 0,.o 7 272 aw]⟩,⟨[(1,.d (.sl ar))],[.x 2 142 ak,.r 2 2 0,.o 7 272 aw]⟩,⟨[],[]⟩⟩
def DY(k:Int×(List ar.den)×(List ar.den)×ak.den)(b:Prop)(i:Int)(e:ar.den)(s:(List aw.den)):Fr ((List aw.den)):=
 let d:=List.length e.2.1;let c:=List.drop (Int.toNat 0) e.2.1;let a:=wc ((d:Int),e.2.1,i,i,k.1,k.2.1,k.2.2.1,k.2.2.2) True;Jd b (Jd (InK ((d:Int)) 0 d) (Jd (bM a 0 c s) (Jv (bO a 0 c s))))
def ZF:Do.M.X->Fr Do.Out:=FG (λx=>(x.1.1,(x.1.2.1,x.1.2.2.1,x.1.2.2.2.1,x.2.1),x.2.2.1)) (λk=>k.1) (λk=>k.2.1) DY (λk s=>((k.2.2.1,()),(k.2.2.2,s,())))
def qsu:ae prog (.loop (au f82 0)) Do.M Do ZF:=
 cN w6 (λi k s=>((i,k.1,k.2.1,k.2.2.1,()),k.2.2.2,s,())) ar.dflt (Λ:=(λ_=>zec Mw.Γ)) (hΛ:=λ_=>kP (by kernel_rfl) (b:=RF) (by kernel_rfl) (ae.han w6 rfl qst))
def IF:=λk s=>bO (DY k True) 0 k.2.1 s
def T3:=λk s=>bM (DY k True) 0 k.2.1 s
def Fp:(aV aw).den:=(λx=>qB.f x,λx=>av (qB.ok x))
def jZ(s:List aw.den):List aw.den:=cM (aM Fp) s
def E6(n:Nat):List Int:=List.replicate (Int.toNat (n:Int)) 0
def Bw(x:ag [.d ak,.d (.sl ar)]):Fr (aa [.sl ep,i64]):=
 Jd (ev x.2.1) (Jb ((qC.f x).1 != 0) (Jv ([],(qC.f x).1,()))
  (cI (InK ((List.length x.2.1):Int) 0 (List.length x.2.1)) (T3 (((List.length x.2.1):Int),x.2.1,x.2.1,x.1) []) (IF (((List.length x.2.1):Int),x.2.1,x.2.1,x.1) []) (λs0=>
   Jd ((s0.length:Int)<=4611686018427387903) (Jd (gR Fp s0) (Jd (uI (List.length x.2.1) 8) (Jd (uI (List.length x.2.1) 8)
    (cI (InK ((jZ s0).length:Int) 0 (jZ s0).length) (T4 (((jZ s0).length:Int),x.1,jZ s0) (0,E6 (List.length x.2.1),E6 (List.length x.2.1),[])) (Ra (((jZ s0).length:Int),x.1,jZ s0) (0,E6 (List.length x.2.1),E6 (List.length x.2.1),[])) (λr=>Jv (r.2.2.2,0,())))))))))
def qh6:af prog 82 (bg [.d ak,.d (.sl ar)] [.sl ep,i64] Bw):=
 oP w6 qsu qsv (fn:=f82)
def nE(n:Nat)(s:List aw.den):Prop:=∀ x∈s,0<=x.1/\x.1<(n:Int)
def qv2(k:Int×(List bn.den)×Int×Int×Int×(List ar.den)×(List ar.den)×ak.den)(n:Nat)(t:0<=k.2.2.1/\k.2.2.1<(n:Int))(s:List aw.den)(w:nE n s)(hb:s.length+k.2.1.length<=4000):
  bM (wc k True) 0 k.2.1 s/\(bO (wc k True) 0 k.2.1 s).length=s.length+k.2.1.length/\nE n (bO (wc k True) 0 k.2.1 s):=
 dk (step:=wc k True) (λj (r:List aw.den)=>r.length=s.length+j/\nE n r) k.2.1 (λj e r q m=>by
  have C:=eD q;have F:=ew;have u:=m.1;refine⟨uT,?_,?_,λx i=>?_⟩;show r.length+1<=maxLen/\(r.length+1)*32<=140737488355328;omega;rw[ub5];show r.length+1=_;omega;rcases udp.1 i with h|h
  exact m.2 x h;rw[uce.1 h];exact t) s ⟨rfl,w⟩
def zay{l:List ar.den}(i:Nat):ej (l.take i)<=ej l:=by
 have:ej l=ej (l.take i)+ej (l.drop i):=by
  conv=>lhs;rw[<- uba i l]
  unfold ej;rw[udt,List.sum_append]
 omega
def qv3(c:ak.den)(l:List ar.den)(H:l.length<=2000)(N:ej l<=2000):
  T3 ((l.length:Int),l,l,c) []/\(IF ((l.length:Int),l,l,c) []).length=ej l/\nE l.length (IF ((l.length:Int),l,l,c) []):=by
 have key:=dk (step:=DY ((l.length:Int),l,l,c) True) (λi (s:List aw.den)=>s.length=ej (l.take i)/\nE l.length s) l (λi e s j m=>by
  have hi:=eD j;have q:=V2 j;have F:=zay (l:=l) (i+1);have t:=m.1;have hb:s.length+List.length (α:=bn.den) e.2.1<=4000:=by omega
  obtain⟨u,w,C⟩:=qv2 ((List.length (α:=bn.den) e.2.1:Int),e.2.1,(i:Int),(i:Int),(l.length:Int),l,l,c) l.length ⟨ub3 _,Int.ofNat_lt.2 hi⟩ s m.2 hb;refine⟨uT,dI (show List.length (α:=bn.den) e.2.1<=1000000000 by omega),u,w.trans ?_,C⟩;rw[q,t]) [] ⟨rfl,λ_ h=>(nomatch h)⟩
 rw[List.take_length]at key;exact key
def toNat_lt(h:0<=a/\a<(n:Int)):Int.toNat a<n:=by omega
structure PdI (n i:Nat) (s:Int×(List Int)×(List Int)×(List ep.den)):Prop where
 a:s.2.1.length=n
 b:s.2.2.1.length=n
 len:s.2.2.2.length<=i
 at_:∀ x∈s.2.2.2,0<=x.1/\x.1<(n:Int)
def qv4(k:Int×ak.den×(List aw.den))(n:Nat)(P:nE n k.2.2)(S:k.2.2.length<=4000)(s:Int×(List Int)×(List Int)×(List ep.den))(h0:PdI n 0 s):
  T4 k s/\PdI n k.2.2.length (Ra k s):=
 dk (step:=DZ k True) (PdI n) k.2.2 (λi e s F h=>by
  have hi:=eD F;have W:=ew;have j:=P e (ubf F);have w:Int.toNat e.1<n:=toNat_lt j;have O:0<=e.1/\e.1<(s.2.1.length:Int):=by rw[h.a];exact j
  have q:0<=e.1/\e.1<(s.2.2.1.length:Int):=by rw[h.b];exact j
  have N:Int.toNat e.1<s.2.1.length:=by rw[h.a];exact w
  have m:Int.toNat e.1<s.2.2.1.length:=by rw[h.b];exact w
  have t:∀ v,(s.2.1.set (Int.toNat e.1) v).length=n:=λv=>by rw[udl];exact h.a
  have Q:∀ v,(s.2.2.1.set (Int.toNat e.1) v).length=n:=λv=>by rw[udl];exact h.b
  have H:=h.len;refine⟨uT,(lK hi rfl).2,λ_=>⟨h.a,h.b,Nat.le_succ_of_le h.len,h.at_⟩,λ_=>⟨O,N,O,N,by rw[t];exact j,by rw[t];exact w,q,m,q,m,λ_=>⟨t _,h.b,Nat.le_succ_of_le h.len,h.at_⟩,λ_=>⟨q,m,q,m,?_,?_⟩⟩⟩;show s.2.2.2.length+1<=maxLen/\(s.2.2.2.length+1)*24<=140737488355328;omega;refine⟨t _,Q _,?_,λx C=>?_⟩;show(_++[_]).length<=i+1;rw[ub5];exact Nat.succ_le_succ h.len;rcases udp.1 C with u|u
  exact h.at_ x u;rw[uce.1 u];exact j) s h0
def Si(i:n<=1000000)(h:0<=a/\a<(n:Int)):0<=a/\a<18446744073709551616:=by omega
def qvi(i:n<=1000000){s:List aw.den}(h:nE n s):gR Fp s:=by
 refine⟨λ_ _ _ _=>uT,yg,λx q y t=>?_⟩;have j:=h x q;have m:=h y t;show J ((qB.f (x,y,())).1<0)=J (yg x<yg y);exact udf.2 (qah (Si i j) (Si i m))
def WJ(n:Nat):(E6 n).length=n:=by
 unfold E6;rw[List.length_replicate,ucz]
def N2(l:List ar.den)(y:aa [.sl ep,i64]):Prop:=List.length (α:=ep.den) y.1<=4000/\(∀ x:ep.den,x∈(y.1:List ep.den)->0<=x.1/\x.1<(l.length:Int))/\(y.2.1=0->l.length<=2000)
def TQ(c:ak.den)(l:List ar.den)(h:ev l):(Bw (c,l,())).satP (N2 l):=by
 unfold Bw;refine⟨h,λu=>⟨ufc _,λ_ h=>(nomatch h),λh0=>?_⟩,λu=>?_⟩;have i:((qC.f (c,l,())).1 != 0)=true:=u;have q:(qC.f (c,l,())).1=0:=h0;rw[q]at i;cases i;have i:(qC.f (c,l,())).1=0:=by simpa using u
 obtain⟨j,N⟩:=qdb c l h i;have t:l.length<=1000000:=uel j (by decide);refine fz (A:=λ(s:List aw.den)=>s.length=ej l/\nE l.length s) (dI (uel j (by decide))) (qv3 c l j N) (λs m=>?_);have C:(jZ s).length<=4000:=by
  unfold jZ;rw[mj,m.1];omega
 have w:nE l.length (jZ s):=λx O=>m.2 x (yZ.1 O);have F:=m.1;refine⟨by omega,qvi t m.2,yl t (by decide),yl t (by decide),fz (A:=PdI l.length (jZ s).length) (dI (uel C (by decide))) (qv4 (((jZ s).length:Int),c,jZ s) l.length w C _ ⟨WJ _,WJ _,ue6 _,λ_ h=>(nomatch h)⟩) (λr H=>⟨uel H.len C,H.at_,λ_=>j⟩)⟩
def oz:Ct:=⟨[.d ak,.d (.sl ar)],[.sl ep,i64],λx=>(Bw x).get,λx=>[ev x.2.1]⟩
def qbz:af prog 82 oz:=bW qh6 _ (λx _ i=>(cO (TQ x.1 x.2.1 i)).1)
def qv5(c:ak.den)(l:List ar.den)(h:ev l):N2 l (oz.f (c,l,())):=(cO (TQ c l h)).2
noncomputable def YN:Cx:=cx [(82,oz),(84,wT),(83,GA)] []
def zQ:CxOK prog YN:=aP aG ⟨qbz,TY,qb4,uT⟩ trivial
abbrev De:Pt:=⟨92,0,⟨[(28,.d i64),(27,.d i64),(26,.d (.sl ar)),(6,.d (.sl ep))],[.x 2 142 ak,.r 2 2 0,.o 8 99 aJ]⟩,⟨[(6,.d (.sl ep))],[.x 2 142 ak,.r 2 2 0,.o 8 99 aJ]⟩,⟨[],[]⟩⟩
def DJ(k:Int×(List ar.den)×(List ep.den)×ak.den)(b:Prop)(i:Int)(e:ar.den)(s:(List aJ.den)):Fr ((List aJ.den)):=
 let a:=GA.f (e,());Jd b (Jd (s.length + [a.1].length<=maxLen/\(s.length + [a.1].length)*48<=140737488355328) (Jv (s++[a.1])))
def Zz:De.M.X->Fr De.Out:=FG (λx=>(x.1.1,(x.1.2.1,x.1.2.2.1,x.1.2.2.2.1,x.2.1),x.2.2.1)) (λk=>k.1) (λk=>k.2.1) DJ (λk s=>((k.2.2.1,()),(k.2.2.2,s,())))
def qrt:ae prog (.loop (au f55 0)) De.M De Zz:=
 cN zQ (λi k s=>((i,k.1,k.2.1,k.2.2.1,()),k.2.2.2,s,())) ar.dflt
def QQ:=λk s=>bO (DJ k True) 0 k.2.1 s
def To:=λk s=>bM (DJ k True) 0 k.2.1 s
abbrev Df:Pt:=⟨92,2,⟨[(40,.d i64),(39,.d i64),(38,.d (.sl ep)),(11,.d i64)],[.x 2 142 ak,.r 2 2 0,.o 8 99 aJ]⟩,⟨[(11,.d i64)],[.x 2 142 ak,.r 2 2 0,.o 8 99 aJ]⟩,⟨[],[]⟩⟩
def DK(k:Int×(List ep.den)×ak.den)(b:Prop)(i:Int)(e:ep.den)(s:Int×(List aJ.den)):Fr (Int×(List aJ.den)):=
 let l:=Int.toNat 2;let h:=(s.2.length:Int);let g:=e.2.2.1;let d:=Int.toNat 0;let a:=[e.1,e.2.1,g].getD d 0;let c:=s.2.getD a.toNat aJ.dflt;Jd b (Jd ((0:Int)<=0/\0<(3:Int)) (Jd (0<=[e.1,e.2.1,g].getD d 0/\[e.1,e.2.1,g].getD d 0<h) (Jd (a.toNat<s.2.length) (Jd ((0:Int)<=2/\2<(3:Int)) (Jd (0<=[e.1,e.2.1,g].getD d 0/\[e.1,e.2.1,g].getD d 0<h) (Jd (a.toNat<s.2.length) (Jd ((0:Int)<=2/\2<(3:Int)) (Jv (I6.wrap (s.1 + [e.1,e.2.1,g].getD l 0),s.2.set a.toNat (c.1,c.2.1,I6.wrap (c.2.2.1 + [e.1,e.2.1,g].getD l 0),c.2.2.2))))))))))
def Z0:Df.M.X->Fr Df.Out:=FG (λx=>(x.1.1,(x.1.2.1,x.1.2.2.1,x.2.1),(x.1.2.2.2.1,x.2.2.1))) (λk=>k.1) (λk=>k.2.1) DK (λk s=>((s.1,()),(k.2.2,s.2,())))
def qru:ae prog (.loop (au f55 1)) Df.M Df Z0:=
 cN zQ (λi k s=>((i,k.1,k.2.1,s.1,()),k.2.2,s.2,())) ep.dflt
def QR:=λk s=>bO (DK k True) 0 k.2.1 s
def Tp:=λk s=>bM (DK k True) 0 k.2.1 s
abbrev Dg:Pt:=⟨92,4,⟨[(62,.d i64),(61,.d i64),(11,.d i64)],[.al 60 8,.x 2 142 ak,.r 2 2 0,.o 8 99 aJ]⟩,⟨[],[.o 8 99 aJ]⟩,⟨[],[]⟩⟩
def Rv(c:ak.den)(p:aJ.den)(i:Int):Int:=
 if 0<I6.wrap (Ke c p.1 (I6.wrap (i-p.2.2.1))-p.2.2.1)then I6.wrap (Ke c p.1 (I6.wrap (i-p.2.2.1))-p.2.2.1)else 0
def vW(k:Int×ak.den)(_b:Prop)(i:Int)(_e:Unit)(s:Int×List aJ.den):Fr (Int×List aJ.den):=
 let b:=(s.2.length:Int);let a:=s.2.getD i.toNat aJ.dflt;Jd (0<=i/\i<b) (Jd (i.toNat<s.2.length) (Jb (!a.2.2.2.2.2.1) (Jv s)
  (Jd (0<=i/\i<b) (Jd (i.toNat<s.2.length) (Jv (I6.wrap (s.1+Rv k.2 a s.1),
   s.2.set i.toNat (a.1,a.2.1,a.2.2.1,a.2.2.2.1,Rv k.2 a s.1,a.2.2.2.2.2.1,())))))))
def Z1:Dg.M.X->Fr Dg.Out:=FG (λx=>(x.1.1,(x.1.2.1,x.2.1),(x.1.2.2.1,x.2.2.1))) (λk=>k.1) (λk=>List.replicate k.1.toNat ()) vW (λ_ s=>((),s.2,()))
def qrv:ae prog (.loop (au f55 2)) Dg.M Dg Z1:=
 cN zQ (λi k s=>((i,k.1,s.1,()),k.2,s.2,())) ()
def Bv(x:ag [.d ak,.d (.sl ar)]):Fr (aa [.sl aJ,i64]):=
 Jd (ev x.2.1) (Jb ((oz.f x).2.1 != 0) (Jv ([],(oz.f x).2.1,()))
  (cI (InK ((List.length x.2.1):Int) 0 (List.length x.2.1)) (To (((List.length x.2.1):Int),x.2.1,(oz.f x).1,x.1) []) (QQ (((List.length x.2.1):Int),x.2.1,(oz.f x).1,x.1) []) (λs0=>
   cI (InK ((List.length (oz.f x).1):Int) 0 (List.length (oz.f x).1)) (Tp ((List.length (oz.f x).1:Int),(oz.f x).1,x.1) (0,s0)) (QR ((List.length (oz.f x).1:Int),(oz.f x).1,x.1) (0,s0)) (λs1=>
    cI (InK (s1.2.length:Int) 0 (List.replicate (Int.toNat (s1.2.length:Int)) ()).length) (bM (vW ((s1.2.length:Int),x.1) True) 0 (List.replicate (Int.toNat (s1.2.length:Int)) ()) s1) (bO (vW ((s1.2.length:Int),x.1) True) 0 (List.replicate (Int.toNat (s1.2.length:Int)) ()) s1) (λs2=>Jv (s2.2,0,()))))))
def qh5:af prog 55 (bg [.d ak,.d (.sl ar)] [.sl aJ,i64] Bv):=
 Qy zQ qrt qru qrv (fn:=f55)
def qar(c:ak.den)(l:List ar.den)(r:List ep.den)(q:l.length<=2000):To ((l.length:Int),l,r,c) []/\(QQ ((l.length:Int),l,r,c) []).length=l.length:=
 dk (step:=DJ ((l.length:Int),l,r,c) True) (λi (s:List aJ.den)=>s.length=i) l (λi e s j m=>by
  have hi:=eD j;have t:=ew;refine⟨uT,?_,?_⟩;show s.length+1<=maxLen/\(s.length+1)*48<=140737488355328;omega;show(s++[_]).length=i+1;rw[ub5,m];rfl) [] rfl
def qas(c:ak.den)(r:List ep.den)(n:Nat)(w:∀ x:ep.den,x∈r->0<=x.1/\x.1<(n:Int))(s:Int×List aJ.den)(m:s.2.length=n):Tp ((r.length:Int),r,c) s/\(QR ((r.length:Int),r,c) s).2.length=n:=
 dk (step:=DK ((r.length:Int),r,c) True) (λ_ (s:Int×List aJ.den)=>s.2.length=n) r (λi e s t m=>by
  have j:=w e (ubf t);have u:=toNat_lt j;have q:0<=e.1/\e.1<(s.2.length:Int):=by rw[m];exact j
  have hb:Int.toNat e.1<s.2.length:=by rw[m];exact u
  refine⟨uT,by decide,q,hb,by decide,q,hb,by decide,?_⟩;show(List.set _ _ _).length=n;rw[udl];exact m) s m
def qat(c:ak.den)(n:Nat)(s:Int×List aJ.den)(j:s.2.length=n):bM (vW ((n:Int),c) True) 0 (List.replicate (Int.toNat (n:Int)) ()) s/\(bO (vW ((n:Int),c) True) 0 (List.replicate (Int.toNat (n:Int)) ()) s).2.length=n:=
 dk (step:=vW ((n:Int),c) True) (λ_ (s:Int×List aJ.den)=>s.2.length=n) (List.replicate (Int.toNat (n:Int)) ()) (λi e s t j=>by
  have hi:=eD t;rw[List.length_replicate,ucz]at hi;obtain⟨m,q⟩:=lK hi j;refine⟨m,q,λ_=>j,λ_=>⟨m,q,?_⟩⟩;show(List.set _ _ _).length=n;rw[udl];exact j) s j
def NG(c:ak.den)(l:List ar.den)(h:ev l):(Bv (c,l,())).satP (λy=>y.2.1=0->List.length (α:=aJ.den) y.1=l.length):=by
 unfold Bv;obtain⟨p1,p2,p3⟩:=qv5 c l h;refine⟨h,λm h0=>?_,λm=>?_⟩;have i:((oz.f (c,l,())).2.1 != 0)=true:=m;have j:(oz.f (c,l,())).2.1=0:=h0;rw[j]at i;cases i;have i:(oz.f (c,l,())).2.1=0:=by simpa using m
 have q:=p3 i;have hi:List.length (oz.f (c,l,())).1<=1000000000:=uel p1 (by decide);refine fz (A:=λ(s:List aJ.den)=>s.length=l.length) (dI (uel q (by decide))) (qar c l _ q) (λs0 h0=>?_);refine fz (A:=λ(s:Int×List aJ.den)=>s.2.length=l.length) (dI hi) (qas c _ l.length p2 (0,s0) h0) (λs1 t=>?_);refine fz (A:=λ(s:Int×List aJ.den)=>s.2.length=s1.2.length) ?_ (qat c s1.2.length s1 rfl) (λs2 u _=>u.trans t);rw[List.length_replicate,ucz];refine dI ?_;rw[t];exact uel q (by decide)
def xa:Ct:=⟨[.d ak,.d (.sl ar)],[.sl aJ,i64],λx=>(Bv x).get,λx=>[ev x.2.1]⟩
def qby:af prog 55 xa:=bW qh5 _ (λx _ i=>(cO (NG x.1 x.2.1 i)).1)
def qag(c:ak.den)(l:List ar.den)(h:ev l)(h0:(xa.f (c,l,())).2.1=0):List.length (α:=aJ.den) (xa.f (c,l,())).1=l.length:=(cO (NG c l h)).2 h0
def BF(x:ag [.d bi,.ptr ar,.ptr ak]):Fr (aa [.bool]):=
 let b:=x.2.2.1;let a:=x.1.2.1;Jv (bif x.1.1==x.2.1.1.2.1 then a.1==b.1&&(a.2.1==b.2.1&&(a.2.2.1==b.2.2.1&&(a.2.2.2.1==b.2.2.2.1&&(a.2.2.2.2.1==b.2.2.2.2.1&&Z))))else Y,())
def qjg:af prog 81 ⟨[.d bi,.ptr ar,.ptr ak],[.bool],λxs=>(BF xs).get,λxs=>[(BF xs).ok]⟩:=
 cf aH (Λ:=bw) (fn:=f81) (aW [.d bi,.ptr ar,.ptr ak]) (by kernel_rfl) (λc E _=>aY c 0) (λx=>by kernel_rfl)
def AQ:Ct:=⟨[.d bi,.ptr ar,.ptr ak],[.bool],λx=>(BF x).get,λ_=>[]⟩
def qck:af prog 81 AQ:=bW qjg _ (λx hw _=>uT)
noncomputable def Hm:List (FuncId×Ct):=[(78,wN),(79,Ax),(81,AQ),(80,eE bi)]
def qet:iz prog Hm:=⟨NA,OR,qck,qng,uT⟩
noncomputable def UF:List (FuncId×Row):=[(1000000000000+147,.rw 6 3)]
noncomputable def Mx:Cx:=l8 Hm [] UF (λ_ _ _ _=>V)
def EU:CxOK prog Mx:=mI (cs:=Hm) (ps:=[]) (rs:=UF) aG qet trivial ⟨uT,uT⟩ (λ_ _ _ _ _ h=>(nomatch h))
abbrev lU:Pt:=⟨70,0,⟨[(15,.d i64),(14,.d i64),(13,.d (.sl ar))],[.x 1 59 aq,.r 1 1 0,.o 4 (ed 147 6 3) bi]⟩,⟨[],[.o 4 (ed 147 6 3) bi]⟩,⟨[(2,.d (.sl bi)),(3,.d i64)],[]⟩⟩
def Hj(i:aq.den)(f:ar.den):aa [ak,i64]:=Ax.f ((wN.f (i,f.1.2.1,())).1.1,i.1,f.1,())
def Ja(i:aq.den)(f:ar.den)(s:List bi.den):Int:=((eE bi).f (s,λx=>AQ.f (x.1,f,(Hj i f).1,()),())).1
def SY(i:aq.den)(f:ar.den):bi.den:=(f.1.2.1,(Hj i f).1,[],())
def qwt(s:List bi.den)(j i:Int):List bi.den:=s.set j.toNat ((s.getD j.toNat bi.dflt).1,(s.getD j.toNat bi.dflt).2.1,(s.getD j.toNat bi.dflt).2.2.1++[i],())
def Ls(s:List bi.den)(j i:Int):Fr (List bi.den ⊕ ρ):=
 Jd (0<=j/\j<(s.length:Int)) (Jd (j.toNat<s.length) (Jd (List.length (α:=Int) (s.getD j.toNat bi.dflt).2.2.1+1<=maxLen/\(List.length (α:=Int) (s.getD j.toNat bi.dflt).2.2.1+1)*8<=140737488355328)
  (Jd (0<=j/\j<(s.length:Int)) (Jd (j.toNat<s.length/\j.toNat=j.toNat) (Jv (.inl (qwt s j i)))))))
def DV(k:Int×(List ar.den)×aq.den)(b:Prop)(i:Int)(e:ar.den)(s:List bi.den):Fr ((List bi.den) ⊕ lU.R.X):=
 let a:=Hj k.2.2 e;Jd b (Jd (bL (wN.f (k.2.2,e.1.2.1,())).1.1) (Jd (bJ k.2.2.1) (Jb (a.2.1 != 0) (Jv (.inr (([],a.2.1,()),())))
  (Jd (∀ (x:aa [bi]),fi [bi] x->av (AQ.ok (x.1,e,a.1,()))) (Jb (J (Ja k.2.2 e s<0))
   (Jd (s.length+1<=maxLen/\(s.length+1)*72<=140737488355328) (Ls (s++[SY k.2.2 e]) (s.length:Int) i)) (Ls s (Ja k.2.2 e s) i))))))
def Nb:lU.M.X->Fr lU.Out:=FK (λx=>(x.1.1,(x.1.2.1,x.1.2.2.1,x.2.1),x.2.2.1)) (λk=>k.1) (λk=>k.2.1) DV (λk s=>((),s,())) (λ_ y=>Rd.back y) ([]) (aW _,bN _)
def qsc:ae prog (.loop (au f54 0)) lU.M lU Nb:=
 lm EU (λi k s=>((i,k.1,k.2.1,()),k.2.2,s,())) ar.dflt
def QY:=λk s=>da (DV k True) 0 k.2.1 s
def Tx:=λk s=>eJ (DV k True) 0 k.2.1 s
def zd7(Γ:Gm):St->Option Tr:=lU.han Γ lU.M Nb
def BE(x:ag [.d aq]):Fr (aa [.sl bi,i64]):=
 iY (InK (((List.length x.1.2.2.1):Int)) 0 (List.length x.1.2.2.1)) (Tx (((List.length x.1.2.2.1):Int),x.1.2.2.1,x.1) []) (QY (((List.length x.1.2.2.1):Int),x.1.2.2.1,x.1) []) ([]) (aW _,bN _) (λs0=>Jv (s0,0,())) (λi=>Jv i.1)
def qjh:af prog 54 ⟨[.d aq],[.sl bi,i64],λxs=>(BE xs).get,λxs=>[(BE xs).ok]⟩:=
 cf EU (Λ:=(λ_=>zd7 Mx.Γ)) (fn:=f54) (aW [.d aq]) (by kernel_rfl) (λc E hc=>ea hc (by kernel_rfl) (b:=au f54 0) (by kernel_rfl) (ae.han EU rfl qsc)) (λx=>by kernel_rfl)
structure GrI (n i:Nat) (s:List bi.den):Prop where
 len:s.length<=i
 at_:∀ g:bi.den,g∈s->List.length (α:=Int) g.2.2.1<=i/\∀ k:Int,k∈(g.2.2.1:List Int)->0<=k/\k<(n:Int)
def GrI.up{s:List bi.den}(h:GrI n i s):GrI n (i+1) s:=⟨Nat.le_succ_of_le h.len,λg hg=>⟨Nat.le_succ_of_le (h.at_ g hg).1,(h.at_ g hg).2⟩⟩
def VT{B:ρ->Prop}{s:List bi.den}{j:Int}(hi:i<n)(P:n<=1000000)(O:s.length<=m)(w:0<=j/\j<(s.length:Int))(C:∀ g:bi.den,g∈s->List.length (α:=Int) g.2.2.1<=i/\∀ k:Int,k∈(g.2.2.1:List Int)->0<=k/\k<(n:Int)):
  (Ls (ρ:=ρ) s j i).satP (my (λr=>r.length<=m/\∀ g:bi.den,g∈r->List.length (α:=Int) g.2.2.1<=i+1/\∀ k:Int,k∈(g.2.2.1:List Int)->0<=k/\k<(n:Int)) B):=by
 have q:=toNat_lt w;have hg:s.getD j.toNat bi.dflt∈s:=by
  rw[uah,uaq q];exact udg _
 have F:=C _ hg;have H:=F.1;have Q:=ew;refine⟨w,q,⟨by omega,by omega⟩,w,⟨q,rfl⟩,?_,λg u=>?_⟩;show(List.set _ _ _).length<=m;rw[udl];exact O;rcases uap u with h|h
 exact⟨Nat.le_succ_of_le (C g h).1,(C g h).2⟩;rw[h];refine⟨?_,λk N=>?_⟩;show((s.getD j.toNat bi.dflt).2.2.1++[(i:Int)]).length<=i+1;rw[ub5];exact Nat.succ_le_succ H;rcases udp.1 N with t|t
 exact F.2 k t;rw[uce.1 t];omega
def qmw(q:aq.den)(u:bD q):Tx ((List.length (α:=ar.den) (bq q):Int),bq q,q) []/\my (GrI (List.length (α:=ar.den) (bq q)) (List.length (α:=ar.den) (bq q))) (λy=>y.1.1=[]) (QY ((List.length (α:=ar.den) (bq q):Int),bq q,q) []):=
 nm (step:=DV ((List.length (α:=ar.den) (bq q):Int),bq q,q) True) (GrI (List.length (α:=ar.den) (bq q))) (λ(y:lU.R.X)=>y.1.1=[]) (bq q) (λi e s H w=>by
  have hi:=eD H;have N:List.length (α:=ar.den) (bq q)<=100000:=u.2.2.1;have O:=ew;have C:=w.len;refine⟨uT,N9 u _,u.1,λ_=>rfl,λ_=>⟨λ_ _=>uT,λ_=>⟨⟨by omega,by omega⟩,?_⟩,λh=>?_⟩⟩;refine Fr.satP_mono (λr t=>?_) (VT (ρ:=lU.R.X) (B:=λy=>y.1.1=[]) (m:=i+1) (s:=s++[SY q e]) (j:=(s.length:Int)) hi (by omega) ?_ ?_ (λg hg=>?_));cases r with
  |inl r=>exact⟨t.1,t.2⟩
  |inr y=>exact t
  rw[ub5];exact Nat.succ_le_succ C;rw[ub5];show 0<=(s.length:Int)/\(s.length:Int)<((s.length+1:Nat):Int);omega;rcases udp.1 hg with h|h
  exact w.at_ g h;rw[uce.1 h];exact⟨ufc _,λ_ h=>(nomatch h)⟩;have h0:0<=Ja q e s:=by
   have:=ucg h;exact ufg.1 this
  have F:=(xZ h0).1;refine Fr.satP_mono (λr t=>?_) (VT (ρ:=lU.R.X) (B:=λy=>y.1.1=[]) (m:=i+1) hi (by omega) (Nat.le_succ_of_le C) ⟨h0,F⟩ w.at_);cases r with
  |inl r=>exact⟨t.1,t.2⟩
  |inr y=>exact t) [] ⟨ufc _,λ_ h=>(nomatch h)⟩
def Nu(n:Nat)(y:aa [.sl bi,i64]):Prop:=List.length (α:=bi.den) y.1<=n/\∀ g:bi.den,g∈(y.1:List bi.den)->List.length (α:=Int) g.2.2.1<=n/\∀ k:Int,k∈(g.2.2.1:List Int)->0<=k/\k<(n:Int)
def Rn(i:aq.den)(m:bD i):(BE (i,())).satP (Nu (List.length (α:=ar.den) (bq i))):=by
 have t:List.length (α:=ar.den) (bq i)<=100000:=m.2.2.1;refine E3 (dI (uel t (by decide))) (qmw i m) (λs q=>⟨q.len,q.at_⟩) (λy j=>?_);have j:y.1.1=[]:=j;refine⟨?_,λg hg=>?_⟩;show List.length y.1.1<=_;rw[j];exact ufc _;have hg:g∈y.1.1:=hg;rw[j]at hg;cases hg
def AP:Ct:=⟨[.d aq],[.sl bi,i64],λx=>(BE x).get,λx=>[bD x.1]⟩
def qcl:af prog 54 AP:=bW qjh _ (λx _ i=>(cO (Rn x.1 i)).1)
def qmv(i:aq.den)(j:bD i):Nu (List.length (α:=ar.den) (bq i)) (AP.f (i,())):=(cO (Rn i j)).2
noncomputable def EV:Cx:=cx [(54,AP),(55,xa)] []
def s9:CxOK prog EV:=aP aG ⟨qcl,qby,uT⟩ trivial
abbrev vo:Pt:=⟨78,2,⟨[(37,.d i64),(36,.d i64),(35,.d aK),(30,.d i64),(29,.d i64),(28,.d (.sl bi))],[.x 1 59 aq,.r 1 1 0,.x 8 147 bi,.r 8 8 0,.o 6 99 aJ,.o 9 150 ar]⟩,⟨[(30,.d i64),(29,.d i64),(28,.d (.sl bi))],[.x 1 59 aq,.r 1 1 0,.x 8 147 bi,.r 8 8 0,.o 6 99 aJ,.o 9 150 ar]⟩,⟨[],[]⟩⟩
def DT(k:Int×(List Int)×Int×Int×(List bi.den)×aq.den×bi.den×(List aJ.den))(b:Prop)(i:Int)(e:i64.den)(s:(List ar.den)):Fr ((List ar.den)):=
 let a:=List.getD k.2.2.2.2.2.1.2.2.1 (Int.toNat e) ar.dflt;Jd b (Jd (0<=e/\e<((List.length k.2.2.2.2.2.1.2.2.1):Int)) (Jd (s.length + [a].length<=maxLen/\(s.length + [a].length)*72<=140737488355328) (Jv (s++[a]))))
noncomputable def RB:Code:=((Go.Ab.loopB (au f32 0) 0).getD .skip)
def MZ:vo.M.X->Fr vo.Out:=FG (λx=>(x.1.1,(x.1.2.1,x.1.2.2.1,x.1.2.2.2.1,x.1.2.2.2.2.1,x.1.2.2.2.2.2.1,x.2.1,x.2.2.1,x.2.2.2.1),x.2.2.2.2.1)) (λk=>k.1) (λk=>k.2.1) DT (λk s=>((k.2.2.1,k.2.2.2.1,k.2.2.2.2.1,()),(k.2.2.2.2.2.1,k.2.2.2.2.2.2.1,k.2.2.2.2.2.2.2,s,())))
def qr9:ae prog (.loop RB) vo.M vo MZ:=
 cN s9 (λi k s=>((i,k.1,k.2.1,k.2.2.1,k.2.2.2.1,k.2.2.2.2.1,()),k.2.2.2.2.2.1,k.2.2.2.2.2.2.1,k.2.2.2.2.2.2.2,s,())) i64.dflt
def IE:=λk s=>bO (DT k True) 0 k.2.1 s
def Tv:=λk s=>bM (DT k True) 0 k.2.1 s
def zd5(Γ:Gm):St->Option Tr:=vo.han Γ vo.M MZ
abbrev vq:Pt:=⟨78,4,⟨[(63,.d i64),(62,.d i64),(61,.d aK),(12,.d (.sl aJ)),(30,.d i64),(29,.d i64),(28,.d (.sl bi))],[.x 1 59 aq,.r 1 1 0,.o 6 99 aJ]⟩,⟨[(30,.d i64),(29,.d i64),(28,.d (.sl bi))],[.x 1 59 aq,.r 1 1 0,.o 6 99 aJ]⟩,⟨[],[]⟩⟩
def DU(k:Int×(List Int)×(List aJ.den)×Int×Int×(List bi.den)×aq.den)(b:Prop)(i:Int)(e:i64.den)(s:(List aJ.den)):Fr ((List aJ.den)):=
 Jd b (Jd (0<=i/\i<((List.length k.2.2.1):Int)) (Jd (0<=e/\e<(s.length:Int)) (Jd (Int.toNat e<s.length) (Jv (s.set (Int.toNat e) (List.getD k.2.2.1 (Int.toNat i) aJ.dflt))))))
noncomputable def RC:Code:=((Go.Ab.loopB (au f32 0) 1).getD .skip)
def Na:vq.M.X->Fr vq.Out:=FG (λx=>(x.1.1,(x.1.2.1,x.1.2.2.1,x.1.2.2.2.1,x.1.2.2.2.2.1,x.1.2.2.2.2.2.1,x.1.2.2.2.2.2.2.1,x.2.1),x.2.2.1)) (λk=>k.1) (λk=>k.2.1) DU (λk s=>((k.2.2.2.1,k.2.2.2.2.1,k.2.2.2.2.2.1,()),(k.2.2.2.2.2.2,s,())))
def qsa:ae prog (.loop RC) vq.M vq Na:=
 cN s9 (λi k s=>((i,k.1,k.2.1,k.2.2.1,k.2.2.2.1,k.2.2.2.2.1,k.2.2.2.2.2.1,()),k.2.2.2.2.2.2,s,())) i64.dflt
def QX:=λk s=>bO (DU k True) 0 k.2.1 s
def Tw:=λk s=>bM (DU k True) 0 k.2.1 s
def zd6(Γ:Gm):St->Option Tr:=vq.han Γ vq.M Na
end Go.Proofs.YtdokapnnagbehaaGreat
