/-
  Parts of the proof, one behind the other.
-/
import Derived.Test.YtdokapnnagbehaaGreatMj
import Derived.Deep.RegionLaw
import Derived.Lib.Overlaps
import Derived.Lib.AppendZerosOnto
import Derived.Laws.NewBlocks
import Derived.Lib.AppendZeros
set_option linter.all false
set_option maxRecDepth 100000
set_option maxHeartbeats 4000000
open Option renaming some->U,none->V
open Bool renaming true->Z,false->Y
open Decidable renaming decide->J
open Go Go.RowKit
variable {T α σ ρ β:Type} {P:Program} {ad:Addr} {arr cs cur:Array Value} {f:FuncId} {x a y day:Int} {k:IntKind} {l:List Int} {xs vs news:List Value} {off i n b c d j B m len:Nat} {F F' K:Nat->Prop} {R g R':Nat->Value->Prop} {o:Oper} {p:Prop} {e ety t ty el:TypeId} {v u vx:Value} {w w' W' W:World}
namespace Go.Proofs.YtdokapnnagbehaaGreat
open Go Go.Ab Go.RowKit Go.Proofs Tryz
open Go.Ab.Fr renaming val->Jv,need->Jd,br->Jb
noncomputable def LO:Cx:=cx [(144,A7)] []
def WV:CxOK prog LO:=aP (ps:=[]) aG ⟨Rx,uT⟩ trivial
noncomputable def Fh:FuncId->Option (Func×(Nat->St->Option Tr)):=cu [(143,(f143,bw)),(145,(f145,bw))]
def ZT:∀ f fn Λ,Fh f=U (fn,Λ)->prog.funcs[f]?= U fn/\∀ c a,fn.body=U c->bP prog a Λ c 0:=λf fn Λ h=>by
 simp only[Fh,cu]at h;split at h;rename_i b;subst b;cases h;exact⟨by kernel_rfl,λc a _=>aY c 0⟩;split at h;rename_i b;subst b;cases h;exact⟨by kernel_rfl,λc a _=>aY c 0⟩;cases h
noncomputable def E8:Cx:=cW [(97,G0)] [] (fU prog LO Fh)
def E9:CxOK prog E8:=cZ (ps:=[]) aG ⟨JX,uT⟩ trivial (gG WV ZT)
abbrev SW:List MI:=[.x 280001 114 aC,.r 1 280001 0,.x 280003 31 cn,.r 3 280003 0,.x 280004 213 aB,.r 4 280004 0,.y 280005 159 [(U 213,aB)],.r 5 280005 0,.g 6 143 [280004,280005],.x 6 140 aQ,.r 10006 6 0]
def MC:LS:=⟨[(26,.d aK),(27,.d i64),(28,.d i64)],SW⟩
def EC:LS:=⟨[],SW⟩
def uV:Pt:=⟨52,0,MC,EC,⟨[],[]⟩⟩
def gJ(out:List aB.den):Int:=I6.wrap ((out.length:Int)-1)
def jX(s:aB.den)(b:Int):aB.den:=((s.1.1,b,()),s.2)
def H6(s:aB.den)(out:List aB.den)(day:Int)(K:List aB.den->Fr α):Fr α:=
 Jb (s.1.1==day) (K out)
  (Jd (J (gJ out>=0)=Z->0<=gJ out/\gJ out<(out.length:Int))
   (Jd (J (gJ out>=0)=Z->(gJ out).toNat<out.length)
    (Jb (bif J (gJ out>=0)then (A7.f (out.getD (gJ out).toNat aB.dflt,jX s day,())).1 else Y)
     (Jd (0<=gJ out/\gJ out<(out.length:Int)) (Jd ((gJ out).toNat<out.length) (K (out.set (gJ out).toNat (jX (out.getD (gJ out).toNat aB.dflt) day)))))
     (Jd (out.length + [jX s day].length<=maxLen/\(out.length + [jX s day].length)*88<=140737488355328) (K (out++[jX s day]))))))
def Ps(s:aB.den)(c:az.den)(K:aB.den->Fr α):Fr α:=
 Jb (c.2.2.1==1) (K (s.1,s.2.1,c.2.2.2.1,s.2.2.2.1,s.2.2.2.2.1,()))
  (Jb (c.2.2.1==2) (Jd (([]:List ak.den).length+c.2.2.2.2.1.length<=maxLen/\(([]:List ak.den).length+c.2.2.2.2.1.length)*40<=140737488355328) (K (s.1,s.2.1,s.2.2.1,[]++c.2.2.2.2.1,s.2.2.2.2.1,())))
   (Jb (c.2.2.1==3) (K (s.1,Y,s.2.2.1,s.2.2.2.1,s.2.2.2.2.1,()))
    (Jb (c.2.2.1==4) (K (s.1,Z,s.2.2.1,s.2.2.2.1,s.2.2.2.2.1,())) (K s))))
def Im(x:MC.X):Fr uV.Out:=
 let l:List Int:=x.1.1;let n:Int:=x.1.2.1;let i:Int:=x.1.2.2.1;let h:aC.den:=x.2.1;let sp:cn.den:=x.2.2.1;let s:aB.den:=x.2.2.2.1;let out:List aB.den:=x.2.2.2.2.1.1;let v:aQ.den:=x.2.2.2.2.2.1
 let j:Int:=l.getD i.toNat i64.dflt
 Jb (J (i<n))
  (Jd (0<=i/\i<(l.length:Int))
   (Jd (0<=j/\j<((aL h).length:Int))
    (H6 s out (bZ h j).2.1 λa=>
     Jd (0<=j/\j<((aL h).length:Int))
      (Ps (((bZ h j).2.1,s.1.2.1,()),s.2) (bZ h j) λb=>Jv (Rd.next ((l,n,I6.wrap (i+1),()),(h,sp,b,(a,()),v,())))))))
  (Jv (Rd.out ((),(h,sp,s,(out,()),v,()))))
def qys:ae prog (au f87 0) MC uV Im:=ae.of_run E9 (bs:=280000) rfl rfl rfl (λ_=>aY _ 0) (λx=>by kernel_rfl)
def Un(s:aB.den):(out:List aB.den)->0<out.length->iW out s=if ni (out.getD (out.length-1) aB.dflt) s=Z then out.set (out.length-1) (jX (out.getD (out.length-1) aB.dflt) s.1.2.1)else out++[s]
 |[],h=>absurd h (by decide)
 |[x],_=>rfl
 |x::y::r,_=>by
  have c:=Un s (y::r) (by simp);have a:(x::y::r).length-1=((y::r).length-1)+1:=by simp
  have b:(x::y::r).getD ((x::y::r).length-1) aB.dflt=(y::r).getD ((y::r).length-1) aB.dflt:=by
   rfl
  show x::iW (y::r) s=_;rw[c,b,a];split;rfl;rfl
def Uo(s:aB.den):(out:List aB.den)->(iW out s).length<=out.length+1
 |[]=>by simp[iW]
 |[x]=>by unfold iW;split<;>simp
 |x::y::r=>by
  have:=Uo s (y::r);simp only[iW,uc9]at this |-;omega
def H5(s:aB.den)(out:List aB.den)(day:Int):(mP s out day).length<=out.length+1:=by
 unfold mP;split;omega;exact Uo _ _
def qph{out:List aB.den}(h:out.length<=1000000):gJ out=(out.length:Int)-1:=IntWalk.i64_in _ (by omega)
def P9{s:aB.den}{out:List aB.den}{K:List aB.den->Fr α}{Q:α->Prop}(l:out.length<=1000000)(h:(K (mP s out day)).satP Q):(H6 s out day K).satP Q:=by
 unfold mP at h;have n:=qph l;have j:out.length+1<=maxLen/\(out.length+1)*88<=140737488355328:=⟨by unfold maxLen;omega,by omega⟩;refine⟨λg=>?_,λg=>?_⟩;have a:=ufq g;rw[ufv a]at h;exact h;have a:=ud4 g;rw[ufw a]at h;refine⟨λi=>?_,λi=>?_,?_⟩;have:=ucx i;omega;have:=ucx i;omega;by_cases k:0<out.length;have c:J (gJ out>=0)=true:=uea (by omega);have m:(gJ out).toNat=out.length-1:=by omega
 have f:=Un (jX s day) out k;rw[c,m];refine⟨λd=>?_,λd=>?_⟩;have b:ni (out.getD (out.length-1) aB.dflt) (jX s day)=true:=d;rw[ufv b]at f;refine⟨⟨by omega,by omega⟩,by omega,?_⟩;have e:iW out ((s.1.1,day,()),s.2)=out.set (out.length-1) (jX (out.getD (out.length-1) aB.dflt) day):=f;rw[e]at h;exact h;have b:¬ ni (out.getD (out.length-1) aB.dflt) (jX s day)=true:=by
  intro o;have:ni (out.getD (out.length-1) aB.dflt) (jX s day)=false:=d;rw[o]at this;cases this
 rw[ufw b]at f;have e:iW out ((s.1.1,day,()),s.2)=out++[jX s day]:=f;rw[e]at h;exact⟨j,h⟩;have fF:out=[]:=uaz.1 (by omega);subst fF;have c:J (gJ []>=0)=false:=udv (by rw[n];decide);exact⟨λd=>(by cases d),λ_=>⟨j,h⟩⟩
def qf6{s:aB.den}{c:az.den}{K:aB.den->Fr α}{Q:α->Prop}(l:c.2.2.2.2.1.length<=1000000)(h:(K (Bl s c)).satP Q):(Ps s c K).satP Q:=by
 unfold Bl at h;have j:([]:List ak.den).length+c.2.2.2.2.1.length<=maxLen/\(([]:List ak.den).length+c.2.2.2.2.1.length)*40<=140737488355328:=by
  simp;exact⟨by unfold maxLen;omega,by omega⟩
 refine⟨λk=>?_,λk=>⟨λf=>?_,λf=>⟨λg=>?_,λg=>⟨λi=>?_,λi=>?_⟩⟩⟩⟩;have d:=ufq k;rw[ufv d]at h;exact h;have d:=ud4 k;have a:=ufq f;rw[ufw d,ufv a]at h;exact⟨j,h⟩;have d:=ud4 k;have a:=ud4 f;have b:=ufq g;rw[ufw d,ufw a,ufv b]at h;exact h;have d:=ud4 k;have a:=ud4 f;have b:=ud4 g;have e:=ufq i;rw[ufw d,ufw a,ufw b,ufv e]at h;exact h;have d:=ud4 k;have a:=ud4 f;have b:=ud4 g;have e:=ud4 i;rw[ufw d,ufw a,ufw b,ufw e]at h;exact h
structure InvC5 (l:List Int) (n i:Int) (h:aC.den) (out:List aB.den):Prop where
 i0:0<=i
 il:i<=n
 nl:n=l.length
 few:l.length<=500000
 inl:∀ x∈l,0<=x/\x<((aL h).length:Int)
 cov:∀ c∈aL h,c.2.2.2.2.1.length<=1000000
 outs:(out.length:Int)<=i
def Fd(x:MC.X):Fr uV.Out:=
 let l:List Int:=x.1.1;let n:Int:=x.1.2.1;let i:Int:=x.1.2.2.1;let h:aC.den:=x.2.1;let sp:cn.den:=x.2.2.1;let s:aB.den:=x.2.2.2.1;let out:List aB.den:=x.2.2.2.2.1.1;let v:aQ.den:=x.2.2.2.2.2.1
 Jd (InvC5 l n i h out) (Jv (Rd.out ((),(h,sp,(lG ((l.drop i.toNat).map (bZ h)) s out).1,((lG ((l.drop i.toNat).map (bZ h)) s out).2,()),v,()))))
def qpn (l:List Int) (n i:Int) (h:aC.den) (sp:cn.den) (s:aB.den) (out:List aB.den) (v:aQ.den) (c:InvC5 l n i h out) (Q:uV.Out->Prop)
  (f:Q (Rd.out ((),(h,sp,(lG ((l.drop i.toNat).map (bZ h)) s out).1,((lG ((l.drop i.toNat).map (bZ h)) s out).2,()),v,())))) :
  (Im ((l,n,i,()),(h,sp,s,(out,()),v,()))).satP λ
   |.next b=>InvC5 b.1.1 b.1.2.1 b.1.2.2.1 b.2.1 b.2.2.2.2.1.1/\((b.1.2.1:Int)-b.1.2.2.1).toNat<(n-i).toNat/\(Fd b).satP Q
   |.out y=>Q (.out y)
   |.back z=>Q (.back z)
   |.pan p=>Q (.pan p):=by
 obtain⟨u,x,rfl,r,k,m,A⟩:=c;obtain⟨a,rfl⟩:∃ n:Nat,i=n:=⟨i.toNat,by omega⟩;simp only[uc0]at f;dsimp only[Im,Ty.den,PT.den];refine⟨λhi=>?_,λhi=>?_⟩;have e:a<l.length:=by have:(a:Int)<(l.length:Int):=ucx hi;omega
 have w:I6.wrap ((a:Int)+1)=(a+1:Nat):=zv (by omega);rw[w];have q:=k _ (fo (d:=(0:Int)) e);rw[qf8 e,uek]at f;have g:bZ h (l.getD a 0)∈aL h:=by
  exact fo (by omega)
 have B:=H5 s out (bZ h (l.getD a 0)).2.1;have o:InvC5 l (l.length:Int) ((a+1:Nat):Int) h (mP s out (bZ h (l.getD a 0)).2.1):=⟨by omega,by omega,rfl,r,k,m,by omega⟩;have j:((l.length:Int)-((a+1:Nat):Int)).toNat<((l.length:Int)-(a:Int)).toNat:=by omega
 refine⟨⟨by omega,by omega⟩,q,P9 (by omega) ⟨q,qf6 (m _ g) ⟨o,j,o,f⟩⟩⟩;have t:¬ a<l.length:=by have:¬ (a:Int)<(l.length:Int):=uch hi;omega
 rw[ua2 (by omega)]at f;exact f
def qqu:ae prog (.loop (au f87 0)) MC uV Fd:=by
 refine ae.loop qys (μ:=λx=>((x.1.2.1:Int)-x.1.2.2.1).toNat) ?_ (λx Q h=>h.1);rintro⟨⟨l,n,i,_⟩,h,sp,s,⟨out,_⟩,v,_⟩ a Q b;exact qpn l n i h sp s out v a Q b.2
noncomputable def Fj:FuncId->Option (Func×(Nat->St->Option Tr)):=cu [(87,(f87,λ_=>uV.han E8.Γ MC Fd))]
def ZV:∀ f fn Λ,Fj f=U (fn,Λ)->prog.funcs[f]?= U fn/\∀ c a,fn.body=U c->bP prog a Λ c 0:=λf fn Λ h=>by
 simp only[Fj,cu]at h;split at h;rename_i e;subst e;cases h;exact⟨by kernel_rfl,λc a d=>zlp d (by kernel_rfl) (b:=au f87 0) (by kernel_rfl) (ae.han E9 rfl qqu)⟩;cases h
noncomputable def XJ:Cx:=cW [(85,Gr),(86,G6),(88,wZ)] [] (fU prog E8 Fj)
def Mf:CxOK prog XJ:=cZ (ps:=[]) aG ⟨qyg,zbr,zdg,uT⟩ trivial (gG E9 ZV)
def MO:LS:=⟨[(29,.d i64),(30,.d i64)],[.o 8 213 aB,.al 28 8,.x 6 140 aQ,.r 6 6 0]⟩
def EO:LS:=⟨[],[.o 8 213 aB]⟩
def vd:Pt:=⟨56,0,MO,EO,⟨[(4,.d zel),(5,.d i64)],[]⟩⟩
def gO(v:aQ.den)(s:aB.den):Int×Int:=wl v s.2.2.1 s.2.2.2.1
def lc(s:aB.den)(y:Int):aB.den:=(s.1,s.2.1,s.2.2.1,s.2.2.2.1,y,())
def fO(x:MO.X):Fr vd.Out:=
 let n:Int:=x.1.1;let i:Int:=x.1.2.1;let l:List aB.den:=x.2.1;let v:aQ.den:=x.2.2.1
 let s:aB.den:=l.getD i.toNat aB.dflt
 Jb (J (i<n))
  (Jd (0<=i/\i<(l.length:Int)) (Jd (i.toNat<l.length)
   (Jb (!s.2.1) (Jv (Rd.next ((n,I6.wrap (i+1),()),(l,v,()))))
    (Jd (0<=i/\i<(l.length:Int)) (Jd (i.toNat<l.length)
     (Jb ((wZ.f (v,s.2.2.1,s.2.2.2.1,())).2.1 != 0) (Jv (Rd.back (([],(wZ.f (v,s.2.2.1,s.2.2.2.1,())).2.1,()),())))
      (Jv (Rd.next ((n,I6.wrap (i+1),()),(l.set i.toNat (lc s (wZ.f (v,s.2.2.1,s.2.2.2.1,())).1),v,()))))))))))
  (Jv (Rd.out ((),(l,()))))
def qyz:ae prog (au f60 0) MO vd fO:=ae.of_run Mf (bs:=0) rfl rfl rfl (λ_=>aY _ 0) (λx=>by kernel_rfl)
def jP(v:aQ.den)(s:aB.den):aB.den:=if s.2.1=Z then lc s (gO v s).1 else s
def dj(v:aQ.den):List aB.den->Int
 |[]=>0
 |s::l=>if s.2.1=Z then (if (gO v s).2=0 then dj v l else (gO v s).2)else dj v l
structure InvO (n i:Int) (l:List aB.den):Prop where
 i0:0<=i
 il:i<=n
 nl:n=l.length
 few:l.length<=1000000
def ca(l:List aB.den)(e:Int):Fr vd.Out:=Jb (e != 0) (Jv (Rd.back (([],e,()),()))) (Jv (Rd.out ((),(l,()))))
def FO(x:MO.X):Fr vd.Out:=
 let n:Int:=x.1.1;let i:Int:=x.1.2.1;let l:List aB.den:=x.2.1;let v:aQ.den:=x.2.2.1
 Jd (InvO n i l) (ca (l.take i.toNat++(l.drop i.toNat).map (jP v)) (dj v (l.drop i.toNat)))
def qpv(n i:Int)(l:List aB.den)(v:aQ.den)(q:InvO n i l)(Q:vd.Out->Prop)(e:(ca (l.take i.toNat++(l.drop i.toNat).map (jP v)) (dj v (l.drop i.toNat))).satP Q):
  (fO ((n,i,()),(l,v,()))).satP λ
   |.next k=>InvO k.1.1 k.1.2.1 k.2.1/\((k.1.1:Int)-k.1.2.1).toNat<(n-i).toNat/\(FO k).satP Q
   |.out y=>Q (.out y)
   |.back z=>Q (.back z)
   |.pan p=>Q (.pan p):=by
 obtain⟨L,M,rfl,C⟩:=q;obtain⟨a,rfl⟩:∃ n:Nat,i=n:=⟨i.toNat,by omega⟩;simp only[uc0]at e;dsimp only[fO,Ty.den,PT.den];simp only[uc0];refine⟨λhi=>?_,λhi=>?_⟩
 ·have c:a<l.length:=by have:(a:Int)<(l.length:Int):=ucx hi;omega
  have w:I6.wrap ((a:Int)+1)=(a+1:Nat):=zv (by omega);rw[w];have E:l.getD a aB.dflt=l[a]:=by rw[uah,uaq c];rfl
  have H:l.drop a=l.getD a aB.dflt::l.drop (a+1):=by rw[E];exact ual c
  have u:((l.length:Int)-((a+1:Nat):Int)).toNat<((l.length:Int)-(a:Int)).toNat:=by omega
  have D:0<=(a:Int)/\(a:Int)<(l.length:Int):=⟨by omega,by omega⟩;rw[H]at e;generalize N:l.getD a aB.dflt=s at *;have B:l.take (a+1)=l.take a++[s]:=by
   rw[E];exact(uat c).symm
  refine⟨D,c,λh=>?_,λf=>⟨D,c,λx=>?_,λx=>?_⟩⟩;have d:¬ s.2.1=true:=by
   intro t;rw[t]at h;cases h
  have o:InvO (l.length:Int) ((a+1:Nat):Int) l:=⟨by omega,by omega,rfl,C⟩;refine⟨o,u,o,?_⟩;have m:dj v (s::l.drop (a+1))=dj v (l.drop (a+1)):=ufw d;have A:jP v s=s:=ufw d;rw[m,uek,A]at e;show(ca (l.take (a+1)++(l.drop (a+1)).map (jP v)) (dj v (l.drop (a+1)))).satP Q;rw[B,ucr];exact e;have b:s.2.1=true:=by
   cases t:s.2.1 with
   |true=>rfl
   |false=>rw[t]at f;cases f
  have j:¬ (gO v s).2=0:=ufl.1 x;have m:dj v (s::l.drop (a+1))=(gO v s).2:=by
   unfold dj;rw[ufv b,ufw j]
  rw[m]at e;exact e.1 x
  ·have b:s.2.1=true:=by
    cases t:s.2.1 with
    |true=>rfl
    |false=>rw[t]at f;cases f
   have j:(gO v s).2=0:=by
    have:((gO v s).2 != 0)=false:=x;simpa using this
   have g:(l.set a (lc s (gO v s).1)).length=l.length:=udo;have o:InvO (l.length:Int) ((a+1:Nat):Int) (l.set a (lc s (gO v s).1)):=⟨by omega,by omega,by rw[g],by rw[g];exact C⟩;refine⟨o,u,o,?_⟩;have m:dj v (s::l.drop (a+1))=dj v (l.drop (a+1)):=by
    conv=>lhs;unfold dj
    rw[ufv b,ufv j]
   have A:jP v s=lc s (gO v s).1:=ufv b;rw[m,uek,A]at e;show(ca ((l.set a (lc s (gO v s).1)).take (a+1)++((l.set a (lc s (gO v s).1)).drop (a+1)).map (jP v)) (dj v ((l.set a (lc s (gO v s).1)).drop (a+1)))).satP Q;have F:(l.set a (lc s (gO v s).1)).drop (a+1)=l.drop (a+1):=List.drop_set_of_lt (by omega);have G:(l.set a (lc s (gO v s).1)).take (a+1)=l.take a++[lc s (gO v s).1]:=by
    rw[List.take_add_one,List.take_set_of_le (by omega)];simp[c]
   rw[F,G,ucr];exact e
 have K:¬ a<l.length:=by have:¬ (a:Int)<(l.length:Int):=uch hi;omega
 rw[ua2 (by omega),ua3 (by omega)]at e;have r:=e.2 rfl;simp at r;exact r
def qq3:ae prog (.loop (au f60 0)) MO vd FO:=by
 refine ae.loop qyz (μ:=λx=>((x.1.1:Int)-x.1.2.1).toNat) ?_ (λx Q h=>h.1);rintro⟨⟨n,i,_⟩,l,v,_⟩ a Q b;exact qpv n i l v a Q b.2
def I2(v:aQ.den)(l:List aB.den):Fr (aa [zel,i64]):=
 let a:=l.drop (0:Int).toNat;Jd (InvO l.length 0 l) (Jb (dj v a != 0) (Jv ([],dj v a,())) (Jv (l.take (0:Int).toNat++a.map (jP v),0,())))
def ng(h:aC.den):aB.den×List aB.den:=lG (((bE h).drop (0:Int).toNat).map (bZ h)) ((h.2.2.1.1.1,0,()),Z,h.2.2.1.2.1,[]++h.2.2.1.2.2.1,0,()) []
def qlc(x:ag [.d aC,.d zll]):Fr (aa [zel,i64]):=
 let c:=x.1.2.2.1;let b:=([]:List ak.den);let a:=G6.f (x.2.1,c.1.1,());Jb (!(Gr.f (x.1,())).1) (Jv ([],1,()))
  (Jd (bJ x.2.1)
   (Jb (a.2.1 != 0) (Jv ([],a.2.1,()))
    (Jd (b.length+c.2.2.1.length<=maxLen/\(b.length+c.2.2.1.length)*40<=140737488355328)
     (Jd (((aL x.1).length:Int)<=1000000)
      (Jd (InvC5 (bE x.1) ((bE x.1).length:Int) 0 x.1 [])
       (H6 (ng x.1).1 (ng x.1).2 c.1.2.1 (I2 a.1)))))))
def of_run:af prog 60 (bg [.d aC,.d zll] [zel,i64] qlc):=
 cS Mf qq3
def bL(h:aC.den):Prop:=(aL h).length<=500000/\h.2.2.1.2.2.1.length<=1000000/\∀ c∈aL h,c.2.2.2.2.1.length<=1000000
def c9(h:aC.den)(t:zll.den):List aB.den×Int:=
 if zl2 h=Z then
  (if (cq h.2.2.1.1.1 t.1.reverse).2=0 then
   (if dj (cq h.2.2.1.1.1 t.1.reverse).1 (eH h)=0 then ((eH h).map (jP (cq h.2.2.1.1.1 t.1.reverse).1),0)else ([],dj (cq h.2.2.1.1.1 t.1.reverse).1 (eH h)))
  else ([],(cq h.2.2.1.1.1 t.1.reverse).2))
 else ([],1)
def fN:Ct:=⟨[.d aC,.d zll],[zel,i64],λx=>((c9 x.1 x.2.1).1,(c9 x.1 x.2.1).2,()),λx=>[bL x.1,bJ x.2.1]⟩
def CO(h:aC.den):(bE h).length=(aL h).length:=by
 unfold bE;rw[mj,Kl]
def CR{h:aC.den}(a:x∈bE h):0<=x/\x<((aL h).length:Int):=Km (yZ.1 a)
def QO:(l:List az.den)->(s:aB.den)->(out:List aB.den)->(lG l s out).2.length<=out.length+l.length
 |[],_,_=>ue9 _
 |c::l,s,out=>by
  have a:=QO l (Bl ((c.2.1,s.1.2.1,()),s.2) c) (mP s out c.2.1);have b:=H5 s out c.2.1;simp only[lG,uc9];omega
def CN:af prog 60 fN:=
 cQ of_run _ _ (λw F x vs r g=>by
  obtain⟨h,t,_⟩:=x;obtain⟨⟨j,p,k⟩,l⟩:bL h/\bJ t:=g;unfold c9;cases i:zl2 h with
  |false=>
   refine aZ ?_ ⟨uT,rfl⟩;show(!(zl2 h))=Z;rw[i];rfl
  |true=>
   refine aR ?_ (aF l ?_);show(!(zl2 h))=Y;rw[i];rfl;by_cases f:(cq h.2.2.1.1.1 t.1.reverse).2=0;rw[ufv f];refine aR ?_ (aF ?_ (aF ?_ (aF ?_ ?_)));show((cq h.2.2.1.1.1 t.1.reverse).2 != 0)=Y;rw[f];rfl;show([]:List ak.den).length+h.2.2.1.2.2.1.length<=maxLen/\(([]:List ak.den).length+h.2.2.1.2.2.1.length)*40<=140737488355328;simp;exact⟨by unfold maxLen;omega,by omega⟩;show((aL h).length:Int)<=1000000;omega;show InvC5 (bE h) ((bE h).length:Int) 0 h [];exact⟨ufa _,ub4 _,rfl,by rw[CO];exact j,λx o=>CR o,k,ufa _⟩;have m:(ng h).2.length<=500000:=by
    have:=QO (((bE h).drop (0:Int).toNat).map (bZ h)) ((h.2.2.1.1.1,0,()),Z,h.2.2.1.2.1,[]++h.2.2.1.2.2.1,0,()) [];have e:(((bE h).drop (0:Int).toNat).map (bZ h)).length=(aL h).length:=by
     rw[ud2];exact CO h
    rw[e]at this;have q:(ng h).2.length<=0+(aL h).length:=this;omega
   have c:mP (ng h).1 (ng h).2 h.2.2.1.1.2.1=eH h:=rfl;have b:(eH h).length<=1000000:=by
    rw[<- c];have:=H5 (ng h).1 (ng h).2 h.2.2.1.1.2.1;omega
   have a:(I2 (cq h.2.2.1.1.1 t.1.reverse).1 (eH h)).ok/\(I2 (cq h.2.2.1.1.1 t.1.reverse).1 (eH h)).get=((if dj (cq h.2.2.1.1.1 t.1.reverse).1 (eH h)=0 then ((eH h).map (jP (cq h.2.2.1.1.1 t.1.reverse).1),(0:Int))else ([],dj (cq h.2.2.1.1.1 t.1.reverse).1 (eH h))).1,(if dj (cq h.2.2.1.1.1 t.1.reverse).1 (eH h)=0 then ((eH h).map (jP (cq h.2.2.1.1.1 t.1.reverse).1),(0:Int))else ([],dj (cq h.2.2.1.1.1 t.1.reverse).1 (eH h))).2,()):=by
    refine aF ⟨ufa _,ub4 _,rfl,b⟩ ?_;by_cases d:dj (cq h.2.2.1.1.1 t.1.reverse).1 (eH h)=0;rw[ufv d];refine aR ?_ ⟨uT,rfl⟩;show(dj (cq h.2.2.1.1.1 t.1.reverse).1 (eH h) != 0)=Y;rw[d];rfl;rw[ufw d];exact aZ (ufl.2 d) ⟨uT,rfl⟩
   have n:=P9 (out:=(ng h).2) (Q:=λy=>y=((if dj (cq h.2.2.1.1.1 t.1.reverse).1 (eH h)=0 then ((eH h).map (jP (cq h.2.2.1.1.1 t.1.reverse).1),(0:Int))else ([],dj (cq h.2.2.1.1.1 t.1.reverse).1 (eH h))).1,(if dj (cq h.2.2.1.1.1 t.1.reverse).1 (eH h)=0 then ((eH h).map (jP (cq h.2.2.1.1.1 t.1.reverse).1),(0:Int))else ([],dj (cq h.2.2.1.1.1 t.1.reverse).1 (eH h))).2,())) (by omega) (by
    exact nL a.1 a.2)
   exact cO n;rw[ufw f];refine aZ ?_ ⟨uT,rfl⟩;exact ufl.2 f)
abbrev dD:Ty:=.pair i64 (.pair i64 (.pair i64 (.pair i64 (.pair i64 (.pair i64 .unit)))))
def wR:Ct:=⟨[.d i64],[.bool],λx=>(J (1<=x.1/\x.1<=1000000000),()),λ_=>[]⟩
def Ay:Ct:=⟨[.d i64],[.bool],λx=>(J (1<=x.1/\x.1<=292194),()),λ_=>[]⟩
def Wl(n a b:Int):(bif J (n>=a)then J (n<=b)else Y)=J (a<=n/\n<=b):=by
 simp
def qne:af prog 177 wR:=
 flat (ps:=[.d i64]) (rs:=[.bool]) (aP (cs:=[]) (ps:=[]) aG trivial trivial) (fn:=f177) (fr:=λx=>Jv (bif J (x.1>=1)then J (x.1<=1000000000)else Y,())) (0,()) (by kernel_rfl) (λx=>by kernel_rfl) _ _
  (λ_ _ x _ _ _=>⟨uT,ufu (Wl x.1 1 1000000000) rfl⟩)
def qe6:af prog 178 Ay:=
 flat (ps:=[.d i64]) (rs:=[.bool]) (aP (cs:=[]) (ps:=[]) aG trivial trivial) (fn:=f178) (fr:=λx=>Jv (bif J (x.1>=1)then J (x.1<=292194)else Y,())) (0,()) (by kernel_rfl) (λx=>by kernel_rfl) _ _
  (λ_ _ x _ _ _=>⟨uT,ufu (Wl x.1 1 292194) rfl⟩)
def Bb(i p k l b e:Int):Bool:=J (1<=i/\i<=1000000000)&&(J (1<=p/\p<=1000000000)&&(J (0<=e/\e<=1000000000)&&(J (0<=k/\k<=7)&&(J (1<=l/\l<=292194)&&J (1<=b/\b<=292194)))))
def Gf:Ct:=⟨[.d dD],[.bool],λx=>(Bb x.1.1 x.1.2.1 x.1.2.2.1 x.1.2.2.2.1 x.1.2.2.2.2.1 x.1.2.2.2.2.2.1,()),λ_=>[]⟩
noncomputable def Xx:Cx:=cx [(177,wR),(178,Ay)] []
def Xy:CxOK prog Xx:=aP aG ⟨qne,qe6,uT⟩ trivial
def qlb(x:ag [.d dD]):Fr (aa [.bool]):=
 let c:dD.den:=x.1
 Jv (bif bif bif bif bif bif (wR.f (c.1,())).1 then (wR.f (c.2.1,())).1 else Y then (bif c.2.2.2.2.2.1==0 then Z else (wR.f (c.2.2.2.2.2.1,())).1)else Y then J (c.2.2.1>=0)else Y then J (c.2.2.1<=7)else Y then (Ay.f (c.2.2.2.1,())).1 else Y then (Ay.f (c.2.2.2.2.1,())).1 else Y,())
def que(i p k l b e:Int):(bif bif bif bif bif bif J (1<=i/\i<=1000000000)then J (1<=p/\p<=1000000000)else Y then (bif e==0 then Z else J (1<=e/\e<=1000000000))else Y then J (k>=0)else Y then J (k<=7)else Y then J (1<=l/\l<=292194)else Y then J (1<=b/\b<=292194)else Y)=Bb i p k l b e:=by
 have a:(bif e==0 then Z else J (1<=e/\e<=1000000000))=J (0<=e/\e<=1000000000):=by
  rw[udx];simp;omega
 have c:J (0<=k/\k<=7)=(J (k>=0)&&J (k<=7)):=by
  simp
 unfold Bb;rw[a,c];cases J (1<=i/\i<=1000000000)<;>cases J (1<=p/\p<=1000000000)<;>cases J (0<=e/\e<=1000000000)<;>cases J (k>=0)<;>cases J (k<=7)<;>cases J (1<=l/\l<=292194)<;>rfl
def qt3:af prog 128 Gf:=
 flat (ps:=[.d dD]) (rs:=[.bool]) Xy (fn:=f128) (fr:=qlb) (dD.dflt,()) (by kernel_rfl) (λx=>by kernel_rfl) _ _
  (λ_ _ x _ _ _=>by
   obtain⟨⟨i,p,k,l,b,e,_⟩,_⟩:=x;exact⟨uT,ufu (que i p k l b e) rfl⟩)
abbrev bn:Ty:=.pair i64 (.pair i64 (.pair i64 .unit))
abbrev ah:Ty:=.pair i64 (.pair i64 (.pair cn (.pair i64 (.pair i64 (.pair i64 (.pair i64 (.pair i64 .unit)))))))
abbrev aD:Ty:=.pair i64 (.pair i64 (.pair i64 (.pair i64 (.pair i64 (.pair dm (.pair az (.pair dD (.pair bn (.pair ah .unit)))))))))
abbrev jourT:Ty:=.pair zll (.pair (.sl aD) .unit)
abbrev zjv:Ty:=.pair aC (.pair i64 .unit)
abbrev ar:Ty:=.pair dD (.pair (.sl bn) .unit)
abbrev aq:Ty:=.pair zll (.pair (.sl zjv) (.pair (.sl ar) (.pair (.sl ah) (.pair i64 .unit))))
def gq(g:α->Bool):List α->Int->Option Int
 |[],_=>V
 |x::r,i=>if g x=Z then U i else gq g r (i+1)
abbrev hZ(T:Ty):PT:=.fn [T] [.bool]
def wA(T:Ty):LS:=⟨[(0,.d (.sl T)),(1,hZ T),(7,.d i64),(8,.d i64)],[]⟩
def uY(T:Ty):Pt:=⟨19,0,wA T,⟨[],[]⟩,⟨[(4,.d i64)],[]⟩⟩
def PQ(T:Ty)(x:(wA T).X):Fr (uY T).Out:=
 match x with
 |((l,g,n,i,_),_)=>Jb (J (i<n))
  (Jd (0<=i/\i<l.length)
   (Jb (g (l.getD i.toNat T.dflt,())).1 (Jv (Rd.back ((i,()),())))
    (Jv (Rd.next ((l,g,n,I6.wrap (i+1),()),())))))
  (Jv (Rd.out ((),())))
def sQ(l:List α)(n i:Int):Prop:=0<=i/\i<=n/\n=l.length/\n<=9223372036854775807
def MH(T:Ty)(x:(wA T).X):Fr (uY T).Out:=
 Jd (sQ x.1.1 x.1.2.2.1 x.1.2.2.2.1) (Jb (gq (λn=>(x.1.2.1 (n,())).1) (x.1.1.drop x.1.2.2.2.1.toNat) x.1.2.2.2.1).isSome
   (Jv (.back (((gq (λn=>(x.1.2.1 (n,())).1) (x.1.1.drop x.1.2.2.2.1.toNat) x.1.2.2.2.1).getD (-1),()),()))) (Jv (.out ((),()))))
def qpt (T:Ty) (l:List T.den) (g:aa [T]->aa [.bool]) (n i:Int) (c:sQ l n i) (Q:(uY T).Out->Prop) (a:(Jb (gq (λn=>(g (n,())).1) (l.drop i.toNat) i).isSome (Jv (Rd.back (((gq (λn=>(g (n,())).1) (l.drop i.toNat) i).getD (-1),()),()))) (Jv (Rd.out ((),())))  : Fr (uY T).Out).satP Q) :
  (PQ T ((l,g,n,i,()),())).satP λ
   |.next b=>sQ b.1.1 b.1.2.2.1 b.1.2.2.2.1/\(b.1.2.2.1-b.1.2.2.2.1).toNat<(n-i).toNat/\(MH T b).satP Q
   |.out y=>Q (.out y)
   |.back z=>Q (.back z)
   |.pan p=>Q (.pan p):=by
 obtain⟨u,v,q,r⟩:=c;subst q;refine⟨λhi=>?_,λhi=>?_⟩;have h:i<(l.length:Int):=ucx hi;obtain⟨k,rfl⟩:∃ k:Nat,i=k:=⟨i.toNat,by omega⟩;have m:k<l.length:=by omega
 have o:l.getD (k:Int).toNat T.dflt=l[k]:=by
  rw[show(k:Int).toNat=k by omega,uah,uaq m];rfl
 have t:I6.wrap ((k:Int)+1)=k+1:=IntWalk.i64_in _ (by omega);have s:l.drop (k:Int).toNat=l[k]::l.drop (k+1):=by
  exact(ual m)
 rw[s]at a;dsimp only[Fr.satP];rw[o,t];refine⟨⟨by omega,by omega⟩,λd=>?_,λd=>?_⟩;have:gq (λn=>(g (n,())).1) (l[k]::l.drop (k+1)) k=U (k:Int):=ufv d;rw[this]at a;exact a.1 rfl;have f:¬ (g (l[k],())).1=true:=by rw[d];decide
 have:gq (λn=>(g (n,())).1) (l[k]::l.drop (k+1)) k=gq (λn=>(g (n,())).1) (l.drop (k+1)) (k+1):=ufw f;rw[this]at a;have j:sQ l l.length ((k:Int)+1):=⟨by omega,by omega,rfl,r⟩;refine⟨j,by omega,j,?_⟩;exact a;have h:¬ i<(l.length:Int):=uch hi;have e:l.drop i.toNat=[]:=ua2 (by omega);rw[e]at a;exact a.2 rfl
def uE{p:Program}{b:Code}(T:Ty)(c:ae p b (wA T) (uY T) (PQ T)):ae p (.loop b) (wA T) (uY T) (MH T):=by
 refine ae.loop c (μ:=λx=>(x.1.2.2.1-x.1.2.2.2.1).toNat) ?_ (λx Q h=>h.1);rintro⟨⟨l,g,n,i,_⟩,_⟩ a Q d;exact qpt T l g n i a Q d.2
def ii(g:α->Bool)(l:List α):Int:=(gq g l 0).getD (-1)
def eE(T:Ty):Ct:=⟨[.d (.sl T),hZ T],[i64],λx=>(ii (λn=>(x.2.1 (n,())).1) x.1,()),λ_=>[]⟩
def oQ(T:Ty)(x:ag [.d (.sl T),hZ T]):Fr (aa [i64]):=Jd (sQ x.1 x.1.length 0) (Jb (gq (λn=>(x.2.1 (n,())).1) x.1 0).isSome (Jv ((gq (λn=>(x.2.1 (n,())).1) x.1 0).getD (-1),())) (Jv (-1,())))
def um{p:Program}{T:Ty}(h:af p f ⟨[.d (.sl T),hZ T],[i64],λx=>(oQ T x).get,λx=>[(oQ T x).ok]⟩):af p f (eE T):=
 conv h _ _ (λw F x vs e _=>by
  obtain⟨l,g,_⟩:=x;obtain⟨v,j,rfl,i,_⟩:=e;have a:=mv i;have c:sQ l l.length 0:=⟨by omega,by omega,rfl,a⟩;refine aF c ?_;cases b:gq (λn=>(g (n,())).1) l 0 with
  |some k=>exact aZ rfl ⟨uT,by show(k,())=_;unfold ii;rw[b];rfl⟩
  |none=>exact aR rfl ⟨uT,by show((-1:Int),())=_;unfold ii;rw[b];rfl⟩)
def Qx(g:α->Bool):(l:List α)->(i:Int)->0<=i->J ((gq g l i).getD (-1)>=0)=l.any g
 |[],_,_=>rfl
 |x::r,i,h=>by
  unfold gq;simp;split;rename_i a;rw[a];simp[h];rename_i a;rw[Qx g r (i+1) (by omega)];simp[a]
def Cl(g:α->Bool)(l:List α):J (0<=ii g l)=l.any g:=Qx g l 0 (by omega)
def Qw(g:α->Bool):(l:List α)->(i k:Int)->gq g l i=U k->i<=k/\k<i+l.length/\∃ x,l[(k-i).toNat]?= U x/\g x=Z
 |[],_,_,h=>nomatch h
 |x::r,i,k,h=>by
  unfold gq at h;split at h;rename_i c;cases h;exact⟨by omega,by simp;omega,x,by rw[show(i-i).toNat=0 by omega];rfl,c⟩;obtain⟨d,e,y,a,b⟩:=Qw g r (i+1) k h;refine⟨by omega,by simp;omega,y,?_,b⟩;rw[show(k-i).toNat=(k-(i+1)).toNat+1 by omega];exact a
def xZ{g:α->Bool}{l:List α}(h:0<=ii g l):ii g l<l.length/\∃ x,l[(ii g l).toNat]?= U x/\g x=true:=by
 unfold ii at h |-;cases a:gq g l 0 with
 |none=>rw[a]at h;exact absurd h (by decide)
 |some k=>
  obtain⟨d,e,x,b,c⟩:=Qw g l 0 k a;rw[udd];exact⟨by omega,x,by simpa using b,c⟩
def fA(T:Ty):Ct:=⟨[.d (.sl T),hZ T],[.bool],λx=>(x.1.any (λn=>(x.2.1 (n,())).1),()),λ_=>[]⟩
def R0:af prog 175 (eE zjv):=
 um (cS (fn:=f175) aH (uE zjv (ae.of_run aH (bs:=0) rfl rfl rfl (λ_=>aY _ 0) (λx=>by kernel_rfl))) (ps:=[.d (.sl zjv),hZ zjv]) (rs:=[i64]) (fr:=oQ zjv))
def IP:af prog 230 (eE ar):=
 um (cS (fn:=f230) aH (uE ar (ae.of_run aH (bs:=0) rfl rfl rfl (λ_=>aY _ 0) (λx=>by kernel_rfl))) (ps:=[.d (.sl ar),hZ ar]) (rs:=[i64]) (fr:=oQ ar))
def R1:af prog 164 (eE ah):=
 um (cS (fn:=f164) aH (uE ah (ae.of_run aH (bs:=0) rfl rfl rfl (λ_=>aY _ 0) (λx=>by kernel_rfl))) (ps:=[.d (.sl ah),hZ ah]) (rs:=[i64]) (fr:=oQ ah))
noncomputable def Yo:Cx:=cx [(230,eE ar)] []
def Yp:CxOK prog Yo:=aP aG ⟨IP,uT⟩ trivial
def NE:af prog 210 (fA ar):=
 conv (aS Yp f210 (fr:=λx=>Jv (J (ii (λn=>(x.2.1 (n,())).1) x.1>=0),())) (ps:=[.d (.sl ar),hZ ar]) (rs:=[.bool])) _ _
  (λ_ _ x _ _ _=>⟨uT,ufu (Cl _ x.1) rfl⟩)
noncomputable def Yu:Cx:=cx [(164,eE ah)] []
def Yv:CxOK prog Yu:=aP aG ⟨R1,uT⟩ trivial
def Fu:af prog 114 (fA ah):=
 conv (aS Yv f114 (fr:=λx=>Jv (J (ii (λn=>(x.2.1 (n,())).1) x.1>=0),())) (ps:=[.d (.sl ah),hZ ah]) (rs:=[.bool])) _ _
  (λ_ _ x _ _ _=>⟨uT,ufu (Cl _ x.1) rfl⟩)
section
open Go.Shelf Go.Lib
def Cp:∃ i0 z,InsTy prog 55 116 3 i0 z 11 120:=
 have ⟨i0,a,b,c,d⟩:=ufm (show(prog.info? 116).map (λi=>(i.zero,i.size,i.bytes))=U (U (.agg #[.int .i64 0,.int .i64 0,.int .i64 0,.int .i64 0,.int .i64 0,.int .i64 0,.int .i64 0,.int .i64 0,.slice V 0 0,.slice V 0 0,.int .i64 0]),11,120) by kernel_rfl)
 ⟨i0,_,underlying55,underlying3,a,b,c,d,rfl,by decide⟩
def qnt:zV prog 273 116 11 120:=by
 intro w B n s v xs news hB hs hv h1 h63 hby;obtain⟨i0,z,T⟩:=Cp;obtain⟨vb,vc,v',w',rfl,hr',e3,e2,e4⟩:=T.fin hB hs hv h1 h63 hby;have hn:(n:Int)<=9223372036854775807:=by unfold maxLen at h63;omega
 go_enter func273,ntmps273
 rcases hs.2 with ⟨rfl,rfl⟩|⟨g,cap,cur,rfl,hbg,hg,hnc,hcm,hcs,htake⟩
 all_goals go_wp2_with (at_builtin;refine Lib.wpList_append_run _ rfl _ _ _ _ rfl _ _ rfl rfl _ _ (hr' _) ?_)
 all_goals (go_ret;exact⟨_,rfl,e3,e2,e4⟩)
def qnw:zX prog 273 116 11:=by
 intro w n i g b v vc cur xs news hi u p c o d k a j q s F G m x;obtain⟨i0,z,T⟩:=Cp;have t:b<=9223372036854775807:=by unfold maxLen at o;omega
 obtain⟨K,H,y,E,D,_,B⟩:=ul hi (by omega);have A:¬ (b=i+1):=by omega
 have C:¬ (b=i):=by omega
 obtain⟨C1,C2,f,h,L,M⟩:=T.shift hi u p c d a j q s m x (vc:=vc);have r:∀ lb l,(callFunc 275 #[.slice (U ⟨v,0,V⟩) 1 vc,.slice (U ⟨g,(i+1)*11,V⟩) lb l]).run prog w=.ok (.value (.bool Y)) w:=λlb l=>by
  rw[run_callFunc_extern func275 (by kernel_rfl) (by kernel_rfl) (by kernel_rfl) (e:=Extern.SlicesOverlaps.overlaps #[55,55] #[4]) (by kernel_rfl),
   Lib.run_overlaps_apart w 55 4 116 T.us 11 (λw=>by kernel_rfl) ⟨v,0,V⟩ ⟨g,(i+1)*11,V⟩ 1 vc lb l j 116 116 k.size cur.size (by simp[World.shape?,a]) (by simp[World.shape?,u]) (by omega) (by simp[World.frozen?,a]) (by simp[World.frozen?,a])]
  rfl
 go_enter func273,ntmps273
 go_wp2_with (simp only[r])
 go_region_law (refine vX rfl _ _ 55 55 rfl _ _ (by simp[Act.eval,Act.put]) (by simp[Act.eval,Act.put]) (f _ _ _) ?_)
 go_wp2_with (at_builtin;refine nI _ rfl _ _ 55 55 rfl _ _ rfl rfl (h _ _) ?_)
 go_ret
 exact⟨C2,rfl,rfl,L,M⟩
def qnu:zW prog 273 116 11 120:=by
 intro w n i g d S vc cur xs news hi K o r b c A u s v k C e m;obtain⟨i0,z,T⟩:=Cp;have j:n<=9223372036854775806:=by unfold maxLen at e;omega
 obtain⟨O,N,E,M,L,F,_⟩:=ul hi j;obtain⟨G,B,C1,C2,t,h,a,l,f,p,q,Q,R⟩:=T.grow hi K o r b c u s v k C e m (vc:=vc);have P:(d:Int)<(n:Int)+(1:Int):=by omega
 have D:¬ (G=i):=by omega
 have y:¬ (G=i+1):=by omega
 have H:¬ (d=i):=by omega
 have x:G<=9223372036854775807:=by unfold maxLen at f;omega
 go_enter func273,ntmps273
 go_wp2_with (first
  |(at_builtin;refine Lib.wpList_append_run _ rfl _ _ _ _ rfl _ _ rfl rfl _ _ (t _) ?_)
  |(at_builtin;refine nI _ rfl _ _ 55 55 rfl _ _ rfl rfl (h _ _) ?_)
  |(at_builtin;refine nI _ rfl _ _ 55 55 rfl _ _ rfl rfl (a _ _ _) ?_))
 go_region_law (refine vX rfl _ _ 55 55 rfl _ _ (by simp[Act.eval,Act.put]) (by simp[Act.eval,Act.put]) (a _ _ _) ?_)
 go_wp2
 go_ret
 exact⟨G,C2,rfl,p,q,l,f,Q,R⟩
def qnv:InsOK prog 273 116 zjv 120:=IY (enters_of func273 (by kernel_rfl) rfl) qnt qnu qnw
def qdp:CloneOK prog 274 116 zjv 120:=by
 refine⟨enters_of func274 (by kernel_rfl) rfl,λw n c A xs m l b g k d e=>?_⟩;obtain⟨i0,z,T⟩:=Cp;have a:=T.nil w
 go_enter func274,ntmps274
 cases A with
 |none=>
  have j:=l rfl;subst j;have o:xs=[]:=uab (by simpa using b);subst o
  go_wp2_with (simp only[a])
  go_ret
  exact⟨_,rfl,⟨rfl,rfl,rfl,ue9 _,λ_ _ _=>rfl⟩,ucs _ _ _ _⟩
 |some ad=>
  obtain⟨p,w',f,i,h⟩:=T.clone b (g ad rfl) k d e (n:=n) (c:=c)
  go_wp2_with (first|(simp only[a];done)|simp only[a]|(at_builtin;refine Lib.wpList_append_run _ rfl _ _ _ _ rfl _ _ rfl rfl _ _ (f _) ?_))
  go_ret
  exact⟨p,rfl,i,h⟩
def Cq:∃ i0 z,InsTy prog 56 150 3 i0 z 7 72:=
 have ⟨i0,a,b,c,d⟩:=ufm (show(prog.info? 150).map (λi=>(i.zero,i.size,i.bytes))=U (U (.agg #[.int .i64 0,.int .i64 0,.int .i64 0,.int .i64 0,.int .i64 0,.int .i64 0,.slice V 0 0]),7,72) by kernel_rfl)
 ⟨i0,_,underlying56,underlying3,a,b,c,d,rfl,by decide⟩
def qnx:zV prog 290 150 7 72:=by
 intro w B n s v xs news hB hs hv h1 h63 hby;obtain⟨i0,z,T⟩:=Cq;obtain⟨vb,vc,v',w',rfl,hr',e3,e2,e4⟩:=T.fin hB hs hv h1 h63 hby;have hn:(n:Int)<=9223372036854775807:=by unfold maxLen at h63;omega
 go_enter func290,ntmps290
 rcases hs.2 with ⟨rfl,rfl⟩|⟨g,cap,cur,rfl,hbg,hg,hnc,hcm,hcs,htake⟩
 all_goals go_wp2_with (at_builtin;refine Lib.wpList_append_run _ rfl _ _ _ _ rfl _ _ rfl rfl _ _ (hr' _) ?_)
 all_goals (go_ret;exact⟨_,rfl,e3,e2,e4⟩)
def qn0:zX prog 290 150 7:=by
 intro w n i g b v vc cur xs news hi u p c o d k a j q s F G m x;obtain⟨i0,z,T⟩:=Cq;have t:b<=9223372036854775807:=by unfold maxLen at o;omega
 obtain⟨K,H,y,E,D,_,B⟩:=ul hi (by omega);have A:¬ (b=i+1):=by omega
 have C:¬ (b=i):=by omega
 obtain⟨C1,C2,f,h,L,M⟩:=T.shift hi u p c d a j q s m x (vc:=vc);have r:∀ lb l,(callFunc 292 #[.slice (U ⟨v,0,V⟩) 1 vc,.slice (U ⟨g,(i+1)*7,V⟩) lb l]).run prog w=.ok (.value (.bool Y)) w:=λlb l=>by
  rw[run_callFunc_extern func292 (by kernel_rfl) (by kernel_rfl) (by kernel_rfl) (e:=Extern.SlicesOverlaps.overlaps #[56,56] #[4]) (by kernel_rfl),
   Lib.run_overlaps_apart w 56 4 150 T.us 7 (λw=>by kernel_rfl) ⟨v,0,V⟩ ⟨g,(i+1)*7,V⟩ 1 vc lb l j 150 150 k.size cur.size (by simp[World.shape?,a]) (by simp[World.shape?,u]) (by omega) (by simp[World.frozen?,a]) (by simp[World.frozen?,a])]
  rfl
 go_enter func290,ntmps290
 go_wp2_with (simp only[r])
 go_region_law (refine vX rfl _ _ 56 56 rfl _ _ (by simp[Act.eval,Act.put]) (by simp[Act.eval,Act.put]) (f _ _ _) ?_)
 go_wp2_with (at_builtin;refine nI _ rfl _ _ 56 56 rfl _ _ rfl rfl (h _ _) ?_)
 go_ret
 exact⟨C2,rfl,rfl,L,M⟩
def qny:zW prog 290 150 7 72:=by
 intro w n i g d S vc cur xs news hi K o r b c A u s v k C e m;obtain⟨i0,z,T⟩:=Cq;have j:n<=9223372036854775806:=by unfold maxLen at e;omega
 obtain⟨O,N,E,M,L,F,_⟩:=ul hi j;obtain⟨G,B,C1,C2,t,h,a,l,f,p,q,Q,R⟩:=T.grow hi K o r b c u s v k C e m (vc:=vc);have P:(d:Int)<(n:Int)+(1:Int):=by omega
 have D:¬ (G=i):=by omega
 have y:¬ (G=i+1):=by omega
 have H:¬ (d=i):=by omega
 have x:G<=9223372036854775807:=by unfold maxLen at f;omega
 go_enter func290,ntmps290
 go_wp2_with (first
  |(at_builtin;refine Lib.wpList_append_run _ rfl _ _ _ _ rfl _ _ rfl rfl _ _ (t _) ?_)
  |(at_builtin;refine nI _ rfl _ _ 56 56 rfl _ _ rfl rfl (h _ _) ?_)
  |(at_builtin;refine nI _ rfl _ _ 56 56 rfl _ _ rfl rfl (a _ _ _) ?_))
 go_region_law (refine vX rfl _ _ 56 56 rfl _ _ (by simp[Act.eval,Act.put]) (by simp[Act.eval,Act.put]) (a _ _ _) ?_)
 go_wp2
 go_ret
 exact⟨G,C2,rfl,p,q,l,f,Q,R⟩
def qnz:InsOK prog 290 150 ar 72:=IY (enters_of func290 (by kernel_rfl) rfl) qnx qny qn0
def qdr:CloneOK prog 291 150 ar 72:=by
 refine⟨enters_of func291 (by kernel_rfl) rfl,λw n c A xs m l b g k d e=>?_⟩;obtain⟨i0,z,T⟩:=Cq;have a:=T.nil w
 go_enter func291,ntmps291
 cases A with
 |none=>
  have j:=l rfl;subst j;have o:xs=[]:=uab (by simpa using b);subst o
  go_wp2_with (simp only[a])
  go_ret
  exact⟨_,rfl,⟨rfl,rfl,rfl,ue9 _,λ_ _ _=>rfl⟩,ucs _ _ _ _⟩
 |some ad=>
  obtain⟨p,w',f,i,h⟩:=T.clone b (g ad rfl) k d e (n:=n) (c:=c)
  go_wp2_with (first|(simp only[a];done)|simp only[a]|(at_builtin;refine Lib.wpList_append_run _ rfl _ _ _ _ rfl _ _ rfl rfl _ _ (f _) ?_))
  go_ret
  exact⟨p,rfl,i,h⟩
def Cr:∃ i0 z,InsTy prog 57 44 3 i0 z 9 72:=
 have ⟨i0,a,b,c,d⟩:=ufm (show(prog.info? 44).map (λi=>(i.zero,i.size,i.bytes))=U (U (.agg #[.int .i64 0,.int .i64 0,.int .i64 0,.int .i64 0,.int .i64 0,.int .i64 0,.int .i64 0,.int .i64 0,.int .i64 0]),9,72) by kernel_rfl)
 ⟨i0,_,underlying57,underlying3,a,b,c,d,rfl,by decide⟩
def qn4:zV prog 306 44 9 72:=by
 intro w B n s v xs news hB hs hv h1 h63 hby;obtain⟨i0,z,T⟩:=Cr;obtain⟨vb,vc,v',w',rfl,hr',e3,e2,e4⟩:=T.fin hB hs hv h1 h63 hby;have hn:(n:Int)<=9223372036854775807:=by unfold maxLen at h63;omega
 go_enter func306,ntmps306
 rcases hs.2 with ⟨rfl,rfl⟩|⟨g,cap,cur,rfl,hbg,hg,hnc,hcm,hcs,htake⟩
 all_goals go_wp2_with (at_builtin;refine Lib.wpList_append_run _ rfl _ _ _ _ rfl _ _ rfl rfl _ _ (hr' _) ?_)
 all_goals (go_ret;exact⟨_,rfl,e3,e2,e4⟩)
def qn7:zX prog 306 44 9:=by
 intro w n i g b v vc cur xs news hi u p c o d k a j q s F G m x;obtain⟨i0,z,T⟩:=Cr;have t:b<=9223372036854775807:=by unfold maxLen at o;omega
 obtain⟨K,H,y,E,D,_,B⟩:=ul hi (by omega);have A:¬ (b=i+1):=by omega
 have C:¬ (b=i):=by omega
 obtain⟨C1,C2,f,h,L,M⟩:=T.shift hi u p c d a j q s m x (vc:=vc);have r:∀ lb l,(callFunc 309 #[.slice (U ⟨v,0,V⟩) 1 vc,.slice (U ⟨g,(i+1)*9,V⟩) lb l]).run prog w=.ok (.value (.bool Y)) w:=λlb l=>by
  rw[run_callFunc_extern func309 (by kernel_rfl) (by kernel_rfl) (by kernel_rfl) (e:=Extern.SlicesOverlaps.overlaps #[57,57] #[4]) (by kernel_rfl),
   Lib.run_overlaps_apart w 57 4 44 T.us 9 (λw=>by kernel_rfl) ⟨v,0,V⟩ ⟨g,(i+1)*9,V⟩ 1 vc lb l j 44 44 k.size cur.size (by simp[World.shape?,a]) (by simp[World.shape?,u]) (by omega) (by simp[World.frozen?,a]) (by simp[World.frozen?,a])]
  rfl
 go_enter func306,ntmps306
 go_wp2_with (simp only[r])
 go_region_law (refine vX rfl _ _ 57 57 rfl _ _ (by simp[Act.eval,Act.put]) (by simp[Act.eval,Act.put]) (f _ _ _) ?_)
 go_wp2_with (at_builtin;refine nI _ rfl _ _ 57 57 rfl _ _ rfl rfl (h _ _) ?_)
 go_ret
 exact⟨C2,rfl,rfl,L,M⟩
def qn5:zW prog 306 44 9 72:=by
 intro w n i g d S vc cur xs news hi K o r b c A u s v k C e m;obtain⟨i0,z,T⟩:=Cr;have j:n<=9223372036854775806:=by unfold maxLen at e;omega
 obtain⟨O,N,E,M,L,F,_⟩:=ul hi j;obtain⟨G,B,C1,C2,t,h,a,l,f,p,q,Q,R⟩:=T.grow hi K o r b c u s v k C e m (vc:=vc);have P:(d:Int)<(n:Int)+(1:Int):=by omega
 have D:¬ (G=i):=by omega
 have y:¬ (G=i+1):=by omega
 have H:¬ (d=i):=by omega
 have x:G<=9223372036854775807:=by unfold maxLen at f;omega
 go_enter func306,ntmps306
 go_wp2_with (first
  |(at_builtin;refine Lib.wpList_append_run _ rfl _ _ _ _ rfl _ _ rfl rfl _ _ (t _) ?_)
  |(at_builtin;refine nI _ rfl _ _ 57 57 rfl _ _ rfl rfl (h _ _) ?_)
  |(at_builtin;refine nI _ rfl _ _ 57 57 rfl _ _ rfl rfl (a _ _ _) ?_))
 go_region_law (refine vX rfl _ _ 57 57 rfl _ _ (by simp[Act.eval,Act.put]) (by simp[Act.eval,Act.put]) (a _ _ _) ?_)
 go_wp2
 go_ret
 exact⟨G,C2,rfl,p,q,l,f,Q,R⟩
def qn6:InsOK prog 306 44 ah 72:=IY (enters_of func306 (by kernel_rfl) rfl) qn4 qn5 qn7
def qdu:CloneOK prog 307 44 ah 72:=by
 refine⟨enters_of func307 (by kernel_rfl) rfl,λw n c A xs m l b g k d e=>?_⟩;obtain⟨i0,z,T⟩:=Cr;have a:=T.nil w
 go_enter func307,ntmps307
 cases A with
 |none=>
  have j:=l rfl;subst j;have o:xs=[]:=uab (by simpa using b);subst o
  go_wp2_with (simp only[a])
  go_ret
  exact⟨_,rfl,⟨rfl,rfl,rfl,ue9 _,λ_ _ _=>rfl⟩,ucs _ _ _ _⟩
 |some ad=>
  obtain⟨p,w',f,i,h⟩:=T.clone b (g ad rfl) k d e (n:=n) (c:=c)
  go_wp2_with (first|(simp only[a];done)|simp only[a]|(at_builtin;refine Lib.wpList_append_run _ rfl _ _ _ _ rfl _ _ rfl rfl _ _ (f _) ?_))
  go_ret
  exact⟨p,rfl,i,h⟩
end
def pn(g:α->Int)(l:List α)(x:α):Int:=ii (λy=>J (g y>g x)) l
def iT(g:α->Int)(l:List α)(x:α):List α:=kL (if pn g l x<0 then (l.length:Int)else pn g l x) l [x]
abbrev sW(T:Ty):List PT:=[.d (.sl T),.d T,.fn [T] [i64]]
def xE(T:Ty)(n:Nat)(x:ag (sW T)):Fr (aa [.sl T]):=
 let b:=x.2.2.1;let a:=(x.1.length:Int);Jd (∀ y:aa [T],fi [T] y->av ([]:List Prop)) (Jb (J (pn (λy=>(b (y,())).1) x.1 x.2.1<0))
  (Jd (x.1.length<=maxLen) (Jd (x.1.length*n<=140737488355328) (Jd (0<=a/\a<=x.1.length) (Jd ([x.2.1].length=1) (Jd (x.1.length+1<=maxLen/\(x.1.length+1)*n<=140737488355328)
   (Jv (kL a x.1 [x.2.1],())))))))
  (Jd (x.1.length<=maxLen) (Jd (x.1.length*n<=140737488355328) (Jd (0<=pn (λy=>(b (y,())).1) x.1 x.2.1/\pn (λy=>(b (y,())).1) x.1 x.2.1<=x.1.length) (Jd ([x.2.1].length=1) (Jd (x.1.length+1<=maxLen/\(x.1.length+1)*n<=140737488355328)
   (Jv (kL (pn (λy=>(b (y,())).1) x.1 x.2.1) x.1 [x.2.1],()))))))))
def tx(T:Ty):Ct:=⟨sW T,[.sl T],λx=>(iT (λy=>(x.2.2.1 (y,())).1) x.1 x.2.1,()),λx=>[x.1.length<=100000]⟩
def Kg(T:Ty)(e:n<=1000)(x:ag (sW T))(f:x.1.length<=100000):(xE T n x).ok/\(xE T n x).get=(iT (λy=>(x.2.2.1 (y,())).1) x.1 x.2.1,()):=by
 have b:x.1.length<=maxLen:=by unfold maxLen;omega
 have c:x.1.length*n<=140737488355328:=by
  have:x.1.length*n<=100000*1000:=uee f e;omega
 have d:x.1.length+1<=maxLen/\(x.1.length+1)*n<=140737488355328:=by
  refine⟨by unfold maxLen;omega,?_⟩;have:(x.1.length+1)*n<=100001*1000:=uee (by omega) e;omega
 refine aF (λ_ _=>uT) ?_;by_cases a:pn (λy=>(x.2.2.1 (y,())).1) x.1 x.2.1<0;exact aZ (uea a) (aF b (aF c (aF ⟨by omega,by omega⟩ (aF rfl (aF d ⟨uT,by unfold iT;rw[ufv a];rfl⟩)))));refine aR (udv a) (aF b (aF c (aF ⟨by omega,?_⟩ (aF rfl (aF d ⟨uT,by unfold iT;rw[ufw a];rfl⟩)))));exact uet (xZ (by unfold pn at a;omega)).1
def zbz{i:Int}(a:0<=i)(b:i<(n:Int)):i.toNat<n:=by omega
abbrev wC(T:Ty):List PT:=[.d (.sl T),.d i64,.d T]
def BY(T:Ty)(n:Nat)(x:ag (wC T)):Fr (aa [.sl T]):=
 Jd (x.1.length<=maxLen) (Jd (x.1.length*n<=140737488355328) (Jd (0<=x.2.1/\x.2.1<(x.1.length:Int)) (Jd (x.2.1.toNat<x.1.length) (Jv (x.1.set x.2.1.toNat x.2.2.1,())))))
def AG(T:Ty):Ct:=⟨wC T,[.sl T],λx=>(x.1.set x.2.1.toNat x.2.2.1,()),λx=>[x.1.length<=100000,0<=x.2.1/\x.2.1<(x.1.length:Int)]⟩
def W5(T:Ty)(e:n<=1000)(x:ag (wC T))(a:x.1.length<=100000)(hi:0<=x.2.1/\x.2.1<(x.1.length:Int)):(BY T n x).ok/\(BY T n x).get=(x.1.set x.2.1.toNat x.2.2.1,()):=by
 obtain⟨l,i,y,_⟩:=x;have b:l.length<=maxLen:=by unfold maxLen;exact ueo a (by decide)
 have c:l.length*n<=140737488355328:=by
  have:l.length*n<=100000*1000:=uee a e;omega
 have d:i.toNat<l.length:=zbz hi.1 hi.2;exact aF b (aF c (aF hi (aF d ⟨uT,rfl⟩)))
def j7(T:Ty):Ct:=⟨[.d T,.pfn [T] [i64],.ptr T],[.bool],λx=>(J ((x.2.1 (x.1,())).1>(x.2.1 (x.2.2.1,())).1),()),λ_=>[]⟩
def qwj:af prog 272 (j7 zjv):=
 conv (aS aH f272 (fr:=λx=>Jv (J ((x.2.1 (x.1,())).1>(x.2.1 (x.2.2.1,())).1),())) (ps:=(j7 zjv).ps) (rs:=[.bool])) _ _ (λ_ _ _ _ _ _=>⟨uT,rfl⟩)
noncomputable def Yw:Cx:=l8 [(175,eE zjv),(272,j7 zjv)] [] [(274,.clone 116 zjv 120),(273,.ins 116 zjv 120)] (λ_ _ _ _=>V)
def Mi:CxOK prog Yw:=mI (cs:=[(175,eE zjv),(272,j7 zjv)]) (ps:=[]) (rs:=[(274,.clone 116 zjv 120),(273,.ins 116 zjv 120)]) aG ⟨R0,qwj,uT⟩ trivial ⟨qdp,qnv,uT⟩ (λ_ _ _ _ _ h=>(nomatch h))
def qwm:af prog 269 (tx zjv):=
 conv (aS Mi f269 (fr:=xE zjv 120) (ps:=sW zjv) (rs:=[.sl zjv])) _ _ (λ_ _ x _ _ h=>Kg zjv (by decide) x h)
def zc8:af prog 282 (AG zjv):=
 conv (aS Mi f282 (fr:=BY zjv 120) (ps:=wC zjv) (rs:=[.sl zjv])) _ _ (λ_ _ x _ _ h=>W5 zjv (by decide) x h.1 h.2)
def qwk:af prog 289 (j7 ar):=
 conv (aS aH f289 (fr:=λx=>Jv (J ((x.2.1 (x.1,())).1>(x.2.1 (x.2.2.1,())).1),())) (ps:=(j7 ar).ps) (rs:=[.bool])) _ _ (λ_ _ _ _ _ _=>⟨uT,rfl⟩)
noncomputable def Yx:Cx:=l8 [(230,eE ar),(289,j7 ar)] [] [(291,.clone 150 ar 72),(290,.ins 150 ar 72)] (λ_ _ _ _=>V)
def Mj:CxOK prog Yx:=mI (cs:=[(230,eE ar),(289,j7 ar)]) (ps:=[]) (rs:=[(291,.clone 150 ar 72),(290,.ins 150 ar 72)]) aG ⟨IP,qwk,uT⟩ trivial ⟨qdr,qnz,uT⟩ (λ_ _ _ _ _ h=>(nomatch h))
def qwn:af prog 286 (tx ar):=
 conv (aS Mj f286 (fr:=xE ar 72) (ps:=sW ar) (rs:=[.sl ar])) _ _ (λ_ _ x _ _ h=>Kg ar (by decide) x h)
def zda:af prog 297 (AG ar):=
 conv (aS Mj f297 (fr:=BY ar 72) (ps:=wC ar) (rs:=[.sl ar])) _ _ (λ_ _ x _ _ h=>W5 ar (by decide) x h.1 h.2)
def qwl:af prog 305 (j7 ah):=
 conv (aS aH f305 (fr:=λx=>Jv (J ((x.2.1 (x.1,())).1>(x.2.1 (x.2.2.1,())).1),())) (ps:=(j7 ah).ps) (rs:=[.bool])) _ _ (λ_ _ _ _ _ _=>⟨uT,rfl⟩)
noncomputable def Yy:Cx:=l8 [(164,eE ah),(305,j7 ah)] [] [(307,.clone 44 ah 72),(306,.ins 44 ah 72)] (λ_ _ _ _=>V)
def Yz:CxOK prog Yy:=mI (cs:=[(164,eE ah),(305,j7 ah)]) (ps:=[]) (rs:=[(307,.clone 44 ah 72),(306,.ins 44 ah 72)]) aG ⟨R1,qwl,uT⟩ trivial ⟨qdu,qn6,uT⟩ (λ_ _ _ _ _ h=>(nomatch h))
def qwo:af prog 302 (tx ah):=
 conv (aS Yz f302 (fr:=xE ah 72) (ps:=sW ah) (rs:=[.sl ah])) _ _ (λ_ _ x _ _ h=>Kg ah (by decide) x h)
abbrev db(s:aq.den):List zjv.den:=s.2.1
abbrev bq(s:aq.den):List ar.den:=s.2.2.1
abbrev jW(s:aq.den):List ah.den:=s.2.2.2.1
abbrev mg(s:aq.den):Int:=s.2.2.2.2.1
abbrev cC(f:aD.den):Int:=f.1
abbrev aU(f:aD.den):Int:=f.2.1
abbrev mU(f:aD.den):Int:=f.2.2.1
abbrev hH(f:aD.den):Int:=f.2.2.2.1
abbrev hN(f:aD.den):Int:=f.2.2.2.2.1
abbrev mV(f:aD.den):dm.den:=f.2.2.2.2.2.1
abbrev lF(f:aD.den):az.den:=f.2.2.2.2.2.2.1
abbrev fB(f:aD.den):dD.den:=f.2.2.2.2.2.2.2.1
abbrev mT(f:aD.den):bn.den:=f.2.2.2.2.2.2.2.2.1
abbrev fD(f:aD.den):ah.den:=f.2.2.2.2.2.2.2.2.2.1
abbrev nW(a:zjv.den):Int:=a.1.1
abbrev oR(g:ar.den):Int:=g.1.1
def gz(s:aq.den)(id:Int):Int:=ii (λa=>nW a==id) (db s)
def jH(s:aq.den)(id:Int):Int:=ii (λg=>oR g==id) (bq s)
def kj(s:aq.den)(id:Int):zjv.den×Bool:=if gz s id>=0 then ((db s).getD (gz s id).toNat zjv.dflt,Z)else (zjv.dflt,Y)
def FU:Ct:=⟨[.d zjv,.ptr i64],[.bool],λx=>(nW x.1==x.2.1,()),λ_=>[]⟩
def Gp:Ct:=⟨[.d ar,.ptr i64],[.bool],λx=>(oR x.1==x.2.1,()),λ_=>[]⟩
def ZZ:af prog 176 FU:=
 conv (aS aH f176 (fr:=λx=>Jv (nW x.1==x.2.1,())) (ps:=FU.ps) (rs:=[.bool])) _ _ (λ_ _ _ _ _ _=>⟨uT,rfl⟩)
def qkm:af prog 288 Gp:=
 conv (aS aH f288 (fr:=λx=>Jv (oR x.1==x.2.1,())) (ps:=Gp.ps) (rs:=[.bool])) _ _ (λ_ _ _ _ _ _=>⟨uT,rfl⟩)
noncomputable def Y0:Cx:=cx [(175,eE zjv),(230,eE ar),(176,FU),(288,Gp)] []
def Mk:CxOK prog Y0:=aP aG ⟨R0,IP,ZZ,qkm,uT⟩ trivial
abbrev sX:List PT:=[.d aq,.d i64]
def FV:Ct:=⟨sX,[i64],λx=>(gz x.1 x.2.1,()),λ_=>[]⟩
def Gq:Ct:=⟨sX,[i64],λx=>(jH x.1 x.2.1,()),λ_=>[]⟩
def N8:af prog 125 FV:=
 conv (aS Mk f125 (fr:=λx=>Jd (∀ y:aa [zjv],fi [zjv] y->av ([]:List Prop)) (Jv (gz x.1 x.2.1,()))) (ps:=sX) (rs:=[i64])) _ _ (λ_ _ _ _ _ _=>aF (λ_ _=>uT) ⟨uT,rfl⟩)
def Qq:af prog 285 Gq:=
 conv (aS Mk f285 (fr:=λx=>Jd (∀ y:aa [ar],fi [ar] y->av ([]:List Prop)) (Jv (jH x.1 x.2.1,()))) (ps:=sX) (rs:=[i64])) _ _ (λ_ _ _ _ _ _=>aF (λ_ _=>uT) ⟨uT,rfl⟩)
noncomputable def Y1:Cx:=cx [(125,FV),(285,Gq)] []
def Y2:CxOK prog Y1:=aP aG ⟨N8,Qq,uT⟩ trivial
def wN:Ct:=⟨sX,[zjv,.bool],λx=>((kj x.1 x.2.1).1,(kj x.1 x.2.1).2,()),λ_=>[]⟩
def NA:af prog 78 wN:=
 conv (aS Y2 f78 (fr:=λx=>Jb (J (gz x.1 x.2.1>=0)) (Jd (0<=gz x.1 x.2.1/\gz x.1 x.2.1<((db x.1).length:Int)) (Jv ((db x.1).getD (gz x.1 x.2.1).toNat zjv.dflt,Z,()))) (Jv (zjv.dflt,Y,()))) (ps:=sX) (rs:=[zjv,.bool])) _ _ (λ_ _ x _ _ _=>by
  by_cases h:gz x.1 x.2.1>=0;refine aZ (uea h) (aF ⟨h,(xZ h).1⟩ ⟨uT,?_⟩);show _=((kj x.1 x.2.1).1,(kj x.1 x.2.1).2,());unfold kj;rw[ufv h];rfl;refine aR (udv h) ⟨uT,?_⟩;show _=((kj x.1 x.2.1).1,(kj x.1 x.2.1).2,());unfold kj;rw[ufw h];rfl)
def ym(t:zll.den):aq.den:=(t,[],[],[],0,())
def Gy:Ct:=⟨[.d zll],[aq],λx=>(ym x.1,()),λ_=>[]⟩
def qt7:af prog 35 Gy:=
 conv (aS aH f35 (fr:=λx=>Jv (ym x.1,())) (ps:=[.d zll]) (rs:=[aq])) _ _ (λ_ _ _ _ _ _=>⟨uT,rfl⟩)
def qc(n a b:Int):Bool:=bif J (n>=a)then J (n<=b)else Y
def zc9{n b:Int}:qc n a b=Z↔a<=n/\n<=b:=by
 unfold qc;by_cases h:a<=n<;>simp[h]
abbrev N1:List PT:=[.d i64,.d i64,.d i64]
def gV:Ct:=⟨N1,[.bool],λx=>(qc x.1 x.2.1 x.2.2.1,()),λ_=>[]⟩
def W7:af prog 109 gV:=
 conv (aS aH f109 (fr:=λx=>Jv (qc x.1 x.2.1 x.2.2.1,())) (ps:=N1) (rs:=[.bool])) _ _ (λ_ _ _ _ _ _=>⟨uT,rfl⟩)
def A9:Ct:=⟨[.d dD],[ar],λx=>((x.1,[],()),()),λ_=>[]⟩
def T8:af prog 228 A9:=
 conv (aS aH f228 (fr:=λx=>Jv ((x.1,[],()),())) (ps:=[.d dD]) (rs:=[ar])) _ _ (λ_ _ _ _ _ _=>⟨uT,rfl⟩)
def uz(g:ar.den):Int:=match g.2.1.getLast? with
 |some a=>a.1
 |none=>g.1.2.2.2.2.1
def BV(g:ar.den):Fr (aa [i64]):=let a:=((List.length g.2.1):Int);Jb (J (a>0)) (Jd (0<=I6.wrap (a-1)/\I6.wrap (a-1)<a) (Jv ((List.getD g.2.1 (I6.wrap (a-1)).toNat bn.dflt).1,()))) (Jv (g.1.2.2.2.2.1,()))
def qpi{c:dD.den}{l:List bn.den}(b:(l.length:Int)<=9223372036854775807):(BV (c,l,())).ok/\(BV (c,l,())).get=(uz (c,l,()),()):=by
 cases l with
 |nil=>exact aR rfl ⟨uT,rfl⟩
 |cons a r=>
  have d:I6.wrap (((a::r).length:Int)-1)=r.length:=by
   rw[IntWalk.i64_in _ (by simp only[uc9]at b |-;omega)];simp
  unfold BV;refine aZ (by simp) ?_;dsimp only;rw[d];refine aF ⟨by omega,by simp only[uc9];omega⟩ ⟨uT,?_⟩;show((List.getD (a::r) ((r.length:Int)).toNat bn.dflt).1,())=_;unfold uz;rw[uao,uah];have:((r.length:Int)).toNat=(a::r).length-1:=by simp
  rw[this,uaq (by simp)];rfl
def A8:Ct:=⟨[.d ar],[i64],λx=>(uz x.1,()),λ_=>[]⟩
def qpg:af prog 238 A8:=
 conv (aS aH f238 (fr:=λx=>BV x.1) (ps:=[.d ar]) (rs:=[i64])) _ _ (λw F x vs e _=>by
  obtain⟨⟨c,l,_⟩,_⟩:=x;obtain⟨v,g,rfl,f,_⟩:=e;have b:l.length<=maxLen:=(aA.wf f.2.2).2.1.1;have a:(l.length:Int)<=9223372036854775807:=by
   unfold maxLen at b;omega
  exact qpi a)
abbrev yL:Ty:=.pair i64 (.pair i64 .unit)
abbrev lW:Pt:=⟨24,0,⟨[(9,.d i64),(8,.d i64),(7,.d aK)],[.x 2 241 yL,.r 2 2 0]⟩,⟨[],[]⟩,⟨[(4,.d .bool)],[]⟩⟩
abbrev vR:Type:=ag []×cR [.x 2 241 yL,.r 2 2 0]
def wd(e:i64.den)(s:vR):Fr (vR ⊕ lW.R.X):=
 Jb (bif J (e<s.2.1.1)then Z else J (e>s.2.1.2.1)) (Jv (.inr ((Y,()),()))) (Jv (.inl ((),(s.2.1.1,s.2.1.2.1,()),())))
def pS(x:lW.M.X):Int×List i64.den×vR:=(x.1.1,x.1.2.2.1,x.1.2.2.2,x.2)
def Rf(x:lW.M.X):Prop:=x.1.2.1=(x.1.2.2.1.length:Int)
def qvn(s:vR):lW.E.X:=((),())
def qe1:vR:=(aW _,bN _)
def Hp:lW.R.X:=(aW _,bN _)
def qsx:ae prog (.loop (au f110 0)) lW.M lW (FL wd pS Rf qvn Rd.back qe1 Hp):=
 qf aH (λ_ _=>.n .o) i64.dflt (λx=>x.1.2.1) (λx s=>((I6.wrap (x.1.1+1),x.1.2.1,x.1.2.2.1,s.1),s.2)) (λ_ h=>h)
def vJ(y:lW.M.X):vR ⊕ lW.R.X:=dt wd ((pS y).2.1.drop (pS y).1.toNat) (pS y).2.2
def qu0(y:lW.M.X):Prop:=jo wd ((pS y).2.1.drop (pS y).1.toNat) (pS y).2.2
def JM{step:T->σ->Fr (σ ⊕ ρ)}:(l:List T)->(∀ e∈l,∀ s,(step e s).ok)->(s:σ)->jo step l s
 |[],_,_=>trivial
 |e::l,h,s=>⟨h e ucc s,by
   split;exact JM l (λe a=>h e (ubj _ a)) _;trivial⟩
def ID{step:T->σ->Fr (σ ⊕ ρ)}{I:σ->Prop}{p:T->Bool}{c:ρ}(h:∀ e s,I s->(step e s).get=if p e=Z then .inl s else .inr c):(l:List T)->(s:σ)->I s->dt step l s=if l.all p=Z then .inl s else .inr c
 |[],_,_=>rfl
 |e::l,s,a=>by
  by_cases b:p e=Z;simp only[dt,h e s a,b,if_true,uej,uel];exact ID h l s a;simp only[dt,h e s a,b,ufs,uej,Bool.false_and,ub3]
def HY(x:ag [.d yL,.d aK]):Fr (aa [.bool]):=
 let a:=((0,((List.length x.2.1):Int),x.2.1,()),(x.1.1,x.1.2.1,()),());Jd (InL (Rf a) (pS a)) (Jd (qu0 a) (Jb (dF (vJ a)) (Jv (Z,())) (Jv ((zej Hp (vJ a)).1.1,()))))
def qjx:af prog 110 (bg [.d yL,.d aK] [.bool] HY):=
 cS aH qsx
def rf(a b:Int)(l:List Int):Bool:=l.all λx=>J (a<=x)&&J (x<=b)
def gk:Ct:=⟨[.d yL,.d aK],[.bool],λx=>(rf x.1.1 x.1.2.1 x.2.1,()),λ_=>[]⟩
def qnc(a b:Int)(l:List Int):dt wd l ((),(a,b,()),())=if rf a b l=Z then .inl ((),(a,b,()),())else .inr ((Y,()),()):=
 ID (I:=λs=>s=((),(a,b,()),())) (λe s f=>by
  subst f;by_cases c:e<a;rw[ufw (by simp;omega)];exact ufv (by simp[c]);by_cases d:e>b;rw[ufw (by simp;omega)];exact ufv (by simp[d]);rw[ufv (by simp;omega)];exact ufw (by simp;omega)) l _ rfl
def qnd:af prog 110 gk:=
 conv qjx _ _ (λw F x vs j _=>by
  obtain⟨⟨a,b,_⟩,l,_⟩:=x;obtain⟨v,k,rfl,m,f⟩:=j;obtain⟨n,i,rfl,g,_⟩:=f;have d:((List.length (α:=Int) l:Nat):Int)<=9223372036854775807:=mv g;show(HY ((a,b,()),l,())).ok/\(HY ((a,b,()),l,())).get=(rf a b l,());refine aF ⟨rfl,ufa _,ub4 _,d⟩ (aF (JM (step:=wd) _ (λe _ s=>⟨λ_=>uT,λ_=>uT⟩) _) ?_);have c:vJ ((0,((List.length (α:=Int) l:Nat):Int),l,()),(a,b,()),())=if rf a b l=Z then .inl ((),(a,b,()),())else .inr ((Y,()),()):=by
   show dt wd (List.drop 0 l) ((),(a,b,()),())=_;rw[uef,qnc]
  cases h:rf a b l;rw[h,ufw (by decide)]at c;refine aR (by show dF (vJ ((0,((List.length (α:=Int) l:Nat):Int),l,()),(a,b,()),()))=Y;rw[c];rfl) ⟨uT,?_⟩;show((zej Hp (vJ ((0,((List.length (α:=Int) l:Nat):Int),l,()),(a,b,()),()))).1.1,())=_;rw[c];rfl;rw[h,ufv rfl]at c;exact aZ (by show dF (vJ ((0,((List.length (α:=Int) l:Nat):Int),l,()),(a,b,()),()))=Z;rw[c];rfl) ⟨uT,rfl⟩)
noncomputable def XL:Cx:=cx [(110,gk),(102,tv),(140,fM),(109,gV)] []
def s8:CxOK prog XL:=aP aG ⟨qnd,SK,oT,W7,uT⟩ trivial
abbrev ay:Ty:=.pair i64 (.pair i64 (.pair i64 (.pair i64 (.pair i64 .unit))))
def BJ(x:ag [.d ah]):Fr (aa [.bool]):=
 let l:=x.1.2.1;let g:=x.1.2.2.2;let m:=gk.f ((1,10000,()),[g.1],());let k:=J (g.2.2.1>0);let h:=((gk.f ((0,0,()),[g.2.1,g.2.2.1,g.2.2.2.1],())).1,());let c:=((gk.f ((0,100,()),[g.2.2.2.1],())).1,());let b:=(Y,());let a:=gk.f ((0,1000000000000000,()),[g.2.1,g.2.2.1],());Jb (!(gk.f ((1,1000000000,()),[x.1.1],())).1) (Jb Z (Jv b) (Jb (l==1) (Jb m.1 (Jv h) (Jv b)) (Jb (l==2) (Jb (l==2) (Jb (g.1==0) (Jb a.1 (Jb k (Jv c) (Jv b)) (Jv b)) (Jv b)) (Jv b)) (Jb (l==3) (Jb (g.1==0) (Jb a.1 (Jb k (Jv c) (Jv b)) (Jv b)) (Jv b)) (Jv b))))) (Jb ((tv.f ((x.1.2.2.1.1,x.1.2.2.1.2.1,()),())).1==0) (Jb Z (Jv b) (Jb (l==1) (Jb m.1 (Jv h) (Jv b)) (Jb (l==2) (Jb (l==2) (Jb (g.1==0) (Jb a.1 (Jb k (Jv c) (Jv b)) (Jv b)) (Jv b)) (Jv b)) (Jb (l==3) (Jb (g.1==0) (Jb a.1 (Jb k (Jv c) (Jv b)) (Jv b)) (Jv b)) (Jv b))))) (Jb (!(gk.f ((1,255,()),[g.2.2.2.2.1],())).1) (Jv b) (Jb (l==1) (Jb m.1 (Jv h) (Jv b)) (Jb (l==2) (Jb (l==2) (Jb (g.1==0) (Jb a.1 (Jb k (Jv c) (Jv b)) (Jv b)) (Jv b)) (Jv b)) (Jb (l==3) (Jb (g.1==0) (Jb a.1 (Jb k (Jv c) (Jv b)) (Jv b)) (Jv b)) (Jv b))))))
def qjw:af prog 70 (bg [.d ah] [.bool] BJ):=
 aS s8 f70
def xz(x:ag [.d ay]):Fr (aa [.bool]):=
 let a:=(Y,());Jb (gk.f ((1,1000000000,()),[x.1.1],())).1 (Jb (gk.f ((0,1000000000,()),[x.1.2.1],())).1 (Jb (gk.f ((1,292194,()),[x.1.2.2.1],())).1 (Jb (gk.f ((0,7,()),[x.1.2.2.2.1],())).1 (Jv ((gk.f ((0,1000000000000000,()),[x.1.2.2.2.2.1],())).1,())) (Jv a)) (Jv a)) (Jv a)) (Jv a)
def qjv:af prog 113 (bg [.d ay] [.bool] xz):=
 aS s8 f113
def Qa(x:ag [.d dD]):Fr (aa [.bool]):=
 let a:=x.1.2.2;Jv (bif bif bif bif (gV.f (x.1.1,1,1000000000,())).1 then (gV.f (x.1.2.1,1,1000000000,())).1 else Y then (gV.f (a.2.2.2.1,0,1000000000,())).1 else Y then bif (gV.f (a.2.1,1,292194,())).1 then (gV.f (a.2.2.1,1,292194,())).1 else Y else Y then (gV.f (a.1,0,7,())).1 else Y,())
def qih:af prog 68 (bg [.d dD] [.bool] Qa):=
 aS s8 f68
def B4(x:ag [.d bn]):Fr (aa [.bool]):=
 let b:=gV.f (x.1.2.1,1,5,());let a:=gV.f (x.1.1,1,292194,());Jb (bif x.1.2.1==4 then Z else x.1.2.1==5) (Jv (bif bif a.1 then b.1 else Y then (gV.f (x.1.2.2.1,0,0,())).1 else Y,())) (Jv (bif bif a.1 then b.1 else Y then (gV.f (x.1.2.2.1,0,1000000000000000,())).1 else Y,()))
def qii:af prog 69 (bg [.d bn] [.bool] B4):=
 aS s8 f69
def PZ(x:ag [.d aD]):Fr (aa [.bool]):=
 let a:=x.1.2.2.2.2.2;let h:=a.1.2.1;let g:=a.2.2;let k:=g.1.2.2;let c:=a.2.1.2.2.2;let b:=g.2.2.1.2;let l:=b.2.2.2;Jv (bif bif bif bif bif bif bif bif bif bif bif bif bif bif ((List.length c.2.1):Int)==0 then ((List.length a.1.2.2.1):Int)==0 else Y then x.1.2.2.1==0 else Y then x.1.2.2.2.1==0 else Y then x.1.2.2.2.2.1==0 else Y then a.1.1.1==0&&(a.1.1.2.1==0&&Z)else Y then h.1==0&&(h.2.1==0&&(h.2.2.1==0&&(h.2.2.2.1==0&&Z)))else Y then a.2.1.1==0 else Y then a.2.1.2.1==0 else Y then a.2.1.2.2.1==0 else Y then c.2.2.1==0 else Y then c.1.1==0&&(c.1.2.1==0&&(c.1.2.2.1==0&&(c.1.2.2.2.1==0&&Z)))else Y then g.1.1==0&&(g.1.2.1==0&&(k.1==0&&(k.2.1==0&&(k.2.2.1==0&&(k.2.2.2.1==0&&Z)))))else Y then g.2.1.1==0&&(g.2.1.2.1==0&&(g.2.1.2.2.1==0&&Z))else Y then g.2.2.1.1==0&&(b.1==0&&(b.2.1.1==0&&(b.2.1.2.1==0&&Z)&&(b.2.2.1==0&&(l.1==0&&(l.2.1==0&&(l.2.2.1==0&&(l.2.2.2.1==0&&Z)))))))else Y,())
def qie:af prog 65 (bg [.d aD] [.bool] PZ):=
 aS s8 f65
def Ql(x:ag [.d ah,.d i64,.d i64]):Fr (aa [i64]):=
 let a:=fM.f ((x.1.2.2.1.1,x.1.2.2.1.2.1,()),x.2.1,());Jd ((bif x.1.2.1 != 1 then Z else !a.1)=Y->¬x.2.2.1<0) (Jb (bif bif x.1.2.1 != 1 then Z else !a.1 then Z else I6.wrap ((BitVec.ofInt I6.bits (Int.fdiv x.1.2.2.2.2.2.2.2.1 (2 ^ min (Int.toNat x.2.2.1) I6.bits)) &&& BitVec.ofInt I6.bits 1).toNat:Int)==0) (Jv (0,())) (Jv (x.1.2.2.2.1,())))
def qjo:af prog 308 (bg [.d ah,.d i64,.d i64] [i64] Ql):=
 aS s8 f308
def Dv(t:ah.den):Bool:=(BJ (t,())).get.1
def yJ(l:ay.den):Bool:=(xz (l,())).get.1
def Oq(c:dD.den):Bool:=(Qa (c,())).get.1
def qz(a:bn.den):Bool:=(B4 (a,())).get.1
def Ak(f:aD.den):Bool:=(PZ (f,())).get.1
def CZ(t:ah.den)(day a:Int):Int:=(Ql (t,day,a,())).get.1
def iD:Ct:=⟨[.d ah],[.bool],λx=>(Dv x.1,()),λ_=>[]⟩
def lx:Ct:=⟨[.d ay],[.bool],λx=>(yJ x.1,()),λ_=>[]⟩
def wO:Ct:=⟨[.d dD],[.bool],λx=>(Oq x.1,()),λ_=>[]⟩
def tk:Ct:=⟨[.d bn],[.bool],λx=>(qz x.1,()),λ_=>[]⟩
def Av:Ct:=⟨[.d aD],[.bool],λx=>(Ak x.1,()),λ_=>[]⟩
def G3:Ct:=⟨[.d ah,.d i64,.d i64],[i64],λx=>(CZ x.1 x.2.1 x.2.2.1,()),λx=>[¬ x.2.2.1<0]⟩
def vF:af prog 70 iD:=conv qjw _ _ (λ_ _ x _ _ _=>⟨by show(BJ x).ok;unfold BJ;(repeat' first|exact trivial|(refine⟨λ_=>?_,λ_=>?_⟩)),rfl⟩)
def yK:af prog 113 lx:=conv qjv _ _ (λ_ _ x _ _ _=>⟨by show(xz x).ok;unfold xz;(repeat' first|exact trivial|(refine⟨λ_=>?_,λ_=>?_⟩)),rfl⟩)
def Ot:af prog 68 wO:=conv qih _ _ (λ_ _ x _ _ _=>⟨uT,rfl⟩)
def Oy:af prog 69 tk:=conv qii _ _ (λ_ _ x _ _ _=>⟨by show(B4 x).ok;unfold B4;(repeat' first|exact trivial|(refine⟨λ_=>?_,λ_=>?_⟩)),rfl⟩)
def qbh:af prog 65 Av:=conv qie _ _ (λ_ _ x _ _ _=>⟨uT,rfl⟩)
def qv9:af prog 308 G3:=conv qjo _ _ (λ_ _ x _ _ h=>⟨⟨λ_=>h,by (repeat' first|exact trivial|(refine⟨λ_=>?_,λ_=>?_⟩))⟩,rfl⟩)
section
open Go.Shelf Go.Lib
abbrev aJ:Ty:=.pair i64 (.pair i64 (.pair i64 (.pair i64 (.pair i64 (.pair .bool .unit)))))
def yB{x:aJ.den}(g:arr.size=aJ.size)(h:aA w F aJ x (λj u=>arr[j]?= U u)):
  arr = #[.int .i64 x.1,.int .i64 x.2.1,.int .i64 x.2.2.1,.int .i64 x.2.2.2.1,.int .i64 x.2.2.2.2.1,.bool x.2.2.2.2.2.1]:=by
 obtain⟨a,b,c,d,e,f,_⟩:=h;refine uci λj=>?_
 match j with
 |0=>exact a.1
 |1=>exact b.1
 |2=>exact c.1
 |3=>exact d.1
 |4=>exact e.1
 |5=>exact f
 |j+6=>
  rw[ua1 (by rw[g];show 6<=j+6;omega)];simp
def iv{x:aJ.den}(a:inR .i64 x.1)(b:inR .i64 x.2.1)(c:inR .i64 x.2.2.1)(d:inR .i64 x.2.2.2.1)(e:inR .i64 x.2.2.2.2.1):
  aA w F aJ x (λj u=>[Value.int .i64 x.1,.int .i64 x.2.1,.int .i64 x.2.2.1,.int .i64 x.2.2.2.1,.int .i64 x.2.2.2.2.1,.bool x.2.2.2.2.2.1][j]?= U u):=
 ⟨⟨rfl,a⟩,⟨rfl,b⟩,⟨rfl,c⟩,⟨rfl,d⟩,⟨rfl,e⟩,rfl,uT⟩
def oS{y:aa [i64]}(h:dM w F [i64] y vs):vs=[.int .i64 y.1]/\inR .i64 y.1:=by
 obtain⟨v,g,rfl,⟨_,f,b⟩,c⟩:=h;subst c;obtain⟨a,d⟩:v.cells[0]?= U (Value.int .i64 y.1)/\inR .i64 y.1:=b;have e:v.cells = #[v]:=by
  cases v<;>first|rfl|(exact absurd (f.2 ⟨_,rfl⟩) (by decide))
 rw[e]at a;cases a;exact⟨rfl,d⟩
def qD(a:w.heap[b]?= U (.cells arr ty (0,0)))(k:Nat):w.cell? ⟨b,k,V⟩=arr[k]? := by
 simp[World.cell?,a]
def xV(a:w.heap[b]?= U (.cells arr ty (0,0)))(k:Nat):w.frozen? ⟨b,k,V⟩=false:=by
 simp[World.frozen?,a]
def qmu:UpdOK prog 183 aJ [i64] (λx y=>(y.1,x.2.1,x.2.2.1,x.2.2.2.1,x.2.2.2.2.1,x.2.2.2.2.2.1,())):=by
 refine⟨enters_of func183 (by kernel_rfl) rfl,λw F b ety arr x y vs a l p h m=>?_⟩;obtain⟨rfl,g⟩:=oS m;have i:=yB l h;subst i
 go_enter func183,ntmps183
 have j:=qD a;have k:=xV a;obtain⟨n,c,d,e,f,o,_⟩:=h
 go_wp2_with (simp only[j,k])
 first
  |exact⟨⟨_,rfl⟩,[.int .i64 y.1,.int .i64 x.2.1,.int .i64 x.2.2.1,.int .i64 x.2.2.2.1,.int .i64 x.2.2.2.2.1,.bool x.2.2.2.2.2.1],rfl,(uc2 w b 0 _ ety (0,0) _ a).trans (by simp[wrap64,udf]),iv (x:=(y.1,x.2.1,x.2.2.1,x.2.2.2.1,x.2.2.2.2.1,x.2.2.2.2.2.1,())) (g) (c.2) (d.2) (e.2) (f.2)⟩
  |exact⟨.tuple #[],[.int .i64 y.1,.int .i64 x.2.1,.int .i64 x.2.2.1,.int .i64 x.2.2.2.1,.int .i64 x.2.2.2.2.1,.bool x.2.2.2.2.2.1],rfl,rfl,(uc2 w b 0 _ ety (0,0) _ a).trans (by simp[wrap64,udf]),iv (x:=(y.1,x.2.1,x.2.2.1,x.2.2.2.1,x.2.2.2.2.1,x.2.2.2.2.2.1,())) (g) (c.2) (d.2) (e.2) (f.2)⟩
  |exact ue8 (v:=.tuple #[]) (ue2 rfl _ _ _) rfl ⟨⟨_,rfl⟩,[.int .i64 y.1,.int .i64 x.2.1,.int .i64 x.2.2.1,.int .i64 x.2.2.2.1,.int .i64 x.2.2.2.2.1,.bool x.2.2.2.2.2.1],rfl,(uc2 w b 0 _ ety (0,0) _ a).trans (by simp[wrap64,udf]),iv (x:=(y.1,x.2.1,x.2.2.1,x.2.2.2.1,x.2.2.2.2.1,x.2.2.2.2.2.1,())) (g) (c.2) (d.2) (e.2) (f.2)⟩
def qwa:UpdOK prog 184 aJ [i64] (λx y=>(x.1,I6.wrap (x.2.1+y.1),x.2.2.1,x.2.2.2.1,x.2.2.2.2.1,x.2.2.2.2.2.1,())):=by
 refine⟨enters_of func184 (by kernel_rfl) rfl,λw F b ety arr x y vs a k o g l=>?_⟩;obtain⟨rfl,p⟩:=oS l;have h:=yB k g;subst h
 go_enter func184,ntmps184
 have i:=qD a;have j:=xV a;obtain⟨c,m,d,e,f,n,_⟩:=g
 go_wp2_with (simp only[i,j])
 first
  |exact⟨⟨_,rfl⟩,[.int .i64 x.1,.int .i64 (I6.wrap (x.2.1+y.1)),.int .i64 x.2.2.1,.int .i64 x.2.2.2.1,.int .i64 x.2.2.2.2.1,.bool x.2.2.2.2.2.1],rfl,(uc2 w b 1 _ ety (0,0) _ a).trans (by simp[wrap64,udf]),iv (x:=(x.1,I6.wrap (x.2.1+y.1),x.2.2.1,x.2.2.2.1,x.2.2.2.2.1,x.2.2.2.2.2.1,())) (c.2) (gd .i64 _) (d.2) (e.2) (f.2)⟩
  |exact⟨.tuple #[],[.int .i64 x.1,.int .i64 (I6.wrap (x.2.1+y.1)),.int .i64 x.2.2.1,.int .i64 x.2.2.2.1,.int .i64 x.2.2.2.2.1,.bool x.2.2.2.2.2.1],rfl,rfl,(uc2 w b 1 _ ety (0,0) _ a).trans (by simp[wrap64,udf]),iv (x:=(x.1,I6.wrap (x.2.1+y.1),x.2.2.1,x.2.2.2.1,x.2.2.2.2.1,x.2.2.2.2.2.1,())) (c.2) (gd .i64 _) (d.2) (e.2) (f.2)⟩
  |exact ue8 (v:=.tuple #[]) (ue2 rfl _ _ _) rfl ⟨⟨_,rfl⟩,[.int .i64 x.1,.int .i64 (I6.wrap (x.2.1+y.1)),.int .i64 x.2.2.1,.int .i64 x.2.2.2.1,.int .i64 x.2.2.2.2.1,.bool x.2.2.2.2.2.1],rfl,(uc2 w b 1 _ ety (0,0) _ a).trans (by simp[wrap64,udf]),iv (x:=(x.1,I6.wrap (x.2.1+y.1),x.2.2.1,x.2.2.2.1,x.2.2.2.2.1,x.2.2.2.2.2.1,())) (c.2) (gd .i64 _) (d.2) (e.2) (f.2)⟩
def qw5:UpdOK prog 185 aJ [i64] (λx y=>(x.1,x.2.1,x.2.2.1,I6.wrap (x.2.2.2.1+y.1),x.2.2.2.2.1,x.2.2.2.2.2.1,())):=by
 refine⟨enters_of func185 (by kernel_rfl) rfl,λw F b ety arr x y vs a k o g l=>?_⟩;obtain⟨rfl,p⟩:=oS l;have h:=yB k g;subst h
 go_enter func185,ntmps185
 have i:=qD a;have j:=xV a;obtain⟨c,d,e,m,f,n,_⟩:=g
 go_wp2_with (simp only[i,j])
 first
  |exact⟨⟨_,rfl⟩,[.int .i64 x.1,.int .i64 x.2.1,.int .i64 x.2.2.1,.int .i64 (I6.wrap (x.2.2.2.1+y.1)),.int .i64 x.2.2.2.2.1,.bool x.2.2.2.2.2.1],rfl,(uc2 w b 3 _ ety (0,0) _ a).trans (by simp[wrap64,udf]),iv (x:=(x.1,x.2.1,x.2.2.1,I6.wrap (x.2.2.2.1+y.1),x.2.2.2.2.1,x.2.2.2.2.2.1,())) (c.2) (d.2) (e.2) (gd .i64 _) (f.2)⟩
  |exact⟨.tuple #[],[.int .i64 x.1,.int .i64 x.2.1,.int .i64 x.2.2.1,.int .i64 (I6.wrap (x.2.2.2.1+y.1)),.int .i64 x.2.2.2.2.1,.bool x.2.2.2.2.2.1],rfl,rfl,(uc2 w b 3 _ ety (0,0) _ a).trans (by simp[wrap64,udf]),iv (x:=(x.1,x.2.1,x.2.2.1,I6.wrap (x.2.2.2.1+y.1),x.2.2.2.2.1,x.2.2.2.2.2.1,())) (c.2) (d.2) (e.2) (gd .i64 _) (f.2)⟩
  |exact ue8 (v:=.tuple #[]) (ue2 rfl _ _ _) rfl ⟨⟨_,rfl⟩,[.int .i64 x.1,.int .i64 x.2.1,.int .i64 x.2.2.1,.int .i64 (I6.wrap (x.2.2.2.1+y.1)),.int .i64 x.2.2.2.2.1,.bool x.2.2.2.2.2.1],rfl,(uc2 w b 3 _ ety (0,0) _ a).trans (by simp[wrap64,udf]),iv (x:=(x.1,x.2.1,x.2.2.1,I6.wrap (x.2.2.2.1+y.1),x.2.2.2.2.1,x.2.2.2.2.2.1,())) (c.2) (d.2) (e.2) (gd .i64 _) (f.2)⟩
def qdw:UpdOK prog 186 aJ [i64] (λx y=>(x.1,x.2.1,x.2.2.1,x.2.2.2.1,x.2.2.2.2.1,Y,())):=by
 refine⟨enters_of func186 (by kernel_rfl) rfl,λw F b ety arr x y vs a l o h m=>?_⟩;obtain⟨rfl,p⟩:=oS m;have i:=yB l h;subst i
 go_enter func186,ntmps186
 have j:=qD a;have k:=xV a;obtain⟨c,d,e,f,g,n,_⟩:=h
 go_wp2_with (simp only[j,k])
 first
  |exact⟨⟨_,rfl⟩,[.int .i64 x.1,.int .i64 x.2.1,.int .i64 x.2.2.1,.int .i64 x.2.2.2.1,.int .i64 x.2.2.2.2.1,.bool Y],rfl,(uc2 w b 5 _ ety (0,0) _ a).trans (by simp[wrap64,udf]),iv (x:=(x.1,x.2.1,x.2.2.1,x.2.2.2.1,x.2.2.2.2.1,Y,())) (c.2) (d.2) (e.2) (f.2) (g.2)⟩
  |exact⟨.tuple #[],[.int .i64 x.1,.int .i64 x.2.1,.int .i64 x.2.2.1,.int .i64 x.2.2.2.1,.int .i64 x.2.2.2.2.1,.bool Y],rfl,rfl,(uc2 w b 5 _ ety (0,0) _ a).trans (by simp[wrap64,udf]),iv (x:=(x.1,x.2.1,x.2.2.1,x.2.2.2.1,x.2.2.2.2.1,Y,())) (c.2) (d.2) (e.2) (f.2) (g.2)⟩
  |exact ue8 (v:=.tuple #[]) (ue2 rfl _ _ _) rfl ⟨⟨_,rfl⟩,[.int .i64 x.1,.int .i64 x.2.1,.int .i64 x.2.2.1,.int .i64 x.2.2.2.1,.int .i64 x.2.2.2.2.1,.bool Y],rfl,(uc2 w b 5 _ ety (0,0) _ a).trans (by simp[wrap64,udf]),iv (x:=(x.1,x.2.1,x.2.2.1,x.2.2.2.1,x.2.2.2.2.1,Y,())) (c.2) (d.2) (e.2) (f.2) (g.2)⟩
def qw9:UpdOK prog 187 aJ [i64] (λx y=>(x.1,x.2.1,x.2.2.1,x.2.2.2.1,x.2.2.2.2.1,Z,())):=by
 refine⟨enters_of func187 (by kernel_rfl) rfl,λw F b ety arr x y vs a l o h m=>?_⟩;obtain⟨rfl,p⟩:=oS m;have i:=yB l h;subst i
 go_enter func187,ntmps187
 have j:=qD a;have k:=xV a;obtain⟨c,d,e,f,g,n,_⟩:=h
 go_wp2_with (simp only[j,k])
 first
  |exact⟨⟨_,rfl⟩,[.int .i64 x.1,.int .i64 x.2.1,.int .i64 x.2.2.1,.int .i64 x.2.2.2.1,.int .i64 x.2.2.2.2.1,.bool Z],rfl,(uc2 w b 5 _ ety (0,0) _ a).trans (by simp[wrap64,udf]),iv (x:=(x.1,x.2.1,x.2.2.1,x.2.2.2.1,x.2.2.2.2.1,Z,())) (c.2) (d.2) (e.2) (f.2) (g.2)⟩
  |exact⟨.tuple #[],[.int .i64 x.1,.int .i64 x.2.1,.int .i64 x.2.2.1,.int .i64 x.2.2.2.1,.int .i64 x.2.2.2.2.1,.bool Z],rfl,rfl,(uc2 w b 5 _ ety (0,0) _ a).trans (by simp[wrap64,udf]),iv (x:=(x.1,x.2.1,x.2.2.1,x.2.2.2.1,x.2.2.2.2.1,Z,())) (c.2) (d.2) (e.2) (f.2) (g.2)⟩
  |exact ue8 (v:=.tuple #[]) (ue2 rfl _ _ _) rfl ⟨⟨_,rfl⟩,[.int .i64 x.1,.int .i64 x.2.1,.int .i64 x.2.2.1,.int .i64 x.2.2.2.1,.int .i64 x.2.2.2.2.1,.bool Z],rfl,(uc2 w b 5 _ ety (0,0) _ a).trans (by simp[wrap64,udf]),iv (x:=(x.1,x.2.1,x.2.2.1,x.2.2.2.1,x.2.2.2.2.1,Z,())) (c.2) (d.2) (e.2) (f.2) (g.2)⟩
def gp:List (Int×TypeId):=[(1,169),(2,171),(3,173),(4,174),(5,176),(6,178),(7,229)]
def uO(k:Int):Value:=match cD gp k with
 |some ty=>.iface ty (.agg #[])
 |none=>.nilIface
def IM{k:Int}(h:k<1\/k>7):cD gp k=none:=by
 have:gp.find? (λx=>x.1==k)=none:=by
  rw[List.find?_eq_none];intro x a;simp only[gp,uei,List.not_mem_nil,or_false]at a;rcases a with rfl|rfl|rfl|rfl|rfl|rfl|rfl<;>simp<;>omega
 unfold cD;rw[this];rfl
def yX{k:Int}(h:1<=k/\k<=7):k=1\/k=2\/k=3\/k=4\/k=5\/k=6\/k=7:=by omega
def qkz(k:Int)(R:Ending->World->Prop)(w:World)(a:∀ o,R (.returned (uO k)) (w.alloc o)):Calls prog 64 #[.int .i64 k] w R:=by
 go_enter func64,ntmps64
 by_cases c:k<1
 ·have b:uO k=.nilIface:=by unfold uO;rw[IM (.inl c)]
  rw[b]at a
  go_wp2
  exact a _
 ·by_cases d:k>7
  ·have b:uO k=.nilIface:=by unfold uO;rw[IM (.inr d)]
   rw[b]at a
   go_wp2
   exact a _
  ·rcases yX (k:=k) (by omega)with rfl|rfl|rfl|rfl|rfl|rfl|rfl
   all_goals
    go_wp2
    exact a _
def R2{es:List (Int×TypeId)}{t:Ty}{x:Int×t.den}(h:cD es x.1=U ty)(a:bu w F t x.2 u):bu w F (.ic es t) x (.iface ty u):=
 ⟨rfl,⟨λh=>(by cases h),λh=>(by obtain⟨_,h⟩:=h;cases h)⟩,.inl ⟨ty,u,h,rfl,a⟩⟩
def Tb{es:List (Int×TypeId)}{t:Ty}{x:Int×t.den}(h:cD es x.1=V):bu w F (.ic es t) x .nilIface:=
 ⟨rfl,⟨λh=>(by cases h),λh=>(by obtain⟨_,h⟩:=h;cases h)⟩,.inr ⟨h,rfl⟩⟩
def Ui{t:Ty}{y:t.den}{o:Obj}(c:∀ b,F b->b<w.heap.size)(h:bu w F t y v):fJ w F [t] (y,()) (.returned v) (w.alloc o):=
 ⟨v,F,rfl,(ufi _ w).alloc (ue9 _) _,λ_ h=>h,λb a=>⟨.inl a,by have:=c b a;simp;omega⟩,h.mono (λ_ h=>h) (λb a=>udb _ _ _ (c b a))⟩
def Ry{k:Int}{u:Unit}(h:cJ prog w F [.d i64] (k,u) vs):vs=[.int .i64 k]/\inR .i64 k:=by
 obtain⟨v,a,rfl,b,c⟩:=h;exact oS (w:=w) (F:=F) (y:=(k,())) ⟨v,a,rfl,b,c⟩
def Gz:Ct:=⟨[.d i64],[.ic gp .unit],λx=>((x.1,()),()),λ_=>[]⟩
def qky:af prog 64 Gz:=by
 refine⟨enters_of func64 (by kernel_rfl) rfl,λw F xs vs a b _=>?_⟩;obtain⟨k,_⟩:=xs;obtain⟨rfl,_⟩:=Ry b;refine qkz k _ w λo=>Ui a ?_;unfold uO;split;rename_i ty h;exact R2 h ⟨rfl,⟨λ_=>⟨_,rfl⟩,λ_=>rfl⟩,uT⟩;rename_i h;exact Tb h
end
abbrev qn:Ty:=.pair (.fc V) (.pair (.fc (U 183)) (.pair (.fc (U 184)) (.pair (.fc (U 185)) (.pair (.fc (U 186)) (.pair (.fc (U 187)) .unit)))))
noncomputable def UI:List (FuncId×Row):=[(183,.upd aJ [i64] (λx y=>(y.1,x.2.1,x.2.2.1,x.2.2.2.1,x.2.2.2.2.1,x.2.2.2.2.2.1,()))),(184,.upd aJ [i64] (λx y=>(x.1,I6.wrap (x.2.1+y.1),x.2.2.1,x.2.2.2.1,x.2.2.2.2.1,x.2.2.2.2.2.1,()))),(185,.upd aJ [i64] (λx y=>(x.1,x.2.1,x.2.2.1,I6.wrap (x.2.2.2.1+y.1),x.2.2.2.2.1,x.2.2.2.2.2.1,()))),(186,.upd aJ [i64] (λx _=>(x.1,x.2.1,x.2.2.1,x.2.2.2.1,x.2.2.2.2.1,Y,()))),(187,.upd aJ [i64] (λx _=>(x.1,x.2.1,x.2.2.1,x.2.2.2.1,x.2.2.2.2.1,Z,())))]
noncomputable def XW:Cx:=l8 [(109,gV)] [] UI (λ_ _ _ _=>V)
def Mh:CxOK prog XW:=mI (cs:=[(109,gV)]) (ps:=[]) (rs:=UI) aG ⟨W7,uT⟩ trivial ⟨qmu,qwa,qw5,qdw,qw9,uT⟩ (λ_ _ _ _ _ h=>(nomatch h))
abbrev rT:Pt:=⟨28,0,⟨[(12,.d i64),(11,.d i64),(10,.d (.sl bn))],[.x 2 276 aJ,.r 2 2 0,.x 3 334 qn,.r 3 3 0,.x 4 276 aJ,.r 4 4 0]⟩,⟨[],[.x 2 276 aJ,.r 2 2 0,.x 4 276 aJ,.r 4 4 0]⟩,⟨[],[]⟩⟩
abbrev zi:Type:=ag []×cR [.x 2 276 aJ,.r 2 2 0,.x 3 334 qn,.r 3 3 0,.x 4 276 aJ,.r 4 4 0]
def mq(e:bn.den)(s:zi):Fr zi:=
 let d:=((),(),(),(),(),(),());let c:=s.2.2.2.1;let a:=c.2;let b:=a.2.2;Jb (gV.f (e.2.1,1,5,())).1 (Jd (0<=e.2.1/\e.2.1<(6:Int)) (Jd ((List.find? (λg=>g.1==e.2.1) (ji 0 (List.take 6 (List.drop 0 (List.drop 0 (enc qn s.2.2.1)))))).isSome=Z) (Jd (e.2.1≠0+1->av [e.2.1≠0+1+1->av [e.2.1≠0+1+1+1->av [e.2.1≠0+1+1+1+1->av [e.2.1=0+1+1+1+1+1]]]]) (Jv ((),s.2.1,d,(bif e.2.1==0+1 then (e.2.2.1,a.1,a.2.1,b.1,b.2.1,b.2.2.1,())else bif e.2.1==0+1+1 then (c.1,I6.wrap (a.1+e.2.2.1),a.2.1,b.1,b.2.1,b.2.2.1,())else bif e.2.1==0+1+1+1 then (c.1,a.1,a.2.1,I6.wrap (b.1+e.2.2.1),b.2.1,b.2.2.1,())else bif e.2.1==0+1+1+1+1 then (c.1,a.1,a.2.1,b.1,b.2.1,Y,())else (c.1,a.1,a.2.1,b.1,b.2.1,Z,())),()))))) (Jv ((),s.2.1,d,c,()))
def pX(x:rT.M.X):Int×List bn.den×zi:=(x.1.1,x.1.2.2.1,x.1.2.2.2,x.2)
def Rl(x:rT.M.X):Prop:=x.1.2.1=(x.1.2.2.1.length:Int)
def TG(s:zi):rT.E.X:=((),s.2.1,s.2.2.2.1,())
def qs5:ae prog (.loop (au f135 0)) rT.M rT (FF mq pX Rl TG):=
 LF Mh (λ_ _=>.n .o) bn.dflt (λx=>x.1.2.1) (λx s=>((I6.wrap (x.1.1+1),x.1.2.1,x.1.2.2.1,s.1),s.2)) (λ_ h=>h)
def qxk(y:rT.M.X):zi:=kJ mq ((pX y).2.1.drop (pX y).1.toNat) (pX y).2.2
def qu4(y:rT.M.X):Prop:=pg mq ((pX y).2.1.drop (pX y).1.toNat) (pX y).2.2
def qka(x:ag [.d ar]):Fr (aa [aJ]):=
 let a:=((0,((List.length x.1.2.1):Int),x.1.2.1,()),(0,0,0,0,0,Y,()),((),(),(),(),(),(),()),(0,0,0,0,0,Z,()),());Jd (InL (Rl a) (pX a)) (Jd (qu4 a) (Jv ((TG (qxk a)).2.2.1,())))
def qkb:af prog 135 (bg [.d ar] [aJ] qka):=
 cS Mh qs5
def m8(p:aJ.den)(a:bn.den):aJ.den:=
 bif qc a.2.1 1 5 then (bif a.2.1==1 then (a.2.2.1,p.2)else bif a.2.1==2 then (p.1,I6.wrap (p.2.1+a.2.2.1),p.2.2)else bif a.2.1==3 then (p.1,p.2.1,p.2.2.1,I6.wrap (p.2.2.2.1+a.2.2.1),p.2.2.2.2)
  else bif a.2.1==4 then (p.1,p.2.1,p.2.2.1,p.2.2.2.1,p.2.2.2.2.1,Y,())else (p.1,p.2.1,p.2.2.1,p.2.2.2.1,p.2.2.2.2.1,Z,()))else p
def nD(g:ar.den):aJ.den:=g.2.1.foldl m8 (0,0,0,0,0,Z,())
def qva{k:Int}(h:1<=k/\k<=5):k=1\/k=2\/k=3\/k=4\/k=5:=by omega
def KW(e:bn.den)(q p:aJ.den)(u:qn.den):(mq e ((),q,u,p,())).ok/\(mq e ((),q,u,p,())).get=((),q,u,m8 p e,()):=by
 obtain⟨b,k,m,_⟩:=e;cases a:qc k 1 5;have d:m8 p (b,k,m,())=p:=by unfold m8;rw[show qc (b,k,m,()).2.1 1 5=Y from a];rfl
 rw[d];exact aR a ⟨uT,rfl⟩;have c:=zc9.1 a;have f:=qva c;have d:∀ z,(m8 p (b,k,m,())=z)=((bif k==1 then (m,p.2)else bif k==2 then (p.1,I6.wrap (p.2.1+m),p.2.2)else bif k==3 then (p.1,p.2.1,p.2.2.1,I6.wrap (p.2.2.2.1+m),p.2.2.2.2)
 else bif k==4 then (p.1,p.2.1,p.2.2.1,p.2.2.2.1,p.2.2.2.2.1,Y,())else (p.1,p.2.1,p.2.2.1,p.2.2.2.1,p.2.2.2.2.1,Z,()):aJ.den)=z):=λz=>by
  unfold m8;rw[show qc (b,k,m,()).2.1 1 5=Z from a];rfl
 refine aZ a ?_;rcases f with rfl|rfl|rfl|rfl|rfl <;>
  exact aF (by first|exact(by decide:(0:Int)<=1/\(1:Int)<6)|exact(by decide:(0:Int)<=2/\(2:Int)<6)|exact(by decide:(0:Int)<=3/\(3:Int)<6)|exact(by decide:(0:Int)<=4/\(4:Int)<6)|exact(by decide:(0:Int)<=5/\(5:Int)<6)) (aF (by kernel_rfl) (aF (by simp[av]) ⟨uT,by rw[ueg];exact⟨rfl,by rw[eq_comm] ; rfl⟩⟩))
def Vv(q:aJ.den)(u:qn.den):(l:List bn.den)->(p:aJ.den)->kJ mq l ((),q,u,p,())=((),q,u,l.foldl m8 p,())
 |[],_=>rfl
 |e::l,p=>by
  show kJ mq l (mq e ((),q,u,p,())).get=_;rw[(KW e q p u).2];exact Vv q u l (m8 p e)
def Vx(q:aJ.den)(u:qn.den):(l:List bn.den)->(p:aJ.den)->pg mq l ((),q,u,p,())
 |[],_=>trivial
 |e::l,p=>⟨(KW e q p u).1,by
  rw[(KW e q p u).2];exact Vx q u l (m8 p e)⟩
def qkq{g:ar.den}(h:bu w F ar g v):((List.length (α:=bn.den) g.2.1:Nat):Int)<=9223372036854775807:=by
 have a:List.length g.2.1<=maxLen:=(aA.wf h.2.2).2.1.1;unfold maxLen at a;omega
def ly:Ct:=⟨[.d ar],[aJ],λx=>(nD x.1,()),λ_=>[]⟩
abbrev Ph:aJ.den:=(0,0,0,0,0,Y,())
abbrev Wn:qn.den:=((),(),(),(),(),(),())
def Vw:af prog 135 ly:=
 conv qkb _ _ (λw F x vs b _=>by
  obtain⟨g,_⟩:=x;obtain⟨v,d,rfl,c,_⟩:=b;have a:=qkq c;refine aF ⟨rfl,ufa _,ub4 _,a⟩ (aF ?_ ⟨uT,?_⟩);exact Vx Ph Wn (List.drop 0 g.2.1) _;show((kJ mq (List.drop 0 g.2.1) ((),Ph,Wn,(0,0,0,0,0,Z,()),())).2.2.2.1,())=(nD g,());rw[uef,Vv];rfl)
section
open Go.Shelf Go.Lib
def qnr:(prog.info? 42).map (λi=>(i.zero,i.size,i.bytes))=U (U (.agg #[.int .i64 0,.int .i64 0,.int .i64 0]),3,24):=by kernel_rfl
def qdq:CloneOK prog 239 42 bn 24:=by
 refine⟨enters_of func239 (by kernel_rfl) rfl,λw n c A xs K D f p g i l=>?_⟩;obtain⟨i0,m,q,r,s⟩:=ufm qnr;have a:∀ (A:Option Addr) (n c:Nat),(binOp .eql 148 (.slice A n c) (.slice V 0 0)).run prog w=.ok (.bool A.isNone) w:=λA n c=>by
  have g:binOp .eql 148 (.slice A n c) (.slice V 0 0)=(do pure (.bool (<- Op.equal 148 (.slice A n c) (.slice V 0 0)))):=rfl;have C:Op.equal 148 (.slice A n c) (.slice V 0 0)=Op.equalIn (9999+1) 148 (.slice A n c) (.slice V 0 0):=rfl;rw[g,C];simp[JJ underlying148]
 go_enter func239,ntmps239
 cases A with
 |none=>
  have z:=D rfl;subst z;have L:xs=[]:=uab (by simpa using f);subst L
  go_wp2_with (simp only[a])
  go_ret
  exact⟨_,rfl,⟨rfl,rfl,rfl,ue9 _,λ_ _ _=>rfl⟩,ucs _ _ _ _⟩
 |some ad=>
  have E:(w.alloc (.cells #[] 42)).ownsRow w.heap.size 42 3 (.slice (U ⟨w.heap.size,0,V⟩) 0 0) 0 []:=World.ownsRow_lit w #[] 0 (ue9 _) (by unfold maxLen;omega) rfl;have b:∀ (j:Nat) u,xs[j]?= U u->(w.alloc (.cells #[] 42)).cell? (ad.add j)=U u:=λj u G=>by
   have h:=p ad rfl j u G;have F:=block_lt_of_cell h;rw[ubd (nY w _ _ F)];exact h
  obtain⟨x,w',v,t,d,M⟩:=qr (P:=prog) (w:=w.alloc (.cells #[] 42)) (B:=w.heap.size) 148 148 42 i0 _ 3 underlying148 m q r rfl (by decide) _ 0 [] E (U ad) n c xs (λh=>by cases h) f (λy e=>by cases e;exact b) g (by rw[uex];exact i) (by rw[s,uex];exact l) (by simp);have o:∀ ty,(Builtin.append_ #[148,148] ty #[.slice (U ⟨w.heap.size,0,V⟩) 0 0,.slice (U ad) n c]).run prog (w.alloc (.cells #[] 42))=.ok x w':=λty=>v;clear v
  go_wp2_with (first|(simp only[a];done)|simp only[a]|(at_builtin;refine Lib.wpList_append_run _ rfl _ _ _ _ rfl _ _ rfl rfl _ _ (o _) ?_))
  go_ret
  rw[uex,udm]at t;refine⟨x,rfl,⟨d.os,d.tape,d.output,ueo (by simp) d.size,λk H _=>(d.block k (by simp;omega) (λe=>?_)).trans (nY w _ k H)⟩,t⟩;have:k=w.heap.size:=by simpa[Value.ownBlock]using e
  omega
end
noncomputable def XX:Cx:=l8 [(135,ly),(69,tk),(238,A8)] [] [(239,.clone 42 bn 24)] (λ_ _ _ _=>V)
def XY:CxOK prog XX:=mI (cs:=[(135,ly),(69,tk),(238,A8)]) (ps:=[]) (rs:=[(239,.clone 42 bn 24)]) aG ⟨Vw,Oy,qpg,uT⟩ trivial ⟨qdq,uT⟩ (λ_ _ _ _ _ h=>(nomatch h))
def HM(x:ag [.d ar,.d bn]):Fr (aa [ar,i64]):=
 let h:=ly.f (x.1,());let c:=x.1.2.1;let g:=((x.1.1,c++[x.2.1],()),0,());let b:=((0,0,0,0,0,0,()),[],());let a:=bif x.2.1.2.1==2 then J (x.2.1.2.2.1>I6.wrap (1000000000000000-h.1.2.1))else Y;Jb (!(tk.f (x.2.1,())).1) (Jv (b,1,())) (Jb (J (((List.length c):Int)>=2000)) (Jv (b,2,())) (Jb (J (x.2.1.1<(A8.f (x.1,())).1)) (Jv (b,4,())) (Jb (h.1.2.2.2.2.2.1==(x.2.1.2.1==5)) (Jv (b,10,())) (Jb a (Jb a (Jv (b,5,())) (Jd (List.length c<=maxLen) (Jd (List.length c*24<=140737488355328) (Jd (List.length c + [x.2.1].length<=maxLen/\(List.length c + [x.2.1].length)*24<=140737488355328) (Jv g))))) (Jb (bif x.2.1.2.1==3 then J (x.2.1.2.2.1>I6.wrap (1000000000000000-h.1.2.2.2.1))else Y) (Jv (b,5,())) (Jd (List.length c<=maxLen) (Jd (List.length c*24<=140737488355328) (Jd (List.length c + [x.2.1].length<=maxLen/\(List.length c + [x.2.1].length)*24<=140737488355328) (Jv g)))))))))
def qit:af prog 229 (bg [.d ar,.d bn] [ar,i64] HM):=
 aS XY f229
abbrev xX:ar.den:=((0,0,0,0,0,0,()),[],())
def G2(g:ar.den)(a:bn.den):Bool:=
 (bif a.2.1==2 then J (a.2.2.1>I6.wrap (1000000000000000-(nD g).2.1))else Y) || (bif a.2.1==3 then J (a.2.2.1>I6.wrap (1000000000000000-(nD g).2.2.2.1))else Y)
def o8(g:ar.den)(a:bn.den):ar.den×Int:=
 bif !(qz a)then (xX,1)else bif J (((List.length (α:=bn.den) g.2.1:Nat):Int)>=2000)then (xX,2)else bif J (a.1<uz g)then (xX,4)
  else bif (nD g).2.2.2.2.2.1==(a.2.1==5)then (xX,10)else bif G2 g a then (xX,5)else ((g.1,g.2.1++[a],()),0)
def qu:Ct:=⟨[.d ar,.d bn],[ar,i64],λx=>((o8 x.1 x.2.1).1,(o8 x.1 x.2.1).2,()),λ_=>[]⟩
def qen(g:ar.den)(a:bn.den):(HM (g,a,())).ok/\(HM (g,a,())).get=((o8 g a).1,(o8 g a).2,()):=by
 unfold o8;cases c:qz a;exact aZ (by show(!(qz a))=Z;rw[c];rfl) ⟨uT,rfl⟩;refine aR (by show(!(qz a))=Y;rw[c];rfl) ?_;cases h:J (((List.length g.2.1:Nat):Int)>=2000)
 rotate_left
 exact aZ rfl ⟨uT,rfl⟩;refine aR rfl ?_;have l:List.length g.2.1<2000:=by have:=uch h;omega
 have i:List.length g.2.1<=maxLen:=by unfold maxLen;omega
 have j:List.length g.2.1*24<=140737488355328:=by omega
 have k:List.length g.2.1 + [a].length<=maxLen/\(List.length (α:=bn.den) g.2.1 + [a].length)*24<=140737488355328:=by
  rw[ua7];exact⟨by unfold maxLen;omega,by omega⟩
 cases d:J (a.1<uz g)
 rotate_left
 exact aZ d ⟨uT,rfl⟩;refine aR d ?_;cases e:(nD g).2.2.2.2.2.1==(a.2.1==5)
 rotate_left
 exact aZ e ⟨uT,rfl⟩;refine aR e ?_;unfold G2;cases b:(bif a.2.1==2 then J (a.2.2.1>I6.wrap (1000000000000000-(nD g).2.1))else Y)
 rotate_left
 exact aZ b (aZ (by first|rfl|exact b) ⟨uT,rfl⟩);refine aR b ?_;cases f:(bif a.2.1==3 then J (a.2.2.1>I6.wrap (1000000000000000-(nD g).2.2.2.1))else Y)
 rotate_left
 exact aZ f ⟨uT,rfl⟩;exact aR f (aF i (aF j (aF k ⟨uT,rfl⟩)))
def OT:af prog 229 qu:=conv qit _ _ (λ_ _ x _ _ _=>qen x.1 x.2.1)
def X0:dm.den:=((1,101,()),(0,36500,0,0,()),[(1,1000,1000,0,10000,())],())
def bY.filter{key:α->Int}{l:List α}(h:bY key l)(p:α->Bool):bY key (l.filter p):=List.Pairwise.sublist List.filter_sublist h
def Good.all{p:List Int×List Int}{m:Int}(h:Good p m):∀ x∈p.1,x<=m:=by
 intro x c;have e:=(K1 h.up h.len).1;have d:=h.le;have a:p.1 ≠ []:=List.ne_nil_of_mem c;rw[List.getLast?_eq_some_getLast a]at d;have b:p.1.getLast a<=m:=d;have f:p.1=p.1.dropLast++[p.1.getLast a]:=(List.dropLast_concat_getLast a).symm;rw[f]at c e;rcases uds.1 c with c|c
 have:=(ubp.1 e).2.2 x c _ (ucf.2 rfl);exact uet (Int.lt_of_lt_of_le this b);rw[ucf.1 c];exact b
def qhn{h:aC.den}{t:zll.den}(a:mW h t=Z):bL h/\bJ t:=by
 unfold mW at a;simp only[udc,ucu,uc8]at a;obtain⟨⟨g,i,j⟩,b,d⟩:=a;refine⟨⟨by show h.2.2.2.1.length<=500000;omega,by omega,λc e=>?_⟩,by omega,λv f=>?_⟩;have:c.2.2.2.2.1.length<=50:=ucx (b c e);omega;have:=d v f;unfold tV at this;simp only[udc,ucu]at this;exact⟨by omega,by omega,by omega⟩
def Fm(h:aC.den)(c:az.den):aC.den:=(h.1,h.2.1,h.2.2.1,([]++h.2.2.2.1)++[c],())
def D3(n m:Nat):Prop:=n+m<=maxLen/\(n+m)*prog.types[38].bytes<=140737488355328
def OF:prog.types[38].bytes<=1000:=by decide
def fh.mem{g:Int->sD}{b:Int}:{a:Int} -> {l:List aB.den}->fh g b a l->∀ s∈l,a<=s.1.1/\s.1.1<s.1.2.1/\s.1.2.1<=b/\∀ d,s.1.1<=d->d<s.1.2.1->kp s=g d
 |_,[],_,_,c=>by cases c
 |a,t::l,h,s,c=>by
  obtain⟨i,e,n,j,o,f⟩:=h;rcases uei.1 c with rfl|c
  rw[i];exact⟨ufa _,e,f.le,j⟩;obtain⟨k,m⟩:=fh.mem f s c;exact⟨ue3 (uet e) k,m⟩
noncomputable def X6:Cx:=cx [(71,mB ak)] []
def X7:CxOK prog X6:=aP aG ⟨Bc,uT⟩ trivial
def AA:Ct:=⟨[.d dm],[dm],λx=>(x.1,()),λx=>[x.1.2.2.1.length<=1000000]⟩
def TL:af prog 271 AA:=
 cQ (aS X7 f271 (fr:=λx=>Jd (x.1.2.2.1.length<=1000000) (Jv (x.1,()))) (ps:=[.d dm])) _ _
  (λ_ _ _ _ _ a=>aF a ⟨uT,rfl⟩)
def fF:aC.den:=(0,0,((0,0,()),(0,0,0,0,()),[],()),[],())
def uy(h:aC.den):Int:=if (aL h).length=0 then h.2.1 else ((aL h).getD ((aL h).length-1) az.dflt).1
def py(h:aC.den)(c:az.den):aC.den×Int:=
 if gl c=Z/\gr h.2.2.1.1.1 h.2.2.1.1.2.1 c.2.1=Z then
  (if c.1<uy h then (fF,4)else if 2000<=(aL h).length then (fF,2)else (Fm h c,0))
 else (fF,1)
def Ox:Ct:=⟨[.d aC,.d az],[aC,i64],λx=>((py x.1 x.2.1).1,(py x.1 x.2.1).2,()),λx=>[bL x.1]⟩
noncomputable def X8:Cx:=cx [(71,mB ak),(67,ou),(140,fM),(271,AA)] []
def X9:CxOK prog X8:=aP aG ⟨Bc,GW,oT,TL,uT⟩ trivial
def BW(h:aC.den)(c:az.den)(last:Int):Fr (aa [aC,i64]):=
 let b:=(none:Option Int);let d:=List.drop (b.getD 0).toNat (aL h);let a:=((aL h).length:Int);Jb (bif !(ou.f (c,())).1 then Z else !(fM.f (h.2.2.1.1,c.2.1,())).1) (Jv (fF,1,()))
  (Jb (J (c.1<last)) (Jv (fF,4,()))
   (Jb (J (a>=2000)) (Jv (fF,2,()))
    (Jd (c.2.2.2.2.1.length<=1000000) (Jd (h.2.2.1.2.2.1.length<=1000000)
     (Jd (0<=b.getD 0/\b.getD 0<=a/\a<=a/\a=a)
      (Jd (0 < [c].length/\D3 (List.take (a-b.getD 0).toNat d).length [c].length)
       (Jv ((h.1,h.2.1,h.2.2.1,List.take (a-b.getD 0).toNat d++[c],()),0,()))))))))
def qld(x:ag [.d aC,.d az]):Fr (aa [aC,i64]):=
 let a:=((aL x.1).length:Int);Jb (J (a>0))
  (Jd (0<=I6.wrap (a-1)/\I6.wrap (a-1)<a)
   (BW x.1 x.2.1 (List.getD (aL x.1) (I6.wrap (a-1)).toNat az.dflt).1))
  (BW x.1 x.2.1 x.1.2.1)
def qwv:af prog 281 (bg [.d aC,.d az] [aC,i64] qld):=
 aS X9 f281
def qxw(a:n<=2000):D3 n 1:=by
 refine⟨by unfold maxLen;omega,ueo (uee (show n+1<=2001 by omega) OF) (by decide)⟩
def NT{a b:Bool}:(bif !a then Z else !b)=Y↔a=Z/\b=true:=by
 cases a<;>cases b<;>simp
def zbo(l:List az.den):List.take ((l.length:Int)-(none:Option Int).getD 0).toNat (List.drop ((none:Option Int).getD 0).toNat l)=l:=by
 show List.take ((l.length:Int)-0).toNat l=l;rw[uer,uc0,List.take_length]
def oe{a b:Bool}(h:(bif a then b else Y)=Z):a=Z/\b=true:=by
 cases a with
 |false=>cases h
 |true=>exact⟨rfl,h⟩
def Jt(h:((n:Int)==0)=Z):n<=1000000:=by
 have:(n:Int)=0:=ufq h;omega
def OE{c:az.den}(h:gl c=Z):c.2.2.2.2.1.length<=1000000:=by
 unfold gl Jp at h;rw[udc,udc]at h;have a:=h.2.2;split at a;exact Jt (oe (oe a).1).2;split at a;have b:l7 c.2.2.2.2.1=true:=(oe (oe a).1).1;unfold l7 at b;rw[udc]at b;have:=ucx b.1;exact ueo this.2 (by decide);split at a;exact Jt (oe (oe a).1).2;split at a;exact Jt (oe (oe a).1).2;cases a
def Q8{h:aC.den}{c:az.den}{last:Int}(j:last=uy h)(g:bL h):
  (BW h c last).ok/\(BW h c last).get=((py h c).1,(py h c).2,()):=by
 subst j;unfold py;cases d:(bif !(ou.f (c,())).1 then Z else !(fM.f (h.2.2.1.1,c.2.1,())).1)with
 |true=>
  refine aZ d ⟨uT,?_⟩;have a:¬ (gl c=Z/\gr h.2.2.1.1.1 h.2.2.1.1.2.1 c.2.1=Z):=λi=>by
   have b:(bif !gl c then Z else !gr h.2.2.1.1.1 h.2.2.1.1.2.1 c.2.1)=true:=d;rw[NT.2 i]at b;cases b
  rw[ufw a];rfl
 |false=>
  refine aR d ?_;have a:gl c=Z/\gr h.2.2.1.1.1 h.2.2.1.1.2.1 c.2.1=true:=NT.1 d;rw[ufv a];by_cases b:c.1<uy h;rw[ufv b];exact aZ (uea b) ⟨uT,rfl⟩;rw[ufw b];refine aR (udv b) ?_;by_cases e:2000<=(aL h).length;rw[ufv e];exact aZ (uea (by omega)) ⟨uT,rfl⟩;rw[ufw e];refine aR (udv (by omega)) (aF (OE a.1) (aF g.2.1 (aF ⟨ufa _,ub4 _,ufa _,rfl⟩ ?_)));rw[zbo];have k:=qxw (n:=(aL h).length) (by omega);refine aF ⟨udu,k⟩ ⟨uT,?_⟩;rfl
def qwu:af prog 281 Ox:=
 cQ qwv _ _ (λw F x vs f a=>by
  obtain⟨h,c,_⟩:=x;obtain⟨v,j,rfl,g,_⟩:=f;have e:((aL h).length:Int)<=9223372036854775807:=uB (aA.wf g.2.2).2.2.2.1.1;have d:=a;by_cases b:(aL h).length=0;refine aR (udv (by show ¬ ((aL h).length:Int)>0;omega)) (Q8 ?_ d);unfold uy;rw[ufv b];have i:I6.wrap (((aL h).length:Int)-1)=((aL h).length:Int)-1:=cz (by omega);refine aZ (uea (by show((aL h).length:Int)>0;omega)) (aF ?_ (Q8 ?_ d));show 0<=I6.wrap (((aL h).length:Int)-1)/\I6.wrap (((aL h).length:Int)-1)<((aL h).length:Int);omega;show(List.getD (aL h) (I6.wrap (((aL h).length:Int)-1)).toNat az.dflt).1=uy h;unfold uy;rw[ufw b,i,show(((aL h).length:Int)-1).toNat=(aL h).length-1 by omega])
section
open Go.Shelf
attribute [local go_sem] Oper.semAt_some
def qm2(w:World)(m:Nat)(z:Array Value)(g:z.size=9)(c:m<=maxLen)(e:TypeId):
  w.grownBy ((w.alloc (.cells (Builtin.zeroCells z m++Builtin.zeroCells z (grownCap w m 0 e-m)) e)).drew) V /\
   ((w.alloc (.cells (Builtin.zeroCells z m++Builtin.zeroCells z (grownCap w m 0 e-m)) e)).drew).ownsRow w.heap.size e 9 (.slice (U ⟨w.heap.size,0,V⟩) 0 (grownCap w m 0 e)) 0 []:=by
 have f:=grownCap_ge w m 0 e;have a:grownCap w m 0 e<=maxLen:=ub7 w m 0 e c;refine⟨⟨rfl,rfl,rfl,by simp,λb d _=>nY w.drew _ b d⟩,rfl,.inr ⟨w.heap.size,_,_,rfl,ue9 _,ud7 w.drew _,uff _,a,?_,?_⟩⟩;simp only[ucp,size_zeroCells,g,<- ufb];congr 1;omega;rfl
def qmx:prog.types[38].bytes=88:=by decide
def zaa(m:Nat)(h:0<m):Builtin.nextslicecap m 0=m:=by
 unfold Builtin.nextslicecap;rw[ufv (by omega)]
def qm0(n:Nat)(m:Nat)(b:m<=maxLen)(d:m*88<=140737488355328)(w:World):
  CallsIn Fence.wide n prog 153 #[.slice V 0 0,.int .i64 m] w λe w'=>
   ∃ v,e=.returned v/\w.grownBy w' V/\w'.ownsRow w.heap.size 38 9 v 0 []:=by
 have a:t38.bytes=88:=qmx;refine callsIn_of_wp func153 rfl trivial ?_ rfl;simp only[ntmps153,ucq,uc9,udl,Nat.reduceAdd,Nat.reduceSub,ubn,ubo,ucy,ubx,udm,uc4]
 gi_wp2
 all_goals first
  |(exfalso;simp only[a]at *;omega)
  |(exfalso;rename_i c _ _ _ _ _ ; rw[zaa _ (by omega),a]at *;omega)
  |(go_ret;exact⟨_,rfl,ub8 _ _,ucs _ _ _ _⟩)
  |(go_ret;exact⟨_,rfl,qm2 w m _ rfl b _⟩)
def qmy:GrowOK prog 153 38 az 88:=
 ⟨enters (fn:=f153) (by kernel_rfl) rfl rfl,λw n a b=>(callsIn_wide.1 (qm0 1 n a b w))⟩
end
end Go.Proofs.YtdokapnnagbehaaGreat
