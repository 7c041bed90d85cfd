/-
  Parts of the proof, one behind the other.
-/
import Derived.Test.YtdokapnnagbehaaGreatMj
import Derived.Deep.RegionLaw
import Derived.Lib.Overlaps
import Derived.Lib.AppendZerosOnto
import Derived.Laws.NewBlocks
import Derived.Lib.AppendZeros
set_option linter.all false
set_option maxRecDepth 100000
set_option maxHeartbeats 4000000
open Option renaming some->U,none->V
open Bool renaming true->Z,false->Y
open Decidable renaming decide->J
open Go Go.RowKit
variable {T α σ ρ β:Type} {P:Program} {ad:Addr} {arr cs cur:Array Value} {f:FuncId} {x a y day:Int} {k:IntKind} {l:List Int} {xs vs news:List Value} {off i n b c d j B m len:Nat} {F F' K:Nat->Prop} {R g R':Nat->Value->Prop} {o:Oper} {p:Prop} {e ety t ty el:TypeId} {v u vx:Value} {w w' W' W:World}
namespace Go.Proofs.YtdokapnnagbehaaGreat
open Go Go.Ab Go.RowKit Go.Proofs Tryz
open Go.Ab.Fr renaming val->Jv,need->Jd,br->Jb
noncomputable def LO:Cx:=cx [(144,A7)] []
def WV:CxOK prog LO:=aP (ps:=[]) aG ⟨Rx,uT⟩ trivial
noncomputable def Fh:FuncId->Option (Func×(Nat->St->Option Tr)):=cu [(143,(f143,bw)),(145,(f145,bw))]
def ZT:∀ f fn Λ,Fh f=U (fn,Λ)->prog.funcs[f]?= U fn/\∀ c i,fn.body=U c->bP prog i Λ c 0:=λf fn Λ h=>by
 simp only[Fh,cu]at h;split at h;rename_i j;subst j;cases h;exact⟨by kernel_rfl,λc i _=>aY c 0⟩;split at h;rename_i j;subst j;cases h;exact⟨by kernel_rfl,λc i _=>aY c 0⟩;cases h
noncomputable def E8:Cx:=cW [(97,G0)] [] (fU prog LO Fh)
def E9:CxOK prog E8:=cZ (ps:=[]) aG ⟨JX,uT⟩ trivial (gG WV ZT)
abbrev SW:List MI:=[.x 280001 114 aC,.r 1 280001 0,.x 280003 31 cn,.r 3 280003 0,.x 280004 213 aB,.r 4 280004 0,.y 280005 159 [(U 213,aB)],.r 5 280005 0,.g 6 143 [280004,280005],.x 6 140 aQ,.r 10006 6 0]
def MC:LS:=⟨[(26,.d aK),(27,.d i64),(28,.d i64)],SW⟩
def EC:LS:=⟨[],SW⟩
def uV:Pt:=⟨52,0,MC,EC,⟨[],[]⟩⟩
def gJ(out:List aB.den):Int:=I6.wrap ((out.length:Int)-1)
def jX(s:aB.den)(b:Int):aB.den:=((s.1.1,b,()),s.2)
def H6(s:aB.den)(out:List aB.den)(day:Int)(K:List aB.den->Fr α):Fr α:=
 Jb (s.1.1==day) (K out)
  (Jd (J (gJ out>=0)=Z->0<=gJ out/\gJ out<(out.length:Int))
   (Jd (J (gJ out>=0)=Z->(gJ out).toNat<out.length)
    (Jb (bif J (gJ out>=0)then (A7.f (out.getD (gJ out).toNat aB.dflt,jX s day,())).1 else Y)
     (Jd (0<=gJ out/\gJ out<(out.length:Int)) (Jd ((gJ out).toNat<out.length) (K (out.set (gJ out).toNat (jX (out.getD (gJ out).toNat aB.dflt) day)))))
     (Jd (out.length + [jX s day].length<=maxLen/\(out.length + [jX s day].length)*88<=140737488355328) (K (out++[jX s day]))))))
def Ps(s:aB.den)(c:az.den)(K:aB.den->Fr α):Fr α:=
 Jb (c.2.2.1==1) (K (s.1,s.2.1,c.2.2.2.1,s.2.2.2.1,s.2.2.2.2.1,()))
  (Jb (c.2.2.1==2) (Jd (([]:List ak.den).length+c.2.2.2.2.1.length<=maxLen/\(([]:List ak.den).length+c.2.2.2.2.1.length)*40<=140737488355328) (K (s.1,s.2.1,s.2.2.1,[]++c.2.2.2.2.1,s.2.2.2.2.1,())))
   (Jb (c.2.2.1==3) (K (s.1,Y,s.2.2.1,s.2.2.2.1,s.2.2.2.2.1,()))
    (Jb (c.2.2.1==4) (K (s.1,Z,s.2.2.1,s.2.2.2.1,s.2.2.2.2.1,())) (K s))))
def Im(x:MC.X):Fr uV.Out:=
 let l:List Int:=x.1.1;let n:Int:=x.1.2.1;let i:Int:=x.1.2.2.1;let h:aC.den:=x.2.1;let sp:cn.den:=x.2.2.1;let s:aB.den:=x.2.2.2.1;let out:List aB.den:=x.2.2.2.2.1.1;let v:aQ.den:=x.2.2.2.2.2.1
 let j:Int:=l.getD i.toNat i64.dflt
 Jb (J (i<n))
  (Jd (0<=i/\i<(l.length:Int))
   (Jd (0<=j/\j<((aL h).length:Int))
    (H6 s out (bZ h j).2.1 λm=>
     Jd (0<=j/\j<((aL h).length:Int))
      (Ps (((bZ h j).2.1,s.1.2.1,()),s.2) (bZ h j) λq=>Jv (Rd.next ((l,n,I6.wrap (i+1),()),(h,sp,q,(m,()),v,())))))))
  (Jv (Rd.out ((),(h,sp,s,(out,()),v,()))))
def qys:ae prog (au f87 0) MC uV Im:=ae.of_run E9 (bs:=280000) rfl rfl rfl (λ_=>aY _ 0) (λx=>by kernel_rfl)
def Un(s:aB.den):(out:List aB.den)->0<out.length->iW out s=if ni (out.getD (out.length-1) aB.dflt) s=Z then out.set (out.length-1) (jX (out.getD (out.length-1) aB.dflt) s.1.2.1)else out++[s]
 |[],h=>absurd h (by decide)
 |[x],_=>rfl
 |x::y::r,_=>by
  have i:=Un s (y::r) (by simp);have e1:(x::y::r).length-1=((y::r).length-1)+1:=by simp
  have e2:(x::y::r).getD ((x::y::r).length-1) aB.dflt=(y::r).getD ((y::r).length-1) aB.dflt:=by
   rfl
  show x::iW (y::r) s=_;rw[i,e2,e1];split;rfl;rfl
def Uo(s:aB.den):(out:List aB.den)->(iW out s).length<=out.length+1
 |[]=>by simp[iW]
 |[x]=>by unfold iW;split<;>simp
 |x::y::r=>by
  have:=Uo s (y::r);simp only[iW,uc7]at this |-;omega
def H5(s:aB.den)(out:List aB.den)(day:Int):(mP s out day).length<=out.length+1:=by
 unfold mP;split;omega;exact Uo _ _
def qph{out:List aB.den}(h:out.length<=1000000):gJ out=(out.length:Int)-1:=IntWalk.i64_in _ (by omega)
def P9{s:aB.den}{out:List aB.den}{K:List aB.den->Fr α}{Q:α->Prop}(C:out.length<=1000000)(h:(K (mP s out day)).satP Q):(H6 s out day K).satP Q:=by
 unfold mP at h;have hw:=qph C;have w:out.length+1<=maxLen/\(out.length+1)*88<=140737488355328:=⟨by unfold maxLen;omega,by omega⟩;refine⟨λhb=>?_,λhb=>?_⟩;have i:=eq_of_beq hb;rw[if_pos i]at h;exact h;have i:=ud1 hb;rw[if_neg i]at h;refine⟨λu=>?_,λu=>?_,?_⟩;have:=ucw u;omega;have:=ucw u;omega;by_cases h0:0<out.length;have m:J (gJ out>=0)=true:=ud7 (by omega);have F:(gJ out).toNat=out.length-1:=by omega
 have t:=Un (jX s day) out h0;rw[m,F];refine⟨λq=>?_,λq=>?_⟩;have j:ni (out.getD (out.length-1) aB.dflt) (jX s day)=true:=q;rw[if_pos j]at t;refine⟨⟨by omega,by omega⟩,by omega,?_⟩;have e:iW out ((s.1.1,day,()),s.2)=out.set (out.length-1) (jX (out.getD (out.length-1) aB.dflt) day):=t;rw[e]at h;exact h;have j:¬ ni (out.getD (out.length-1) aB.dflt) (jX s day)=true:=by
  intro H;have:ni (out.getD (out.length-1) aB.dflt) (jX s day)=false:=q;rw[H]at this;cases this
 rw[if_neg j]at t;have e:iW out ((s.1.1,day,()),s.2)=out++[jX s day]:=t;rw[e]at h;exact⟨w,h⟩;have fF:out=[]:=uaz.1 (by omega);subst fF;have m:J (gJ []>=0)=false:=uds (by rw[hw];decide);exact⟨λq=>(by cases q),λ_=>⟨w,h⟩⟩
def qf6{s:aB.den}{c:az.den}{K:aB.den->Fr α}{Q:α->Prop}(F:c.2.2.2.2.1.length<=1000000)(h:(K (Bl s c)).satP Q):(Ps s c K).satP Q:=by
 unfold Bl at h;have C:([]:List ak.den).length+c.2.2.2.2.1.length<=maxLen/\(([]:List ak.den).length+c.2.2.2.2.1.length)*40<=140737488355328:=by
  simp;exact⟨by unfold maxLen;omega,by omega⟩
 refine⟨λk=>?_,λk=>⟨λt=>?_,λt=>⟨λu=>?_,λu=>⟨λw=>?_,λw=>?_⟩⟩⟩⟩;have m:=eq_of_beq k;rw[if_pos m]at h;exact h;have m:=ud1 k;have i:=eq_of_beq t;rw[if_neg m,if_pos i]at h;exact⟨C,h⟩;have m:=ud1 k;have i:=ud1 t;have j:=eq_of_beq u;rw[if_neg m,if_neg i,if_pos j]at h;exact h;have m:=ud1 k;have i:=ud1 t;have j:=ud1 u;have q:=eq_of_beq w;rw[if_neg m,if_neg i,if_neg j,if_pos q]at h;exact h;have m:=ud1 k;have i:=ud1 t;have j:=ud1 u;have q:=ud1 w;rw[if_neg m,if_neg i,if_neg j,if_neg q]at h;exact h
structure InvC5 (l:List Int) (n i:Int) (h:aC.den) (out:List aB.den):Prop where
 i0:0<=i
 il:i<=n
 nl:n=l.length
 few:l.length<=500000
 inl:∀ x∈l,0<=x/\x<((aL h).length:Int)
 cov:∀ c∈aL h,c.2.2.2.2.1.length<=1000000
 outs:(out.length:Int)<=i
def Fd(x:MC.X):Fr uV.Out:=
 let l:List Int:=x.1.1;let n:Int:=x.1.2.1;let i:Int:=x.1.2.2.1;let h:aC.den:=x.2.1;let sp:cn.den:=x.2.2.1;let s:aB.den:=x.2.2.2.1;let out:List aB.den:=x.2.2.2.2.1.1;let v:aQ.den:=x.2.2.2.2.2.1
 Jd (InvC5 l n i h out) (Jv (Rd.out ((),(h,sp,(lG ((l.drop i.toNat).map (bZ h)) s out).1,((lG ((l.drop i.toNat).map (bZ h)) s out).2,()),v,()))))
def qpn (l:List Int) (n i:Int) (h:aC.den) (sp:cn.den) (s:aB.den) (out:List aB.den) (v:aQ.den) (q:InvC5 l n i h out) (Q:uV.Out->Prop)
  (hq:Q (Rd.out ((),(h,sp,(lG ((l.drop i.toNat).map (bZ h)) s out).1,((lG ((l.drop i.toNat).map (bZ h)) s out).2,()),v,())))) :
  (Im ((l,n,i,()),(h,sp,s,(out,()),v,()))).satP λ
   |.next m=>InvC5 m.1.1 m.1.2.1 m.1.2.2.1 m.2.1 m.2.2.2.2.1.1/\((m.1.2.1:Int)-m.1.2.2.1).toNat<(n-i).toNat/\(Fd m).satP Q
   |.out y=>Q (.out y)
   |.back z=>Q (.back z)
   |.pan p=>Q (.pan p):=by
 obtain⟨h0,W,rfl,P,F,H,h5⟩:=q;obtain⟨j,rfl⟩:∃ n:Nat,i=n:=⟨i.toNat,by omega⟩;simp only[ucz]at hq;dsimp only[Im,Ty.den,PT.den];refine⟨λhi=>?_,λhi=>?_⟩;have t:j<l.length:=by have:(j:Int)<(l.length:Int):=ucw hi;omega
 have w:I6.wrap ((j:Int)+1)=(j+1:Nat):=zv (by omega);rw[w];have O:=F _ (fo (d:=(0:Int)) t);rw[qf8 t,ueh]at hq;have u:bZ h (l.getD j 0)∈aL h:=by
  exact fo (by omega)
 have hE:=H5 s out (bZ h (l.getD j 0)).2.1;have N:InvC5 l (l.length:Int) ((j+1:Nat):Int) h (mP s out (bZ h (l.getD j 0)).2.1):=⟨by omega,by omega,rfl,P,F,H,by omega⟩;have C:((l.length:Int)-((j+1:Nat):Int)).toNat<((l.length:Int)-(j:Int)).toNat:=by omega
 refine⟨⟨by omega,by omega⟩,O,P9 (by omega) ⟨O,qf6 (H _ u) ⟨N,C,N,hq⟩⟩⟩;have S:¬ j<l.length:=by have:¬ (j:Int)<(l.length:Int):=ucg hi;omega
 rw[ua2 (by omega)]at hq;exact hq
def qqu:ae prog (.loop (au f87 0)) MC uV Fd:=by
 refine ae.loop qys (μ:=λx=>((x.1.2.1:Int)-x.1.2.2.1).toNat) ?_ (λx Q h=>h.1);rintro⟨⟨l,n,i,_⟩,h,sp,s,⟨out,_⟩,v,_⟩ j Q hq;exact qpn l n i h sp s out v j Q hq.2
noncomputable def Fj:FuncId->Option (Func×(Nat->St->Option Tr)):=cu [(87,(f87,λ_=>uV.han E8.Γ MC Fd))]
def ZV:∀ f fn Λ,Fj f=U (fn,Λ)->prog.funcs[f]?= U fn/\∀ c i,fn.body=U c->bP prog i Λ c 0:=λf fn Λ h=>by
 simp only[Fj,cu]at h;split at h;rename_i j;subst j;cases h;exact⟨by kernel_rfl,λc i hc=>ea hc (by kernel_rfl) (b:=au f87 0) (by kernel_rfl) (ae.han E9 rfl qqu)⟩;cases h
noncomputable def XJ:Cx:=cW [(85,Gr),(86,G6),(88,wZ)] [] (fU prog E8 Fj)
def Mf:CxOK prog XJ:=cZ (ps:=[]) aG ⟨qyg,zbr,zdg,uT⟩ trivial (gG E9 ZV)
def MO:LS:=⟨[(29,.d i64),(30,.d i64)],[.o 8 213 aB,.al 28 8,.x 6 140 aQ,.r 6 6 0]⟩
def EO:LS:=⟨[],[.o 8 213 aB]⟩
def vd:Pt:=⟨56,0,MO,EO,⟨[(4,.d zel),(5,.d i64)],[]⟩⟩
def gO(v:aQ.den)(s:aB.den):Int×Int:=wl v s.2.2.1 s.2.2.2.1
def lc(s:aB.den)(y:Int):aB.den:=(s.1,s.2.1,s.2.2.1,s.2.2.2.1,y,())
def fO(x:MO.X):Fr vd.Out:=
 let n:Int:=x.1.1;let i:Int:=x.1.2.1;let l:List aB.den:=x.2.1;let v:aQ.den:=x.2.2.1
 let s:aB.den:=l.getD i.toNat aB.dflt
 Jb (J (i<n))
  (Jd (0<=i/\i<(l.length:Int)) (Jd (i.toNat<l.length)
   (Jb (!s.2.1) (Jv (Rd.next ((n,I6.wrap (i+1),()),(l,v,()))))
    (Jd (0<=i/\i<(l.length:Int)) (Jd (i.toNat<l.length)
     (Jb ((wZ.f (v,s.2.2.1,s.2.2.2.1,())).2.1 != 0) (Jv (Rd.back (([],(wZ.f (v,s.2.2.1,s.2.2.2.1,())).2.1,()),())))
      (Jv (Rd.next ((n,I6.wrap (i+1),()),(l.set i.toNat (lc s (wZ.f (v,s.2.2.1,s.2.2.2.1,())).1),v,()))))))))))
  (Jv (Rd.out ((),(l,()))))
def qyz:ae prog (au f60 0) MO vd fO:=ae.of_run Mf (bs:=0) rfl rfl rfl (λ_=>aY _ 0) (λx=>by kernel_rfl)
def jP(v:aQ.den)(s:aB.den):aB.den:=if s.2.1=Z then lc s (gO v s).1 else s
def dj(v:aQ.den):List aB.den->Int
 |[]=>0
 |s::l=>if s.2.1=Z then (if (gO v s).2=0 then dj v l else (gO v s).2)else dj v l
structure InvO (n i:Int) (l:List aB.den):Prop where
 i0:0<=i
 il:i<=n
 nl:n=l.length
 few:l.length<=1000000
def ca(l:List aB.den)(e:Int):Fr vd.Out:=Jb (e != 0) (Jv (Rd.back (([],e,()),()))) (Jv (Rd.out ((),(l,()))))
def FO(x:MO.X):Fr vd.Out:=
 let n:Int:=x.1.1;let i:Int:=x.1.2.1;let l:List aB.den:=x.2.1;let v:aQ.den:=x.2.2.1
 Jd (InvO n i l) (ca (l.take i.toNat++(l.drop i.toNat).map (jP v)) (dj v (l.drop i.toNat)))
def qpv(n i:Int)(l:List aB.den)(v:aQ.den)(P:InvO n i l)(Q:vd.Out->Prop)(hq:(ca (l.take i.toNat++(l.drop i.toNat).map (jP v)) (dj v (l.drop i.toNat))).satP Q):
  (fO ((n,i,()),(l,v,()))).satP λ
   |.next N=>InvO N.1.1 N.1.2.1 N.2.1/\((N.1.1:Int)-N.1.2.1).toNat<(n-i).toNat/\(FO N).satP Q
   |.out y=>Q (.out y)
   |.back z=>Q (.back z)
   |.pan p=>Q (.pan p):=by
 obtain⟨h0,h1,rfl,h2⟩:=P;obtain⟨j,rfl⟩:∃ n:Nat,i=n:=⟨i.toNat,by omega⟩;simp only[ucz]at hq;dsimp only[fO,Ty.den,PT.den];simp only[ucz];refine⟨λhi=>?_,λhi=>?_⟩
 ·have q:j<l.length:=by have:(j:Int)<(l.length:Int):=ucw hi;omega
  have w:I6.wrap ((j:Int)+1)=(j+1:Nat):=zv (by omega);rw[w];have hg:l.getD j aB.dflt=l[j]:=by rw[uah,uaq q];rfl
  have hd:l.drop j=l.getD j aB.dflt::l.drop (j+1):=by rw[hg];exact ual q
  have hμ:((l.length:Int)-((j+1:Nat):Int)).toNat<((l.length:Int)-(j:Int)).toNat:=by omega
  have hb:0<=(j:Int)/\(j:Int)<(l.length:Int):=⟨by omega,by omega⟩;rw[hd]at hq;generalize hs:l.getD j aB.dflt=s at *;have htk:l.take (j+1)=l.take j++[s]:=by
   rw[hg];exact(uat q).symm
  refine⟨hb,q,λF=>?_,λu=>⟨hb,q,λhe=>?_,λhe=>?_⟩⟩;have t:¬ s.2.1=true:=by
   intro W;rw[W]at F;cases F
  have O:InvO (l.length:Int) ((j+1:Nat):Int) l:=⟨by omega,by omega,rfl,h2⟩;refine⟨O,hμ,O,?_⟩;have e1:dj v (s::l.drop (j+1))=dj v (l.drop (j+1)):=if_neg t;have e2:jP v s=s:=if_neg t;rw[e1,ueh,e2]at hq;show(ca (l.take (j+1)++(l.drop (j+1)).map (jP v)) (dj v (l.drop (j+1)))).satP Q;rw[htk,ucq];exact hq;have m:s.2.1=true:=by
   cases W:s.2.1 with
   |true=>rfl
   |false=>rw[W]at u;cases u
  have H:¬ (gO v s).2=0:=ufh.1 he;have e1:dj v (s::l.drop (j+1))=(gO v s).2:=by
   unfold dj;rw[if_pos m,if_neg H]
  rw[e1]at hq;exact hq.1 he
  ·have m:s.2.1=true:=by
    cases W:s.2.1 with
    |true=>rfl
    |false=>rw[W]at u;cases u
   have H:(gO v s).2=0:=by
    have:((gO v s).2 != 0)=false:=he;simpa using this
   have C:(l.set j (lc s (gO v s).1)).length=l.length:=udl;have O:InvO (l.length:Int) ((j+1:Nat):Int) (l.set j (lc s (gO v s).1)):=⟨by omega,by omega,by rw[C],by rw[C];exact h2⟩;refine⟨O,hμ,O,?_⟩;have e1:dj v (s::l.drop (j+1))=dj v (l.drop (j+1)):=by
    conv=>lhs;unfold dj
    rw[if_pos m,if_pos H]
   have e2:jP v s=lc s (gO v s).1:=if_pos m;rw[e1,ueh,e2]at hq;show(ca ((l.set j (lc s (gO v s).1)).take (j+1)++((l.set j (lc s (gO v s).1)).drop (j+1)).map (jP v)) (dj v ((l.set j (lc s (gO v s).1)).drop (j+1)))).satP Q;have e3:(l.set j (lc s (gO v s).1)).drop (j+1)=l.drop (j+1):=List.drop_set_of_lt (by omega);have e4:(l.set j (lc s (gO v s).1)).take (j+1)=l.take j++[lc s (gO v s).1]:=by
    rw[List.take_add_one,List.take_set_of_le (by omega)];simp[q]
   rw[e3,e4,ucq];exact hq
 have hge:¬ j<l.length:=by have:¬ (j:Int)<(l.length:Int):=ucg hi;omega
 rw[ua2 (by omega),ua3 (by omega)]at hq;have S:=hq.2 rfl;simp at S;exact S
def qq3:ae prog (.loop (au f60 0)) MO vd FO:=by
 refine ae.loop qyz (μ:=λx=>((x.1.1:Int)-x.1.2.1).toNat) ?_ (λx Q h=>h.1);rintro⟨⟨n,i,_⟩,l,v,_⟩ j Q hq;exact qpv n i l v j Q hq.2
def I2(v:aQ.den)(l:List aB.den):Fr (aa [zel,i64]):=
 let a:=l.drop (0:Int).toNat;Jd (InvO l.length 0 l) (Jb (dj v a != 0) (Jv ([],dj v a,())) (Jv (l.take (0:Int).toNat++a.map (jP v),0,())))
def ng(h:aC.den):aB.den×List aB.den:=lG (((bE h).drop (0:Int).toNat).map (bZ h)) ((h.2.2.1.1.1,0,()),Z,h.2.2.1.2.1,[]++h.2.2.1.2.2.1,0,()) []
def qlc(x:ag [.d aC,.d b8]):Fr (aa [zel,i64]):=
 let c:=x.1.2.2.1;let b:=([]:List ak.den);let a:=G6.f (x.2.1,c.1.1,());Jb (!(Gr.f (x.1,())).1) (Jv ([],1,()))
  (Jd (bJ x.2.1)
   (Jb (a.2.1 != 0) (Jv ([],a.2.1,()))
    (Jd (b.length+c.2.2.1.length<=maxLen/\(b.length+c.2.2.1.length)*40<=140737488355328)
     (Jd (((aL x.1).length:Int)<=1000000)
      (Jd (InvC5 (bE x.1) ((bE x.1).length:Int) 0 x.1 [])
       (H6 (ng x.1).1 (ng x.1).2 c.1.2.1 (I2 a.1)))))))
def of_run:af prog 60 (bg [.d aC,.d b8] [zel,i64] qlc):=
 cS Mf qq3
def bL(h:aC.den):Prop:=(aL h).length<=500000/\h.2.2.1.2.2.1.length<=1000000/\∀ c∈aL h,c.2.2.2.2.1.length<=1000000
def c9(h:aC.den)(t:b8.den):List aB.den×Int:=
 if ri h=Z then
  (if (cq h.2.2.1.1.1 t.1.reverse).2=0 then
   (if dj (cq h.2.2.1.1.1 t.1.reverse).1 (eH h)=0 then ((eH h).map (jP (cq h.2.2.1.1.1 t.1.reverse).1),0)else ([],dj (cq h.2.2.1.1.1 t.1.reverse).1 (eH h)))
  else ([],(cq h.2.2.1.1.1 t.1.reverse).2))
 else ([],1)
def fN:Ct:=⟨[.d aC,.d b8],[zel,i64],λx=>((c9 x.1 x.2.1).1,(c9 x.1 x.2.1).2,()),λx=>[bL x.1,bJ x.2.1]⟩
def CO(h:aC.den):(bE h).length=(aL h).length:=by
 unfold bE;rw[mj,Kl]
def CR{h:aC.den}(i:x∈bE h):0<=x/\x<((aL h).length:Int):=Km (yZ.1 i)
def QO:(l:List az.den)->(s:aB.den)->(out:List aB.den)->(lG l s out).2.length<=out.length+l.length
 |[],_,_=>ue6 _
 |c::l,s,out=>by
  have i:=QO l (Bl ((c.2.1,s.1.2.1,()),s.2) c) (mP s out c.2.1);have j:=H5 s out c.2.1;simp only[lG,uc7];omega
def CN:af prog 60 fN:=
 cQ of_run _ _ (λw F x vs hr C=>by
  obtain⟨h,t,_⟩:=x;obtain⟨⟨N,f2,O⟩,P⟩:bL h/\bJ t:=C;unfold c9;cases H:ri h with
  |false=>
   refine aZ ?_ ⟨uT,rfl⟩;show(!(ri h))=Z;rw[H];rfl
  |true=>
   refine aR ?_ (aF P ?_);show(!(ri h))=Y;rw[H];rfl;by_cases u:(cq h.2.2.1.1.1 t.1.reverse).2=0;rw[if_pos u];refine aR ?_ (aF ?_ (aF ?_ (aF ?_ ?_)));show((cq h.2.2.1.1.1 t.1.reverse).2 != 0)=Y;rw[u];rfl;show([]:List ak.den).length+h.2.2.1.2.2.1.length<=maxLen/\(([]:List ak.den).length+h.2.2.1.2.2.1.length)*40<=140737488355328;simp;exact⟨by unfold maxLen;omega,by omega⟩;show((aL h).length:Int)<=1000000;omega;show InvC5 (bE h) ((bE h).length:Int) 0 h [];exact⟨ue7 _,ub3 _,rfl,by rw[CO];exact N,λx hx=>CR hx,O,ue7 _⟩;have S:(ng h).2.length<=500000:=by
    have:=QO (((bE h).drop (0:Int).toNat).map (bZ h)) ((h.2.2.1.1.1,0,()),Z,h.2.2.1.2.1,[]++h.2.2.1.2.2.1,0,()) [];have e:(((bE h).drop (0:Int).toNat).map (bZ h)).length=(aL h).length:=by
     rw[udz];exact CO h
    rw[e]at this;have h2:(ng h).2.length<=0+(aL h).length:=this;omega
   have m:mP (ng h).1 (ng h).2 h.2.2.1.1.2.1=eH h:=rfl;have j:(eH h).length<=1000000:=by
    rw[<- m];have:=H5 (ng h).1 (ng h).2 h.2.2.1.1.2.1;omega
   have i:(I2 (cq h.2.2.1.1.1 t.1.reverse).1 (eH h)).ok/\(I2 (cq h.2.2.1.1.1 t.1.reverse).1 (eH h)).get=((if dj (cq h.2.2.1.1.1 t.1.reverse).1 (eH h)=0 then ((eH h).map (jP (cq h.2.2.1.1.1 t.1.reverse).1),(0:Int))else ([],dj (cq h.2.2.1.1.1 t.1.reverse).1 (eH h))).1,(if dj (cq h.2.2.1.1.1 t.1.reverse).1 (eH h)=0 then ((eH h).map (jP (cq h.2.2.1.1.1 t.1.reverse).1),(0:Int))else ([],dj (cq h.2.2.1.1.1 t.1.reverse).1 (eH h))).2,()):=by
    refine aF ⟨ue7 _,ub3 _,rfl,j⟩ ?_;by_cases q:dj (cq h.2.2.1.1.1 t.1.reverse).1 (eH h)=0;rw[if_pos q];refine aR ?_ ⟨uT,rfl⟩;show(dj (cq h.2.2.1.1.1 t.1.reverse).1 (eH h) != 0)=Y;rw[q];rfl;rw[if_neg q];exact aZ (ufh.2 q) ⟨uT,rfl⟩
   have W:=P9 (out:=(ng h).2) (Q:=λy=>y=((if dj (cq h.2.2.1.1.1 t.1.reverse).1 (eH h)=0 then ((eH h).map (jP (cq h.2.2.1.1.1 t.1.reverse).1),(0:Int))else ([],dj (cq h.2.2.1.1.1 t.1.reverse).1 (eH h))).1,(if dj (cq h.2.2.1.1.1 t.1.reverse).1 (eH h)=0 then ((eH h).map (jP (cq h.2.2.1.1.1 t.1.reverse).1),(0:Int))else ([],dj (cq h.2.2.1.1.1 t.1.reverse).1 (eH h))).2,())) (by omega) (by
    exact nL i.1 i.2)
   exact cO W;rw[if_neg u];refine aZ ?_ ⟨uT,rfl⟩;exact ufh.2 u)
abbrev dD:Ty:=.pair i64 (.pair i64 (.pair i64 (.pair i64 (.pair i64 (.pair i64 .unit)))))
def wR:Ct:=⟨[.d i64],[.bool],λx=>(J (1<=x.1/\x.1<=1000000000),()),λ_=>[]⟩
def Ay:Ct:=⟨[.d i64],[.bool],λx=>(J (1<=x.1/\x.1<=292194),()),λ_=>[]⟩
def Wl(n a b:Int):(bif J (n>=a)then J (n<=b)else Y)=J (a<=n/\n<=b):=by
 simp
def qne:af prog 177 wR:=
 flat (ps:=[.d i64]) (rs:=[.bool]) (aP (cs:=[]) (ps:=[]) aG trivial trivial) (fn:=f177) (fr:=λx=>Jv (bif J (x.1>=1)then J (x.1<=1000000000)else Y,())) (0,()) (by kernel_rfl) (λx=>by kernel_rfl) _ _
  (λ_ _ x _ _ _=>⟨uT,ufp (Wl x.1 1 1000000000) rfl⟩)
def qe6:af prog 178 Ay:=
 flat (ps:=[.d i64]) (rs:=[.bool]) (aP (cs:=[]) (ps:=[]) aG trivial trivial) (fn:=f178) (fr:=λx=>Jv (bif J (x.1>=1)then J (x.1<=292194)else Y,())) (0,()) (by kernel_rfl) (λx=>by kernel_rfl) _ _
  (λ_ _ x _ _ _=>⟨uT,ufp (Wl x.1 1 292194) rfl⟩)
def Bb(i p k l b e:Int):Bool:=J (1<=i/\i<=1000000000)&&(J (1<=p/\p<=1000000000)&&(J (0<=e/\e<=1000000000)&&(J (0<=k/\k<=7)&&(J (1<=l/\l<=292194)&&J (1<=b/\b<=292194)))))
def Gf:Ct:=⟨[.d dD],[.bool],λx=>(Bb x.1.1 x.1.2.1 x.1.2.2.1 x.1.2.2.2.1 x.1.2.2.2.2.1 x.1.2.2.2.2.2.1,()),λ_=>[]⟩
noncomputable def Xx:Cx:=cx [(177,wR),(178,Ay)] []
def Xy:CxOK prog Xx:=aP aG ⟨qne,qe6,uT⟩ trivial
def qlb(x:ag [.d dD]):Fr (aa [.bool]):=
 let c:dD.den:=x.1
 Jv (bif bif bif bif bif bif (wR.f (c.1,())).1 then (wR.f (c.2.1,())).1 else Y then (bif c.2.2.2.2.2.1==0 then Z else (wR.f (c.2.2.2.2.2.1,())).1)else Y then J (c.2.2.1>=0)else Y then J (c.2.2.1<=7)else Y then (Ay.f (c.2.2.2.1,())).1 else Y then (Ay.f (c.2.2.2.2.1,())).1 else Y,())
def que(i p k l b e:Int):(bif bif bif bif bif bif J (1<=i/\i<=1000000000)then J (1<=p/\p<=1000000000)else Y then (bif e==0 then Z else J (1<=e/\e<=1000000000))else Y then J (k>=0)else Y then J (k<=7)else Y then J (1<=l/\l<=292194)else Y then J (1<=b/\b<=292194)else Y)=Bb i p k l b e:=by
 have e1:(bif e==0 then Z else J (1<=e/\e<=1000000000))=J (0<=e/\e<=1000000000):=by
  rw[udu];simp;omega
 have e2:J (0<=k/\k<=7)=(J (k>=0)&&J (k<=7)):=by
  simp
 unfold Bb;rw[e1,e2];cases J (1<=i/\i<=1000000000)<;>cases J (1<=p/\p<=1000000000)<;>cases J (0<=e/\e<=1000000000)<;>cases J (k>=0)<;>cases J (k<=7)<;>cases J (1<=l/\l<=292194)<;>rfl
def qt3:af prog 128 Gf:=
 flat (ps:=[.d dD]) (rs:=[.bool]) Xy (fn:=f128) (fr:=qlb) (dD.dflt,()) (by kernel_rfl) (λx=>by kernel_rfl) _ _
  (λ_ _ x _ _ _=>by
   obtain⟨⟨i,p,k,l,b,e,_⟩,_⟩:=x;exact⟨uT,ufp (que i p k l b e) rfl⟩)
abbrev bn:Ty:=.pair i64 (.pair i64 (.pair i64 .unit))
abbrev ah:Ty:=.pair i64 (.pair i64 (.pair cn (.pair i64 (.pair i64 (.pair i64 (.pair i64 (.pair i64 .unit)))))))
abbrev aD:Ty:=.pair i64 (.pair i64 (.pair i64 (.pair i64 (.pair i64 (.pair dm (.pair az (.pair dD (.pair bn (.pair ah .unit)))))))))
abbrev jourT:Ty:=.pair b8 (.pair (.sl aD) .unit)
abbrev zjv:Ty:=.pair aC (.pair i64 .unit)
abbrev ar:Ty:=.pair dD (.pair (.sl bn) .unit)
abbrev aq:Ty:=.pair b8 (.pair (.sl zjv) (.pair (.sl ar) (.pair (.sl ah) (.pair i64 .unit))))
def gq(g:α->Bool):List α->Int->Option Int
 |[],_=>V
 |x::r,i=>if g x=Z then U i else gq g r (i+1)
abbrev hZ(T:Ty):PT:=.fn [T] [.bool]
def wA(T:Ty):LS:=⟨[(0,.d (.sl T)),(1,hZ T),(7,.d i64),(8,.d i64)],[]⟩
def uY(T:Ty):Pt:=⟨19,0,wA T,⟨[],[]⟩,⟨[(4,.d i64)],[]⟩⟩
def PQ(T:Ty)(x:(wA T).X):Fr (uY T).Out:=
 match x with
 |((l,g,n,i,_),_)=>Jb (J (i<n))
  (Jd (0<=i/\i<l.length)
   (Jb (g (l.getD i.toNat T.dflt,())).1 (Jv (Rd.back ((i,()),())))
    (Jv (Rd.next ((l,g,n,I6.wrap (i+1),()),())))))
  (Jv (Rd.out ((),())))
def sQ(l:List α)(n i:Int):Prop:=0<=i/\i<=n/\n=l.length/\n<=9223372036854775807
def MH(T:Ty)(x:(wA T).X):Fr (uY T).Out:=
 Jd (sQ x.1.1 x.1.2.2.1 x.1.2.2.2.1) (Jb (gq (λn=>(x.1.2.1 (n,())).1) (x.1.1.drop x.1.2.2.2.1.toNat) x.1.2.2.2.1).isSome
   (Jv (.back (((gq (λn=>(x.1.2.1 (n,())).1) (x.1.1.drop x.1.2.2.2.1.toNat) x.1.2.2.2.1).getD (-1),()),()))) (Jv (.out ((),()))))
def qpt (T:Ty) (l:List T.den) (g:aa [T]->aa [.bool]) (n i:Int) (m:sQ l n i) (Q:(uY T).Out->Prop) (hq:(Jb (gq (λn=>(g (n,())).1) (l.drop i.toNat) i).isSome (Jv (Rd.back (((gq (λn=>(g (n,())).1) (l.drop i.toNat) i).getD (-1),()),()))) (Jv (Rd.out ((),())))  : Fr (uY T).Out).satP Q) :
  (PQ T ((l,g,n,i,()),())).satP λ
   |.next j=>sQ j.1.1 j.1.2.2.1 j.1.2.2.2.1/\(j.1.2.2.1-j.1.2.2.2.1).toNat<(n-i).toNat/\(MH T j).satP Q
   |.out y=>Q (.out y)
   |.back z=>Q (.back z)
   |.pan p=>Q (.pan p):=by
 obtain⟨O,P,F,H⟩:=m;subst F;refine⟨λhi=>?_,λhi=>?_⟩;have t:i<(l.length:Int):=ucw hi;obtain⟨k,rfl⟩:∃ k:Nat,i=k:=⟨i.toNat,by omega⟩;have w:k<l.length:=by omega
 have C:l.getD (k:Int).toNat T.dflt=l[k]:=by
  rw[show(k:Int).toNat=k by omega,uah,uaq w];rfl
 have hw:I6.wrap ((k:Int)+1)=k+1:=IntWalk.i64_in _ (by omega);have N:l.drop (k:Int).toNat=l[k]::l.drop (k+1):=by
  exact(ual w)
 rw[N]at hq;dsimp only[Fr.satP];rw[C,hw];refine⟨⟨by omega,by omega⟩,λhb=>?_,λhb=>?_⟩;have:gq (λn=>(g (n,())).1) (l[k]::l.drop (k+1)) k=U (k:Int):=if_pos hb;rw[this]at hq;exact hq.1 rfl;have q:¬ (g (l[k],())).1=true:=by rw[hb];decide
 have:gq (λn=>(g (n,())).1) (l[k]::l.drop (k+1)) k=gq (λn=>(g (n,())).1) (l.drop (k+1)) (k+1):=if_neg q;rw[this]at hq;have u:sQ l l.length ((k:Int)+1):=⟨by omega,by omega,rfl,H⟩;refine⟨u,by omega,u,?_⟩;exact hq;have t:¬ i<(l.length:Int):=ucg hi;have e:l.drop i.toNat=[]:=ua2 (by omega);rw[e]at hq;exact hq.2 rfl
def uE{p:Program}{b:Code}(T:Ty)(m:ae p b (wA T) (uY T) (PQ T)):ae p (.loop b) (wA T) (uY T) (MH T):=by
 refine ae.loop m (μ:=λx=>(x.1.2.2.1-x.1.2.2.2.1).toNat) ?_ (λx Q h=>h.1);rintro⟨⟨l,g,n,i,_⟩,_⟩ j Q hq;exact qpt T l g n i j Q hq.2
def ii(g:α->Bool)(l:List α):Int:=(gq g l 0).getD (-1)
def eE(T:Ty):Ct:=⟨[.d (.sl T),hZ T],[i64],λx=>(ii (λn=>(x.2.1 (n,())).1) x.1,()),λ_=>[]⟩
def oQ(T:Ty)(x:ag [.d (.sl T),hZ T]):Fr (aa [i64]):=Jd (sQ x.1 x.1.length 0) (Jb (gq (λn=>(x.2.1 (n,())).1) x.1 0).isSome (Jv ((gq (λn=>(x.2.1 (n,())).1) x.1 0).getD (-1),())) (Jv (-1,())))
def um{p:Program}{T:Ty}(h:af p f ⟨[.d (.sl T),hZ T],[i64],λx=>(oQ T x).get,λx=>[(oQ T x).ok]⟩):af p f (eE T):=
 conv h _ _ (λw F x vs q _=>by
  obtain⟨l,g,_⟩:=x;obtain⟨v,u,rfl,t,_⟩:=q;have i:=mv t;have m:sQ l l.length 0:=⟨by omega,by omega,rfl,i⟩;refine aF m ?_;cases j:gq (λn=>(g (n,())).1) l 0 with
  |some k=>exact aZ rfl ⟨uT,by show(k,())=_;unfold ii;rw[j];rfl⟩
  |none=>exact aR rfl ⟨uT,by show((-1:Int),())=_;unfold ii;rw[j];rfl⟩)
def Qx(g:α->Bool):(l:List α)->(i:Int)->0<=i->J ((gq g l i).getD (-1)>=0)=l.any g
 |[],_,_=>rfl
 |x::r,i,h=>by
  unfold gq;simp;split;rename_i j;rw[j];simp[h];rename_i j;rw[Qx g r (i+1) (by omega)];simp[j]
def Cl(g:α->Bool)(l:List α):J (0<=ii g l)=l.any g:=Qx g l 0 (by omega)
def Qw(g:α->Bool):(l:List α)->(i k:Int)->gq g l i=U k->i<=k/\k<i+l.length/\∃ x,l[(k-i).toNat]?= U x/\g x=Z
 |[],_,_,h=>nomatch h
 |x::r,i,k,h=>by
  unfold gq at h;split at h;rename_i q;cases h;exact⟨by omega,by simp;omega,x,by rw[show(i-i).toNat=0 by omega];rfl,q⟩;obtain⟨t,u,y,j,m⟩:=Qw g r (i+1) k h;refine⟨by omega,by simp;omega,y,?_,m⟩;rw[show(k-i).toNat=(k-(i+1)).toNat+1 by omega];exact j
def xZ{g:α->Bool}{l:List α}(h:0<=ii g l):ii g l<l.length/\∃ x,l[(ii g l).toNat]?= U x/\g x=true:=by
 unfold ii at h |-;cases i:gq g l 0 with
 |none=>rw[i]at h;exact absurd h (by decide)
 |some k=>
  obtain⟨q,t,x,j,m⟩:=Qw g l 0 k i;rw[udb];exact⟨by omega,x,by simpa using j,m⟩
def fA(T:Ty):Ct:=⟨[.d (.sl T),hZ T],[.bool],λx=>(x.1.any (λn=>(x.2.1 (n,())).1),()),λ_=>[]⟩
def R0:af prog 175 (eE zjv):=
 um (cS (fn:=f175) aH (uE zjv (ae.of_run aH (bs:=0) rfl rfl rfl (λ_=>aY _ 0) (λx=>by kernel_rfl))) (ps:=[.d (.sl zjv),hZ zjv]) (rs:=[i64]) (fr:=oQ zjv))
def IP:af prog 230 (eE ar):=
 um (cS (fn:=f230) aH (uE ar (ae.of_run aH (bs:=0) rfl rfl rfl (λ_=>aY _ 0) (λx=>by kernel_rfl))) (ps:=[.d (.sl ar),hZ ar]) (rs:=[i64]) (fr:=oQ ar))
def R1:af prog 164 (eE ah):=
 um (cS (fn:=f164) aH (uE ah (ae.of_run aH (bs:=0) rfl rfl rfl (λ_=>aY _ 0) (λx=>by kernel_rfl))) (ps:=[.d (.sl ah),hZ ah]) (rs:=[i64]) (fr:=oQ ah))
noncomputable def Yo:Cx:=cx [(230,eE ar)] []
def Yp:CxOK prog Yo:=aP aG ⟨IP,uT⟩ trivial
def NE:af prog 210 (fA ar):=
 conv (aS Yp f210 (fr:=λx=>Jv (J (ii (λn=>(x.2.1 (n,())).1) x.1>=0),())) (ps:=[.d (.sl ar),hZ ar]) (rs:=[.bool])) _ _
  (λ_ _ x _ _ _=>⟨uT,ufp (Cl _ x.1) rfl⟩)
noncomputable def Yu:Cx:=cx [(164,eE ah)] []
def Yv:CxOK prog Yu:=aP aG ⟨R1,uT⟩ trivial
def Fu:af prog 114 (fA ah):=
 conv (aS Yv f114 (fr:=λx=>Jv (J (ii (λn=>(x.2.1 (n,())).1) x.1>=0),())) (ps:=[.d (.sl ah),hZ ah]) (rs:=[.bool])) _ _
  (λ_ _ x _ _ _=>⟨uT,ufp (Cl _ x.1) rfl⟩)
section
open Go.Shelf Go.Lib
def Cp:∃ i0 z,InsTy prog 55 116 3 i0 z 11 120:=
 have ⟨i0,j,m,q,t⟩:=ufi (show(prog.info? 116).map (λi=>(i.zero,i.size,i.bytes))=U (U (.agg #[.int .i64 0,.int .i64 0,.int .i64 0,.int .i64 0,.int .i64 0,.int .i64 0,.int .i64 0,.int .i64 0,.slice V 0 0,.slice V 0 0,.int .i64 0]),11,120) by kernel_rfl)
 ⟨i0,_,underlying55,underlying3,j,m,q,t,rfl,by decide⟩
def qnt:zV prog 273 116 11 120:=by
 intro w B n s v xs news hB t S H i j;obtain⟨i0,z,T⟩:=Cp;obtain⟨vb,vc,v',w',rfl,m,C,e2,F⟩:=T.fin hB t S H i j;have W:(n:Int)<=9223372036854775807:=by unfold maxLen at i;omega
 go_enter func273,ntmps273
 rcases t.2 with ⟨rfl,rfl⟩|⟨g,u,cur,rfl,N,hg,Q,O,P,q⟩
 all_goals go_wp2_with (at_builtin;refine Lib.wpList_append_run _ rfl _ _ _ _ rfl _ _ rfl rfl _ _ (m _) ?_)
 all_goals (go_ret;exact⟨_,rfl,C,e2,F⟩)
def qnw:zX prog 273 116 11:=by
 intro w n i g m vb vc cur xs news hi hg Q q P t H j F S hvt hvc hvs O h1;obtain⟨i0,z,T⟩:=Cp;have hc63:m<=9223372036854775807:=by unfold maxLen at P;omega
 obtain⟨hz2,hw1,hb1,htn,hin,_,hb3⟩:=ul hi (by omega);have hb2:¬ (m=i+1):=by omega
 have hb4:¬ (m=i):=by omega
 obtain⟨C1,C2,u,C,k2,k3⟩:=T.shift hi hg Q q t j F S hvt O h1 (vc:=vc);have W:∀ lb N,(callFunc 275 #[.slice (U ⟨vb,0,V⟩) 1 vc,.slice (U ⟨g,(i+1)*11,V⟩) lb N]).run prog w=.ok (.value (.bool Y)) w:=λlb N=>by
  rw[run_callFunc_extern func275 (by kernel_rfl) (by kernel_rfl) (by kernel_rfl) (e:=Extern.SlicesOverlaps.overlaps #[55,55] #[4]) (by kernel_rfl),
   Lib.run_overlaps_apart w 55 4 116 T.us 11 (λw=>by kernel_rfl) ⟨vb,0,V⟩ ⟨g,(i+1)*11,V⟩ 1 vc lb N F 116 116 H.size cur.size (by simp[World.shape?,j]) (by simp[World.shape?,hg]) (by omega) (by simp[World.frozen?,j]) (by simp[World.frozen?,j])]
  rfl
 go_enter func273,ntmps273
 go_wp2_with (simp only[W])
 go_region_law (refine vX rfl _ _ 55 55 rfl _ _ (by simp[Act.eval,Act.put]) (by simp[Act.eval,Act.put]) (u _ _ _) ?_)
 go_wp2_with (at_builtin;refine nI _ rfl _ _ 55 55 rfl _ _ rfl rfl (C _ _) ?_)
 go_ret
 exact⟨C2,rfl,rfl,k2,k3⟩
def qnu:zW prog 273 116 11 120:=by
 intro w n i g t vb vc cur xs news hi hg Q hnc m q vcur hvg hnl hvt N h1 u P;obtain⟨i0,z,T⟩:=Cp;have H:n<=9223372036854775806:=by unfold maxLen at u;omega
 obtain⟨hz2,hw1,hb1,htn,hin,hb3,_⟩:=ul hi H;obtain⟨G,ROW,C1,C2,hrz,F,j,O,C,S,W,k2,k3⟩:=T.grow hi hg Q hnc m q hvg hnl hvt N h1 u P (vc:=vc);have hz3:(t:Int)<(n:Int)+(1:Int):=by omega
 have hGi:¬ (G=i):=by omega
 have hGim:¬ (G=i+1):=by omega
 have hci:¬ (t=i):=by omega
 have hG63:G<=9223372036854775807:=by unfold maxLen at C;omega
 go_enter func273,ntmps273
 go_wp2_with (first
  |(at_builtin;refine Lib.wpList_append_run _ rfl _ _ _ _ rfl _ _ rfl rfl _ _ (hrz _) ?_)
  |(at_builtin;refine nI _ rfl _ _ 55 55 rfl _ _ rfl rfl (F _ _) ?_)
  |(at_builtin;refine nI _ rfl _ _ 55 55 rfl _ _ rfl rfl (j _ _ _) ?_))
 go_region_law (refine vX rfl _ _ 55 55 rfl _ _ (by simp[Act.eval,Act.put]) (by simp[Act.eval,Act.put]) (j _ _ _) ?_)
 go_wp2
 go_ret
 exact⟨G,C2,rfl,S,W,O,C,k2,k3⟩
def qnv:InsOK prog 273 116 zjv 120:=IY (enters_of func273 (by kernel_rfl) rfl) qnt qnu qnw
def qdp:CloneOK prog 274 116 zjv 120:=by
 refine⟨enters_of func274 (by kernel_rfl) rfl,λw n c A xs N H j u F m q=>?_⟩;obtain⟨i0,z,T⟩:=Cp;have i:=T.nil w
 go_enter func274,ntmps274
 cases A with
 |none=>
  have h0:=H rfl;subst h0;have O:xs=[]:=uab (by simpa using j);subst O
  go_wp2_with (simp only[i])
  go_ret
  exact⟨_,rfl,⟨rfl,rfl,rfl,ue6 _,λ_ _ _=>rfl⟩,ucr _ _ _ _⟩
 |some ad=>
  obtain⟨P,w',t,C,e2⟩:=T.clone j (u ad rfl) F m q (n:=n) (c:=c)
  go_wp2_with (first|(simp only[i];done)|simp only[i]|(at_builtin;refine Lib.wpList_append_run _ rfl _ _ _ _ rfl _ _ rfl rfl _ _ (t _) ?_))
  go_ret
  exact⟨P,rfl,C,e2⟩
def Cq:∃ i0 z,InsTy prog 56 150 3 i0 z 7 72:=
 have ⟨i0,j,m,q,t⟩:=ufi (show(prog.info? 150).map (λi=>(i.zero,i.size,i.bytes))=U (U (.agg #[.int .i64 0,.int .i64 0,.int .i64 0,.int .i64 0,.int .i64 0,.int .i64 0,.slice V 0 0]),7,72) by kernel_rfl)
 ⟨i0,_,underlying56,underlying3,j,m,q,t,rfl,by decide⟩
def qnx:zV prog 290 150 7 72:=by
 intro w B n s v xs news hB t S H i j;obtain⟨i0,z,T⟩:=Cq;obtain⟨vb,vc,v',w',rfl,m,C,e2,F⟩:=T.fin hB t S H i j;have W:(n:Int)<=9223372036854775807:=by unfold maxLen at i;omega
 go_enter func290,ntmps290
 rcases t.2 with ⟨rfl,rfl⟩|⟨g,u,cur,rfl,N,hg,Q,O,P,q⟩
 all_goals go_wp2_with (at_builtin;refine Lib.wpList_append_run _ rfl _ _ _ _ rfl _ _ rfl rfl _ _ (m _) ?_)
 all_goals (go_ret;exact⟨_,rfl,C,e2,F⟩)
def qn0:zX prog 290 150 7:=by
 intro w n i g m vb vc cur xs news hi hg Q q P t H j F S hvt hvc hvs O h1;obtain⟨i0,z,T⟩:=Cq;have hc63:m<=9223372036854775807:=by unfold maxLen at P;omega
 obtain⟨hz2,hw1,hb1,htn,hin,_,hb3⟩:=ul hi (by omega);have hb2:¬ (m=i+1):=by omega
 have hb4:¬ (m=i):=by omega
 obtain⟨C1,C2,u,C,k2,k3⟩:=T.shift hi hg Q q t j F S hvt O h1 (vc:=vc);have W:∀ lb N,(callFunc 292 #[.slice (U ⟨vb,0,V⟩) 1 vc,.slice (U ⟨g,(i+1)*7,V⟩) lb N]).run prog w=.ok (.value (.bool Y)) w:=λlb N=>by
  rw[run_callFunc_extern func292 (by kernel_rfl) (by kernel_rfl) (by kernel_rfl) (e:=Extern.SlicesOverlaps.overlaps #[56,56] #[4]) (by kernel_rfl),
   Lib.run_overlaps_apart w 56 4 150 T.us 7 (λw=>by kernel_rfl) ⟨vb,0,V⟩ ⟨g,(i+1)*7,V⟩ 1 vc lb N F 150 150 H.size cur.size (by simp[World.shape?,j]) (by simp[World.shape?,hg]) (by omega) (by simp[World.frozen?,j]) (by simp[World.frozen?,j])]
  rfl
 go_enter func290,ntmps290
 go_wp2_with (simp only[W])
 go_region_law (refine vX rfl _ _ 56 56 rfl _ _ (by simp[Act.eval,Act.put]) (by simp[Act.eval,Act.put]) (u _ _ _) ?_)
 go_wp2_with (at_builtin;refine nI _ rfl _ _ 56 56 rfl _ _ rfl rfl (C _ _) ?_)
 go_ret
 exact⟨C2,rfl,rfl,k2,k3⟩
def qny:zW prog 290 150 7 72:=by
 intro w n i g t vb vc cur xs news hi hg Q hnc m q vcur hvg hnl hvt N h1 u P;obtain⟨i0,z,T⟩:=Cq;have H:n<=9223372036854775806:=by unfold maxLen at u;omega
 obtain⟨hz2,hw1,hb1,htn,hin,hb3,_⟩:=ul hi H;obtain⟨G,ROW,C1,C2,hrz,F,j,O,C,S,W,k2,k3⟩:=T.grow hi hg Q hnc m q hvg hnl hvt N h1 u P (vc:=vc);have hz3:(t:Int)<(n:Int)+(1:Int):=by omega
 have hGi:¬ (G=i):=by omega
 have hGim:¬ (G=i+1):=by omega
 have hci:¬ (t=i):=by omega
 have hG63:G<=9223372036854775807:=by unfold maxLen at C;omega
 go_enter func290,ntmps290
 go_wp2_with (first
  |(at_builtin;refine Lib.wpList_append_run _ rfl _ _ _ _ rfl _ _ rfl rfl _ _ (hrz _) ?_)
  |(at_builtin;refine nI _ rfl _ _ 56 56 rfl _ _ rfl rfl (F _ _) ?_)
  |(at_builtin;refine nI _ rfl _ _ 56 56 rfl _ _ rfl rfl (j _ _ _) ?_))
 go_region_law (refine vX rfl _ _ 56 56 rfl _ _ (by simp[Act.eval,Act.put]) (by simp[Act.eval,Act.put]) (j _ _ _) ?_)
 go_wp2
 go_ret
 exact⟨G,C2,rfl,S,W,O,C,k2,k3⟩
def qnz:InsOK prog 290 150 ar 72:=IY (enters_of func290 (by kernel_rfl) rfl) qnx qny qn0
def qdr:CloneOK prog 291 150 ar 72:=by
 refine⟨enters_of func291 (by kernel_rfl) rfl,λw n c A xs N H j u F m q=>?_⟩;obtain⟨i0,z,T⟩:=Cq;have i:=T.nil w
 go_enter func291,ntmps291
 cases A with
 |none=>
  have h0:=H rfl;subst h0;have O:xs=[]:=uab (by simpa using j);subst O
  go_wp2_with (simp only[i])
  go_ret
  exact⟨_,rfl,⟨rfl,rfl,rfl,ue6 _,λ_ _ _=>rfl⟩,ucr _ _ _ _⟩
 |some ad=>
  obtain⟨P,w',t,C,e2⟩:=T.clone j (u ad rfl) F m q (n:=n) (c:=c)
  go_wp2_with (first|(simp only[i];done)|simp only[i]|(at_builtin;refine Lib.wpList_append_run _ rfl _ _ _ _ rfl _ _ rfl rfl _ _ (t _) ?_))
  go_ret
  exact⟨P,rfl,C,e2⟩
def Cr:∃ i0 z,InsTy prog 57 44 3 i0 z 9 72:=
 have ⟨i0,j,m,q,t⟩:=ufi (show(prog.info? 44).map (λi=>(i.zero,i.size,i.bytes))=U (U (.agg #[.int .i64 0,.int .i64 0,.int .i64 0,.int .i64 0,.int .i64 0,.int .i64 0,.int .i64 0,.int .i64 0,.int .i64 0]),9,72) by kernel_rfl)
 ⟨i0,_,underlying57,underlying3,j,m,q,t,rfl,by decide⟩
def qn4:zV prog 306 44 9 72:=by
 intro w B n s v xs news hB t S H i j;obtain⟨i0,z,T⟩:=Cr;obtain⟨vb,vc,v',w',rfl,m,C,e2,F⟩:=T.fin hB t S H i j;have W:(n:Int)<=9223372036854775807:=by unfold maxLen at i;omega
 go_enter func306,ntmps306
 rcases t.2 with ⟨rfl,rfl⟩|⟨g,u,cur,rfl,N,hg,Q,O,P,q⟩
 all_goals go_wp2_with (at_builtin;refine Lib.wpList_append_run _ rfl _ _ _ _ rfl _ _ rfl rfl _ _ (m _) ?_)
 all_goals (go_ret;exact⟨_,rfl,C,e2,F⟩)
def qn7:zX prog 306 44 9:=by
 intro w n i g m vb vc cur xs news hi hg Q q P t H j F S hvt hvc hvs O h1;obtain⟨i0,z,T⟩:=Cr;have hc63:m<=9223372036854775807:=by unfold maxLen at P;omega
 obtain⟨hz2,hw1,hb1,htn,hin,_,hb3⟩:=ul hi (by omega);have hb2:¬ (m=i+1):=by omega
 have hb4:¬ (m=i):=by omega
 obtain⟨C1,C2,u,C,k2,k3⟩:=T.shift hi hg Q q t j F S hvt O h1 (vc:=vc);have W:∀ lb N,(callFunc 309 #[.slice (U ⟨vb,0,V⟩) 1 vc,.slice (U ⟨g,(i+1)*9,V⟩) lb N]).run prog w=.ok (.value (.bool Y)) w:=λlb N=>by
  rw[run_callFunc_extern func309 (by kernel_rfl) (by kernel_rfl) (by kernel_rfl) (e:=Extern.SlicesOverlaps.overlaps #[57,57] #[4]) (by kernel_rfl),
   Lib.run_overlaps_apart w 57 4 44 T.us 9 (λw=>by kernel_rfl) ⟨vb,0,V⟩ ⟨g,(i+1)*9,V⟩ 1 vc lb N F 44 44 H.size cur.size (by simp[World.shape?,j]) (by simp[World.shape?,hg]) (by omega) (by simp[World.frozen?,j]) (by simp[World.frozen?,j])]
  rfl
 go_enter func306,ntmps306
 go_wp2_with (simp only[W])
 go_region_law (refine vX rfl _ _ 57 57 rfl _ _ (by simp[Act.eval,Act.put]) (by simp[Act.eval,Act.put]) (u _ _ _) ?_)
 go_wp2_with (at_builtin;refine nI _ rfl _ _ 57 57 rfl _ _ rfl rfl (C _ _) ?_)
 go_ret
 exact⟨C2,rfl,rfl,k2,k3⟩
def qn5:zW prog 306 44 9 72:=by
 intro w n i g t vb vc cur xs news hi hg Q hnc m q vcur hvg hnl hvt N h1 u P;obtain⟨i0,z,T⟩:=Cr;have H:n<=9223372036854775806:=by unfold maxLen at u;omega
 obtain⟨hz2,hw1,hb1,htn,hin,hb3,_⟩:=ul hi H;obtain⟨G,ROW,C1,C2,hrz,F,j,O,C,S,W,k2,k3⟩:=T.grow hi hg Q hnc m q hvg hnl hvt N h1 u P (vc:=vc);have hz3:(t:Int)<(n:Int)+(1:Int):=by omega
 have hGi:¬ (G=i):=by omega
 have hGim:¬ (G=i+1):=by omega
 have hci:¬ (t=i):=by omega
 have hG63:G<=9223372036854775807:=by unfold maxLen at C;omega
 go_enter func306,ntmps306
 go_wp2_with (first
  |(at_builtin;refine Lib.wpList_append_run _ rfl _ _ _ _ rfl _ _ rfl rfl _ _ (hrz _) ?_)
  |(at_builtin;refine nI _ rfl _ _ 57 57 rfl _ _ rfl rfl (F _ _) ?_)
  |(at_builtin;refine nI _ rfl _ _ 57 57 rfl _ _ rfl rfl (j _ _ _) ?_))
 go_region_law (refine vX rfl _ _ 57 57 rfl _ _ (by simp[Act.eval,Act.put]) (by simp[Act.eval,Act.put]) (j _ _ _) ?_)
 go_wp2
 go_ret
 exact⟨G,C2,rfl,S,W,O,C,k2,k3⟩
def qn6:InsOK prog 306 44 ah 72:=IY (enters_of func306 (by kernel_rfl) rfl) qn4 qn5 qn7
def qdu:CloneOK prog 307 44 ah 72:=by
 refine⟨enters_of func307 (by kernel_rfl) rfl,λw n c A xs N H j u F m q=>?_⟩;obtain⟨i0,z,T⟩:=Cr;have i:=T.nil w
 go_enter func307,ntmps307
 cases A with
 |none=>
  have h0:=H rfl;subst h0;have O:xs=[]:=uab (by simpa using j);subst O
  go_wp2_with (simp only[i])
  go_ret
  exact⟨_,rfl,⟨rfl,rfl,rfl,ue6 _,λ_ _ _=>rfl⟩,ucr _ _ _ _⟩
 |some ad=>
  obtain⟨P,w',t,C,e2⟩:=T.clone j (u ad rfl) F m q (n:=n) (c:=c)
  go_wp2_with (first|(simp only[i];done)|simp only[i]|(at_builtin;refine Lib.wpList_append_run _ rfl _ _ _ _ rfl _ _ rfl rfl _ _ (t _) ?_))
  go_ret
  exact⟨P,rfl,C,e2⟩
end
def pn(g:α->Int)(l:List α)(x:α):Int:=ii (λy=>J (g y>g x)) l
def iT(g:α->Int)(l:List α)(x:α):List α:=kL (if pn g l x<0 then (l.length:Int)else pn g l x) l [x]
abbrev sW(T:Ty):List PT:=[.d (.sl T),.d T,.fn [T] [i64]]
def xE(T:Ty)(n:Nat)(x:ag (sW T)):Fr (aa [.sl T]):=
 let b:=x.2.2.1;let a:=(x.1.length:Int);Jd (∀ y:aa [T],fi [T] y->av ([]:List Prop)) (Jb (J (pn (λy=>(b (y,())).1) x.1 x.2.1<0))
  (Jd (x.1.length<=maxLen) (Jd (x.1.length*n<=140737488355328) (Jd (0<=a/\a<=x.1.length) (Jd ([x.2.1].length=1) (Jd (x.1.length+1<=maxLen/\(x.1.length+1)*n<=140737488355328)
   (Jv (kL a x.1 [x.2.1],())))))))
  (Jd (x.1.length<=maxLen) (Jd (x.1.length*n<=140737488355328) (Jd (0<=pn (λy=>(b (y,())).1) x.1 x.2.1/\pn (λy=>(b (y,())).1) x.1 x.2.1<=x.1.length) (Jd ([x.2.1].length=1) (Jd (x.1.length+1<=maxLen/\(x.1.length+1)*n<=140737488355328)
   (Jv (kL (pn (λy=>(b (y,())).1) x.1 x.2.1) x.1 [x.2.1],()))))))))
def tx(T:Ty):Ct:=⟨sW T,[.sl T],λx=>(iT (λy=>(x.2.2.1 (y,())).1) x.1 x.2.1,()),λx=>[x.1.length<=100000]⟩
def Kg(T:Ty)(t:n<=1000)(x:ag (sW T))(u:x.1.length<=100000):(xE T n x).ok/\(xE T n x).get=(iT (λy=>(x.2.2.1 (y,())).1) x.1 x.2.1,()):=by
 have j:x.1.length<=maxLen:=by unfold maxLen;omega
 have m:x.1.length*n<=140737488355328:=by
  have:x.1.length*n<=100000*1000:=ueb u t;omega
 have q:x.1.length+1<=maxLen/\(x.1.length+1)*n<=140737488355328:=by
  refine⟨by unfold maxLen;omega,?_⟩;have:(x.1.length+1)*n<=100001*1000:=ueb (by omega) t;omega
 refine aF (λ_ _=>uT) ?_;by_cases i:pn (λy=>(x.2.2.1 (y,())).1) x.1 x.2.1<0;exact aZ (ud7 i) (aF j (aF m (aF ⟨by omega,by omega⟩ (aF rfl (aF q ⟨uT,by unfold iT;rw[if_pos i];rfl⟩)))));refine aR (uds i) (aF j (aF m (aF ⟨by omega,?_⟩ (aF rfl (aF q ⟨uT,by unfold iT;rw[if_neg i];rfl⟩)))));exact ueq (xZ (by unfold pn at i;omega)).1
def zbz{i:Int}(a:0<=i)(b:i<(n:Int)):i.toNat<n:=by omega
abbrev wC(T:Ty):List PT:=[.d (.sl T),.d i64,.d T]
def BY(T:Ty)(n:Nat)(x:ag (wC T)):Fr (aa [.sl T]):=
 Jd (x.1.length<=maxLen) (Jd (x.1.length*n<=140737488355328) (Jd (0<=x.2.1/\x.2.1<(x.1.length:Int)) (Jd (x.2.1.toNat<x.1.length) (Jv (x.1.set x.2.1.toNat x.2.2.1,())))))
def AG(T:Ty):Ct:=⟨wC T,[.sl T],λx=>(x.1.set x.2.1.toNat x.2.2.1,()),λx=>[x.1.length<=100000,0<=x.2.1/\x.2.1<(x.1.length:Int)]⟩
def W5(T:Ty)(u:n<=1000)(x:ag (wC T))(j:x.1.length<=100000)(hi:0<=x.2.1/\x.2.1<(x.1.length:Int)):(BY T n x).ok/\(BY T n x).get=(x.1.set x.2.1.toNat x.2.2.1,()):=by
 obtain⟨l,i,y,_⟩:=x;have m:l.length<=maxLen:=by unfold maxLen;exact uel j (by decide)
 have q:l.length*n<=140737488355328:=by
  have:l.length*n<=100000*1000:=ueb j u;omega
 have t:i.toNat<l.length:=zbz hi.1 hi.2;exact aF m (aF q (aF hi (aF t ⟨uT,rfl⟩)))
def j7(T:Ty):Ct:=⟨[.d T,.pfn [T] [i64],.ptr T],[.bool],λx=>(J ((x.2.1 (x.1,())).1>(x.2.1 (x.2.2.1,())).1),()),λ_=>[]⟩
def qwj:af prog 272 (j7 zjv):=
 conv (aS aH f272 (fr:=λx=>Jv (J ((x.2.1 (x.1,())).1>(x.2.1 (x.2.2.1,())).1),())) (ps:=(j7 zjv).ps) (rs:=[.bool])) _ _ (λ_ _ _ _ _ _=>⟨uT,rfl⟩)
noncomputable def Yw:Cx:=l8 [(175,eE zjv),(272,j7 zjv)] [] [(274,.clone 116 zjv 120),(273,.ins 116 zjv 120)] (λ_ _ _ _=>V)
def Mi:CxOK prog Yw:=mI (cs:=[(175,eE zjv),(272,j7 zjv)]) (ps:=[]) (rs:=[(274,.clone 116 zjv 120),(273,.ins 116 zjv 120)]) aG ⟨R0,qwj,uT⟩ trivial ⟨qdp,qnv,uT⟩ (λ_ _ _ _ _ h=>(nomatch h))
def qwm:af prog 269 (tx zjv):=
 conv (aS Mi f269 (fr:=xE zjv 120) (ps:=sW zjv) (rs:=[.sl zjv])) _ _ (λ_ _ x _ _ h=>Kg zjv (by decide) x h)
def zc8:af prog 282 (AG zjv):=
 conv (aS Mi f282 (fr:=BY zjv 120) (ps:=wC zjv) (rs:=[.sl zjv])) _ _ (λ_ _ x _ _ h=>W5 zjv (by decide) x h.1 h.2)
def qwk:af prog 289 (j7 ar):=
 conv (aS aH f289 (fr:=λx=>Jv (J ((x.2.1 (x.1,())).1>(x.2.1 (x.2.2.1,())).1),())) (ps:=(j7 ar).ps) (rs:=[.bool])) _ _ (λ_ _ _ _ _ _=>⟨uT,rfl⟩)
noncomputable def Yx:Cx:=l8 [(230,eE ar),(289,j7 ar)] [] [(291,.clone 150 ar 72),(290,.ins 150 ar 72)] (λ_ _ _ _=>V)
def Mj:CxOK prog Yx:=mI (cs:=[(230,eE ar),(289,j7 ar)]) (ps:=[]) (rs:=[(291,.clone 150 ar 72),(290,.ins 150 ar 72)]) aG ⟨IP,qwk,uT⟩ trivial ⟨qdr,qnz,uT⟩ (λ_ _ _ _ _ h=>(nomatch h))
def qwn:af prog 286 (tx ar):=
 conv (aS Mj f286 (fr:=xE ar 72) (ps:=sW ar) (rs:=[.sl ar])) _ _ (λ_ _ x _ _ h=>Kg ar (by decide) x h)
def zda:af prog 297 (AG ar):=
 conv (aS Mj f297 (fr:=BY ar 72) (ps:=wC ar) (rs:=[.sl ar])) _ _ (λ_ _ x _ _ h=>W5 ar (by decide) x h.1 h.2)
def qwl:af prog 305 (j7 ah):=
 conv (aS aH f305 (fr:=λx=>Jv (J ((x.2.1 (x.1,())).1>(x.2.1 (x.2.2.1,())).1),())) (ps:=(j7 ah).ps) (rs:=[.bool])) _ _ (λ_ _ _ _ _ _=>⟨uT,rfl⟩)
noncomputable def Yy:Cx:=l8 [(164,eE ah),(305,j7 ah)] [] [(307,.clone 44 ah 72),(306,.ins 44 ah 72)] (λ_ _ _ _=>V)
def Yz:CxOK prog Yy:=mI (cs:=[(164,eE ah),(305,j7 ah)]) (ps:=[]) (rs:=[(307,.clone 44 ah 72),(306,.ins 44 ah 72)]) aG ⟨R1,qwl,uT⟩ trivial ⟨qdu,qn6,uT⟩ (λ_ _ _ _ _ h=>(nomatch h))
def qwo:af prog 302 (tx ah):=
 conv (aS Yz f302 (fr:=xE ah 72) (ps:=sW ah) (rs:=[.sl ah])) _ _ (λ_ _ x _ _ h=>Kg ah (by decide) x h)
abbrev db(s:aq.den):List zjv.den:=s.2.1
abbrev bq(s:aq.den):List ar.den:=s.2.2.1
abbrev jW(s:aq.den):List ah.den:=s.2.2.2.1
abbrev mg(s:aq.den):Int:=s.2.2.2.2.1
abbrev cC(f:aD.den):Int:=f.1
abbrev aU(f:aD.den):Int:=f.2.1
abbrev mU(f:aD.den):Int:=f.2.2.1
abbrev hH(f:aD.den):Int:=f.2.2.2.1
abbrev hN(f:aD.den):Int:=f.2.2.2.2.1
abbrev mV(f:aD.den):dm.den:=f.2.2.2.2.2.1
abbrev lF(f:aD.den):az.den:=f.2.2.2.2.2.2.1
abbrev fB(f:aD.den):dD.den:=f.2.2.2.2.2.2.2.1
abbrev mT(f:aD.den):bn.den:=f.2.2.2.2.2.2.2.2.1
abbrev fD(f:aD.den):ah.den:=f.2.2.2.2.2.2.2.2.2.1
abbrev nW(a:zjv.den):Int:=a.1.1
abbrev oR(g:ar.den):Int:=g.1.1
def gz(s:aq.den)(id:Int):Int:=ii (λa=>nW a==id) (db s)
def jH(s:aq.den)(id:Int):Int:=ii (λg=>oR g==id) (bq s)
def kj(s:aq.den)(id:Int):zjv.den×Bool:=if gz s id>=0 then ((db s).getD (gz s id).toNat zjv.dflt,Z)else (zjv.dflt,Y)
def FU:Ct:=⟨[.d zjv,.ptr i64],[.bool],λx=>(nW x.1==x.2.1,()),λ_=>[]⟩
def Gp:Ct:=⟨[.d ar,.ptr i64],[.bool],λx=>(oR x.1==x.2.1,()),λ_=>[]⟩
def ZZ:af prog 176 FU:=
 conv (aS aH f176 (fr:=λx=>Jv (nW x.1==x.2.1,())) (ps:=FU.ps) (rs:=[.bool])) _ _ (λ_ _ _ _ _ _=>⟨uT,rfl⟩)
def qkm:af prog 288 Gp:=
 conv (aS aH f288 (fr:=λx=>Jv (oR x.1==x.2.1,())) (ps:=Gp.ps) (rs:=[.bool])) _ _ (λ_ _ _ _ _ _=>⟨uT,rfl⟩)
noncomputable def Y0:Cx:=cx [(175,eE zjv),(230,eE ar),(176,FU),(288,Gp)] []
def Mk:CxOK prog Y0:=aP aG ⟨R0,IP,ZZ,qkm,uT⟩ trivial
abbrev sX:List PT:=[.d aq,.d i64]
def FV:Ct:=⟨sX,[i64],λx=>(gz x.1 x.2.1,()),λ_=>[]⟩
def Gq:Ct:=⟨sX,[i64],λx=>(jH x.1 x.2.1,()),λ_=>[]⟩
def N8:af prog 125 FV:=
 conv (aS Mk f125 (fr:=λx=>Jd (∀ y:aa [zjv],fi [zjv] y->av ([]:List Prop)) (Jv (gz x.1 x.2.1,()))) (ps:=sX) (rs:=[i64])) _ _ (λ_ _ _ _ _ _=>aF (λ_ _=>uT) ⟨uT,rfl⟩)
def Qq:af prog 285 Gq:=
 conv (aS Mk f285 (fr:=λx=>Jd (∀ y:aa [ar],fi [ar] y->av ([]:List Prop)) (Jv (jH x.1 x.2.1,()))) (ps:=sX) (rs:=[i64])) _ _ (λ_ _ _ _ _ _=>aF (λ_ _=>uT) ⟨uT,rfl⟩)
noncomputable def Y1:Cx:=cx [(125,FV),(285,Gq)] []
def Y2:CxOK prog Y1:=aP aG ⟨N8,Qq,uT⟩ trivial
def wN:Ct:=⟨sX,[zjv,.bool],λx=>((kj x.1 x.2.1).1,(kj x.1 x.2.1).2,()),λ_=>[]⟩
def NA:af prog 78 wN:=
 conv (aS Y2 f78 (fr:=λx=>Jb (J (gz x.1 x.2.1>=0)) (Jd (0<=gz x.1 x.2.1/\gz x.1 x.2.1<((db x.1).length:Int)) (Jv ((db x.1).getD (gz x.1 x.2.1).toNat zjv.dflt,Z,()))) (Jv (zjv.dflt,Y,()))) (ps:=sX) (rs:=[zjv,.bool])) _ _ (λ_ _ x _ _ _=>by
  by_cases h:gz x.1 x.2.1>=0;refine aZ (ud7 h) (aF ⟨h,(xZ h).1⟩ ⟨uT,?_⟩);show _=((kj x.1 x.2.1).1,(kj x.1 x.2.1).2,());unfold kj;rw[if_pos h];rfl;refine aR (uds h) ⟨uT,?_⟩;show _=((kj x.1 x.2.1).1,(kj x.1 x.2.1).2,());unfold kj;rw[if_neg h];rfl)
def ym(t:b8.den):aq.den:=(t,[],[],[],0,())
def Gy:Ct:=⟨[.d b8],[aq],λx=>(ym x.1,()),λ_=>[]⟩
def qt7:af prog 35 Gy:=
 conv (aS aH f35 (fr:=λx=>Jv (ym x.1,())) (ps:=[.d b8]) (rs:=[aq])) _ _ (λ_ _ _ _ _ _=>⟨uT,rfl⟩)
def qc(n a b:Int):Bool:=bif J (n>=a)then J (n<=b)else Y
def zc9{n b:Int}:qc n a b=Z↔a<=n/\n<=b:=by
 unfold qc;by_cases h:a<=n<;>simp[h]
abbrev N1:List PT:=[.d i64,.d i64,.d i64]
def gV:Ct:=⟨N1,[.bool],λx=>(qc x.1 x.2.1 x.2.2.1,()),λ_=>[]⟩
def W7:af prog 109 gV:=
 conv (aS aH f109 (fr:=λx=>Jv (qc x.1 x.2.1 x.2.2.1,())) (ps:=N1) (rs:=[.bool])) _ _ (λ_ _ _ _ _ _=>⟨uT,rfl⟩)
def A9:Ct:=⟨[.d dD],[ar],λx=>((x.1,[],()),()),λ_=>[]⟩
def T8:af prog 228 A9:=
 conv (aS aH f228 (fr:=λx=>Jv ((x.1,[],()),())) (ps:=[.d dD]) (rs:=[ar])) _ _ (λ_ _ _ _ _ _=>⟨uT,rfl⟩)
def uz(g:ar.den):Int:=match g.2.1.getLast? with
 |some a=>a.1
 |none=>g.1.2.2.2.2.1
def BV(g:ar.den):Fr (aa [i64]):=let a:=((List.length g.2.1):Int);Jb (J (a>0)) (Jd (0<=I6.wrap (a-1)/\I6.wrap (a-1)<a) (Jv ((List.getD g.2.1 (I6.wrap (a-1)).toNat bn.dflt).1,()))) (Jv (g.1.2.2.2.2.1,()))
def qpi{c:dD.den}{l:List bn.den}(i:(l.length:Int)<=9223372036854775807):(BV (c,l,())).ok/\(BV (c,l,())).get=(uz (c,l,()),()):=by
 cases l with
 |nil=>exact aR rfl ⟨uT,rfl⟩
 |cons a r=>
  have hw:I6.wrap (((a::r).length:Int)-1)=r.length:=by
   rw[IntWalk.i64_in _ (by simp only[uc7]at i |-;omega)];simp
  unfold BV;refine aZ (by simp) ?_;dsimp only;rw[hw];refine aF ⟨by omega,by simp only[uc7];omega⟩ ⟨uT,?_⟩;show((List.getD (a::r) ((r.length:Int)).toNat bn.dflt).1,())=_;unfold uz;rw[uao,uah];have:((r.length:Int)).toNat=(a::r).length-1:=by simp
  rw[this,uaq (by simp)];rfl
def A8:Ct:=⟨[.d ar],[i64],λx=>(uz x.1,()),λ_=>[]⟩
def qpg:af prog 238 A8:=
 conv (aS aH f238 (fr:=λx=>BV x.1) (ps:=[.d ar]) (rs:=[i64])) _ _ (λw F x vs m _=>by
  obtain⟨⟨c,l,_⟩,_⟩:=x;obtain⟨v,t,rfl,q,_⟩:=m;have j:l.length<=maxLen:=(aA.wf q.2.2).2.1.1;have i:(l.length:Int)<=9223372036854775807:=by
   unfold maxLen at j;omega
  exact qpi i)
abbrev yL:Ty:=.pair i64 (.pair i64 .unit)
abbrev lW:Pt:=⟨24,0,⟨[(9,.d i64),(8,.d i64),(7,.d aK)],[.x 2 241 yL,.r 2 2 0]⟩,⟨[],[]⟩,⟨[(4,.d .bool)],[]⟩⟩
abbrev vR:Type:=ag []×cR [.x 2 241 yL,.r 2 2 0]
def wd(e:i64.den)(s:vR):Fr (vR ⊕ lW.R.X):=
 Jb (bif J (e<s.2.1.1)then Z else J (e>s.2.1.2.1)) (Jv (.inr ((Y,()),()))) (Jv (.inl ((),(s.2.1.1,s.2.1.2.1,()),())))
def pS(x:lW.M.X):Int×List i64.den×vR:=(x.1.1,x.1.2.2.1,x.1.2.2.2,x.2)
def Rf(x:lW.M.X):Prop:=x.1.2.1=(x.1.2.2.1.length:Int)
def qvn(s:vR):lW.E.X:=((),())
def qe1:vR:=(aW _,bN _)
def Hp:lW.R.X:=(aW _,bN _)
def qsx:ae prog (.loop (au f110 0)) lW.M lW (FL wd pS Rf qvn Rd.back qe1 Hp):=
 qf aH (λ_ _=>.n .o) i64.dflt (λx=>x.1.2.1) (λx s=>((I6.wrap (x.1.1+1),x.1.2.1,x.1.2.2.1,s.1),s.2)) (λ_ h=>h)
def vJ(y:lW.M.X):vR ⊕ lW.R.X:=dt wd ((pS y).2.1.drop (pS y).1.toNat) (pS y).2.2
def qu0(y:lW.M.X):Prop:=jo wd ((pS y).2.1.drop (pS y).1.toNat) (pS y).2.2
def JM{step:T->σ->Fr (σ ⊕ ρ)}:(l:List T)->(∀ e∈l,∀ s,(step e s).ok)->(s:σ)->jo step l s
 |[],_,_=>trivial
 |e::l,h,s=>⟨h e ucb s,by
   split;exact JM l (λe i=>h e (ubi _ i)) _;trivial⟩
def ID{step:T->σ->Fr (σ ⊕ ρ)}{I:σ->Prop}{p:T->Bool}{c:ρ}(h:∀ e s,I s->(step e s).get=if p e=Z then .inl s else .inr c):(l:List T)->(s:σ)->I s->dt step l s=if l.all p=Z then .inl s else .inr c
 |[],_,_=>rfl
 |e::l,s,i=>by
  by_cases j:p e=Z;simp only[dt,h e s i,j,if_true,ueg,uei];exact ID h l s i;simp only[dt,h e s i,j,ufn,ueg,Bool.false_and,ub2]
def HY(x:ag [.d yL,.d aK]):Fr (aa [.bool]):=
 let a:=((0,((List.length x.2.1):Int),x.2.1,()),(x.1.1,x.1.2.1,()),());Jd (InL (Rf a) (pS a)) (Jd (qu0 a) (Jb (dF (vJ a)) (Jv (Z,())) (Jv ((zej Hp (vJ a)).1.1,()))))
def qjx:af prog 110 (bg [.d yL,.d aK] [.bool] HY):=
 cS aH qsx
def rf(a b:Int)(l:List Int):Bool:=l.all λx=>J (a<=x)&&J (x<=b)
def gk:Ct:=⟨[.d yL,.d aK],[.bool],λx=>(rf x.1.1 x.1.2.1 x.2.1,()),λ_=>[]⟩
def qnc(a b:Int)(l:List Int):dt wd l ((),(a,b,()),())=if rf a b l=Z then .inl ((),(a,b,()),())else .inr ((Y,()),()):=
 ID (I:=λs=>s=((),(a,b,()),())) (λe s m=>by
  subst m;by_cases i:e<a;rw[if_neg (by simp;omega)];exact if_pos (by simp[i]);by_cases j:e>b;rw[if_neg (by simp;omega)];exact if_pos (by simp[j]);rw[if_pos (by simp;omega)];exact if_neg (by simp;omega)) l _ rfl
def qnd:af prog 110 gk:=
 conv qjx _ _ (λw F x vs t _=>by
  obtain⟨⟨a,b,_⟩,l,_⟩:=x;obtain⟨v,u,rfl,C,j⟩:=t;obtain⟨H,q,rfl,m,_⟩:=j;have i:((List.length (α:=Int) l:Nat):Int)<=9223372036854775807:=mv m;show(HY ((a,b,()),l,())).ok/\(HY ((a,b,()),l,())).get=(rf a b l,());refine aF ⟨rfl,ue7 _,ub3 _,i⟩ (aF (JM (step:=wd) _ (λe _ s=>⟨λ_=>uT,λ_=>uT⟩) _) ?_);have hg:vJ ((0,((List.length (α:=Int) l:Nat):Int),l,()),(a,b,()),())=if rf a b l=Z then .inl ((),(a,b,()),())else .inr ((Y,()),()):=by
   show dt wd (List.drop 0 l) ((),(a,b,()),())=_;rw[uec,qnc]
  cases hc:rf a b l;rw[hc,if_neg (by decide)]at hg;refine aR (by show dF (vJ ((0,((List.length (α:=Int) l:Nat):Int),l,()),(a,b,()),()))=Y;rw[hg];rfl) ⟨uT,?_⟩;show((zej Hp (vJ ((0,((List.length (α:=Int) l:Nat):Int),l,()),(a,b,()),()))).1.1,())=_;rw[hg];rfl;rw[hc,if_pos rfl]at hg;exact aZ (by show dF (vJ ((0,((List.length (α:=Int) l:Nat):Int),l,()),(a,b,()),()))=Z;rw[hg];rfl) ⟨uT,rfl⟩)
noncomputable def XL:Cx:=cx [(110,gk),(102,tv),(140,fM),(109,gV)] []
def s8:CxOK prog XL:=aP aG ⟨qnd,SK,oT,W7,uT⟩ trivial
abbrev ay:Ty:=.pair i64 (.pair i64 (.pair i64 (.pair i64 (.pair i64 .unit))))
def BJ(x:ag [.d ah]):Fr (aa [.bool]):=
 let l:=x.1.2.1;let g:=x.1.2.2.2;let m:=gk.f ((1,10000,()),[g.1],());let k:=J (g.2.2.1>0);let h:=((gk.f ((0,0,()),[g.2.1,g.2.2.1,g.2.2.2.1],())).1,());let c:=((gk.f ((0,100,()),[g.2.2.2.1],())).1,());let b:=(Y,());let a:=gk.f ((0,1000000000000000,()),[g.2.1,g.2.2.1],());Jb (!(gk.f ((1,1000000000,()),[x.1.1],())).1) (Jb Z (Jv b) (Jb (l==1) (Jb m.1 (Jv h) (Jv b)) (Jb (l==2) (Jb (l==2) (Jb (g.1==0) (Jb a.1 (Jb k (Jv c) (Jv b)) (Jv b)) (Jv b)) (Jv b)) (Jb (l==3) (Jb (g.1==0) (Jb a.1 (Jb k (Jv c) (Jv b)) (Jv b)) (Jv b)) (Jv b))))) (Jb ((tv.f ((x.1.2.2.1.1,x.1.2.2.1.2.1,()),())).1==0) (Jb Z (Jv b) (Jb (l==1) (Jb m.1 (Jv h) (Jv b)) (Jb (l==2) (Jb (l==2) (Jb (g.1==0) (Jb a.1 (Jb k (Jv c) (Jv b)) (Jv b)) (Jv b)) (Jv b)) (Jb (l==3) (Jb (g.1==0) (Jb a.1 (Jb k (Jv c) (Jv b)) (Jv b)) (Jv b)) (Jv b))))) (Jb (!(gk.f ((1,255,()),[g.2.2.2.2.1],())).1) (Jv b) (Jb (l==1) (Jb m.1 (Jv h) (Jv b)) (Jb (l==2) (Jb (l==2) (Jb (g.1==0) (Jb a.1 (Jb k (Jv c) (Jv b)) (Jv b)) (Jv b)) (Jv b)) (Jb (l==3) (Jb (g.1==0) (Jb a.1 (Jb k (Jv c) (Jv b)) (Jv b)) (Jv b)) (Jv b))))))
def qjw:af prog 70 (bg [.d ah] [.bool] BJ):=
 aS s8 f70
def xz(x:ag [.d ay]):Fr (aa [.bool]):=
 let a:=(Y,());Jb (gk.f ((1,1000000000,()),[x.1.1],())).1 (Jb (gk.f ((0,1000000000,()),[x.1.2.1],())).1 (Jb (gk.f ((1,292194,()),[x.1.2.2.1],())).1 (Jb (gk.f ((0,7,()),[x.1.2.2.2.1],())).1 (Jv ((gk.f ((0,1000000000000000,()),[x.1.2.2.2.2.1],())).1,())) (Jv a)) (Jv a)) (Jv a)) (Jv a)
def qjv:af prog 113 (bg [.d ay] [.bool] xz):=
 aS s8 f113
def Qa(x:ag [.d dD]):Fr (aa [.bool]):=
 let a:=x.1.2.2;Jv (bif bif bif bif (gV.f (x.1.1,1,1000000000,())).1 then (gV.f (x.1.2.1,1,1000000000,())).1 else Y then (gV.f (a.2.2.2.1,0,1000000000,())).1 else Y then bif (gV.f (a.2.1,1,292194,())).1 then (gV.f (a.2.2.1,1,292194,())).1 else Y else Y then (gV.f (a.1,0,7,())).1 else Y,())
def qih:af prog 68 (bg [.d dD] [.bool] Qa):=
 aS s8 f68
def B4(x:ag [.d bn]):Fr (aa [.bool]):=
 let b:=gV.f (x.1.2.1,1,5,());let a:=gV.f (x.1.1,1,292194,());Jb (bif x.1.2.1==4 then Z else x.1.2.1==5) (Jv (bif bif a.1 then b.1 else Y then (gV.f (x.1.2.2.1,0,0,())).1 else Y,())) (Jv (bif bif a.1 then b.1 else Y then (gV.f (x.1.2.2.1,0,1000000000000000,())).1 else Y,()))
def qii:af prog 69 (bg [.d bn] [.bool] B4):=
 aS s8 f69
def PZ(x:ag [.d aD]):Fr (aa [.bool]):=
 let a:=x.1.2.2.2.2.2;let h:=a.1.2.1;let g:=a.2.2;let k:=g.1.2.2;let c:=a.2.1.2.2.2;let b:=g.2.2.1.2;let l:=b.2.2.2;Jv (bif bif bif bif bif bif bif bif bif bif bif bif bif bif ((List.length c.2.1):Int)==0 then ((List.length a.1.2.2.1):Int)==0 else Y then x.1.2.2.1==0 else Y then x.1.2.2.2.1==0 else Y then x.1.2.2.2.2.1==0 else Y then a.1.1.1==0&&(a.1.1.2.1==0&&Z)else Y then h.1==0&&(h.2.1==0&&(h.2.2.1==0&&(h.2.2.2.1==0&&Z)))else Y then a.2.1.1==0 else Y then a.2.1.2.1==0 else Y then a.2.1.2.2.1==0 else Y then c.2.2.1==0 else Y then c.1.1==0&&(c.1.2.1==0&&(c.1.2.2.1==0&&(c.1.2.2.2.1==0&&Z)))else Y then g.1.1==0&&(g.1.2.1==0&&(k.1==0&&(k.2.1==0&&(k.2.2.1==0&&(k.2.2.2.1==0&&Z)))))else Y then g.2.1.1==0&&(g.2.1.2.1==0&&(g.2.1.2.2.1==0&&Z))else Y then g.2.2.1.1==0&&(b.1==0&&(b.2.1.1==0&&(b.2.1.2.1==0&&Z)&&(b.2.2.1==0&&(l.1==0&&(l.2.1==0&&(l.2.2.1==0&&(l.2.2.2.1==0&&Z)))))))else Y,())
def qie:af prog 65 (bg [.d aD] [.bool] PZ):=
 aS s8 f65
def Ql(x:ag [.d ah,.d i64,.d i64]):Fr (aa [i64]):=
 let a:=fM.f ((x.1.2.2.1.1,x.1.2.2.1.2.1,()),x.2.1,());Jd ((bif x.1.2.1 != 1 then Z else !a.1)=Y->¬x.2.2.1<0) (Jb (bif bif x.1.2.1 != 1 then Z else !a.1 then Z else I6.wrap ((BitVec.ofInt I6.bits (Int.fdiv x.1.2.2.2.2.2.2.2.1 (2 ^ min (Int.toNat x.2.2.1) I6.bits)) &&& BitVec.ofInt I6.bits 1).toNat:Int)==0) (Jv (0,())) (Jv (x.1.2.2.2.1,())))
def qjo:af prog 308 (bg [.d ah,.d i64,.d i64] [i64] Ql):=
 aS s8 f308
def Dv(t:ah.den):Bool:=(BJ (t,())).get.1
def yJ(l:ay.den):Bool:=(xz (l,())).get.1
def Oq(c:dD.den):Bool:=(Qa (c,())).get.1
def qz(a:bn.den):Bool:=(B4 (a,())).get.1
def Ak(f:aD.den):Bool:=(PZ (f,())).get.1
def CZ(t:ah.den)(day i:Int):Int:=(Ql (t,day,i,())).get.1
def iD:Ct:=⟨[.d ah],[.bool],λx=>(Dv x.1,()),λ_=>[]⟩
def lx:Ct:=⟨[.d ay],[.bool],λx=>(yJ x.1,()),λ_=>[]⟩
def wO:Ct:=⟨[.d dD],[.bool],λx=>(Oq x.1,()),λ_=>[]⟩
def tk:Ct:=⟨[.d bn],[.bool],λx=>(qz x.1,()),λ_=>[]⟩
def Av:Ct:=⟨[.d aD],[.bool],λx=>(Ak x.1,()),λ_=>[]⟩
def G3:Ct:=⟨[.d ah,.d i64,.d i64],[i64],λx=>(CZ x.1 x.2.1 x.2.2.1,()),λx=>[¬ x.2.2.1<0]⟩
def vF:af prog 70 iD:=conv qjw _ _ (λ_ _ x _ _ _=>⟨by show(BJ x).ok;unfold BJ;(repeat' first|exact trivial|(refine⟨λ_=>?_,λ_=>?_⟩)),rfl⟩)
def yK:af prog 113 lx:=conv qjv _ _ (λ_ _ x _ _ _=>⟨by show(xz x).ok;unfold xz;(repeat' first|exact trivial|(refine⟨λ_=>?_,λ_=>?_⟩)),rfl⟩)
def Ot:af prog 68 wO:=conv qih _ _ (λ_ _ x _ _ _=>⟨uT,rfl⟩)
def Oy:af prog 69 tk:=conv qii _ _ (λ_ _ x _ _ _=>⟨by show(B4 x).ok;unfold B4;(repeat' first|exact trivial|(refine⟨λ_=>?_,λ_=>?_⟩)),rfl⟩)
def qbh:af prog 65 Av:=conv qie _ _ (λ_ _ x _ _ _=>⟨uT,rfl⟩)
def qv9:af prog 308 G3:=conv qjo _ _ (λ_ _ x _ _ h=>⟨⟨λ_=>h,by (repeat' first|exact trivial|(refine⟨λ_=>?_,λ_=>?_⟩))⟩,rfl⟩)
section
open Go.Shelf Go.Lib
abbrev aJ:Ty:=.pair i64 (.pair i64 (.pair i64 (.pair i64 (.pair i64 (.pair .bool .unit)))))
def yB{x:aJ.den}(H:arr.size=aJ.size)(h:aA w F aJ x (λj u=>arr[j]?= U u)):
  arr = #[.int .i64 x.1,.int .i64 x.2.1,.int .i64 x.2.2.1,.int .i64 x.2.2.2.1,.int .i64 x.2.2.2.2.1,.bool x.2.2.2.2.2.1]:=by
 obtain⟨h0,i,m,q,t,C,_⟩:=h;refine uch λj=>?_
 match j with
 |0=>exact h0.1
 |1=>exact i.1
 |2=>exact m.1
 |3=>exact q.1
 |4=>exact t.1
 |5=>exact C
 |j+6=>
  rw[ua1 (by rw[H];show 6<=j+6;omega)];simp
def iv{x:aJ.den}(h0:inR .i64 x.1)(i:inR .i64 x.2.1)(m:inR .i64 x.2.2.1)(q:inR .i64 x.2.2.2.1)(t:inR .i64 x.2.2.2.2.1):
  aA w F aJ x (λj u=>[Value.int .i64 x.1,.int .i64 x.2.1,.int .i64 x.2.2.1,.int .i64 x.2.2.2.1,.int .i64 x.2.2.2.2.1,.bool x.2.2.2.2.2.1][j]?= U u):=
 ⟨⟨rfl,h0⟩,⟨rfl,i⟩,⟨rfl,m⟩,⟨rfl,q⟩,⟨rfl,t⟩,rfl,uT⟩
def oS{y:aa [i64]}(h:dM w F [i64] y vs):vs=[.int .i64 y.1]/\inR .i64 y.1:=by
 obtain⟨v,u,rfl,⟨_,hw,j⟩,m⟩:=h;subst m;obtain⟨i,q⟩:v.cells[0]?= U (Value.int .i64 y.1)/\inR .i64 y.1:=j;have t:v.cells = #[v]:=by
  cases v<;>first|rfl|(exact absurd (hw.2 ⟨_,rfl⟩) (by decide))
 rw[t]at i;cases i;exact⟨rfl,q⟩
def qD(hg:w.heap[b]?= U (.cells arr ty (0,0)))(k:Nat):w.cell? ⟨b,k,V⟩=arr[k]? := by
 simp[World.cell?,hg]
def xV(hg:w.heap[b]?= U (.cells arr ty (0,0)))(k:Nat):w.frozen? ⟨b,k,V⟩=false:=by
 simp[World.frozen?,hg]
def qmu:UpdOK prog 183 aJ [i64] (λx y=>(y.1,x.2.1,x.2.2.1,x.2.2.2.1,x.2.2.2.2.1,x.2.2.2.2.2.1,())):=by
 refine⟨enters_of func183 (by kernel_rfl) rfl,λw F b ety arr x y vs hg N Q u O=>?_⟩;obtain⟨rfl,t⟩:=oS O;have C:=yB N u;subst C
 go_enter func183,ntmps183
 have hc:=qD hg;have H:=xV hg;obtain⟨h0,i,j,m,q,P,_⟩:=u
 go_wp2_with (simp only[hc,H])
 first
  |exact⟨⟨_,rfl⟩,[.int .i64 y.1,.int .i64 x.2.1,.int .i64 x.2.2.1,.int .i64 x.2.2.2.1,.int .i64 x.2.2.2.2.1,.bool x.2.2.2.2.2.1],rfl,(uc1 w b 0 _ ety (0,0) _ hg).trans (by simp[wrap64,udd]),iv (x:=(y.1,x.2.1,x.2.2.1,x.2.2.2.1,x.2.2.2.2.1,x.2.2.2.2.2.1,())) (t) (i.2) (j.2) (m.2) (q.2)⟩
  |exact⟨.tuple #[],[.int .i64 y.1,.int .i64 x.2.1,.int .i64 x.2.2.1,.int .i64 x.2.2.2.1,.int .i64 x.2.2.2.2.1,.bool x.2.2.2.2.2.1],rfl,rfl,(uc1 w b 0 _ ety (0,0) _ hg).trans (by simp[wrap64,udd]),iv (x:=(y.1,x.2.1,x.2.2.1,x.2.2.2.1,x.2.2.2.2.1,x.2.2.2.2.2.1,())) (t) (i.2) (j.2) (m.2) (q.2)⟩
  |exact ue5 (v:=.tuple #[]) (uez rfl _ _ _) rfl ⟨⟨_,rfl⟩,[.int .i64 y.1,.int .i64 x.2.1,.int .i64 x.2.2.1,.int .i64 x.2.2.2.1,.int .i64 x.2.2.2.2.1,.bool x.2.2.2.2.2.1],rfl,(uc1 w b 0 _ ety (0,0) _ hg).trans (by simp[wrap64,udd]),iv (x:=(y.1,x.2.1,x.2.2.1,x.2.2.2.1,x.2.2.2.2.1,x.2.2.2.2.2.1,())) (t) (i.2) (j.2) (m.2) (q.2)⟩
def qwa:UpdOK prog 184 aJ [i64] (λx y=>(x.1,I6.wrap (x.2.1+y.1),x.2.2.1,x.2.2.2.1,x.2.2.2.2.1,x.2.2.2.2.2.1,())):=by
 refine⟨enters_of func184 (by kernel_rfl) rfl,λw F b ety arr x y vs hg C P q H=>?_⟩;obtain⟨rfl,Q⟩:=oS H;have t:=yB C q;subst t
 go_enter func184,ntmps184
 have hc:=qD hg;have u:=xV hg;obtain⟨h0,N,i,j,m,O,_⟩:=q
 go_wp2_with (simp only[hc,u])
 first
  |exact⟨⟨_,rfl⟩,[.int .i64 x.1,.int .i64 (I6.wrap (x.2.1+y.1)),.int .i64 x.2.2.1,.int .i64 x.2.2.2.1,.int .i64 x.2.2.2.2.1,.bool x.2.2.2.2.2.1],rfl,(uc1 w b 1 _ ety (0,0) _ hg).trans (by simp[wrap64,udd]),iv (x:=(x.1,I6.wrap (x.2.1+y.1),x.2.2.1,x.2.2.2.1,x.2.2.2.2.1,x.2.2.2.2.2.1,())) (h0.2) (gd .i64 _) (i.2) (j.2) (m.2)⟩
  |exact⟨.tuple #[],[.int .i64 x.1,.int .i64 (I6.wrap (x.2.1+y.1)),.int .i64 x.2.2.1,.int .i64 x.2.2.2.1,.int .i64 x.2.2.2.2.1,.bool x.2.2.2.2.2.1],rfl,rfl,(uc1 w b 1 _ ety (0,0) _ hg).trans (by simp[wrap64,udd]),iv (x:=(x.1,I6.wrap (x.2.1+y.1),x.2.2.1,x.2.2.2.1,x.2.2.2.2.1,x.2.2.2.2.2.1,())) (h0.2) (gd .i64 _) (i.2) (j.2) (m.2)⟩
  |exact ue5 (v:=.tuple #[]) (uez rfl _ _ _) rfl ⟨⟨_,rfl⟩,[.int .i64 x.1,.int .i64 (I6.wrap (x.2.1+y.1)),.int .i64 x.2.2.1,.int .i64 x.2.2.2.1,.int .i64 x.2.2.2.2.1,.bool x.2.2.2.2.2.1],rfl,(uc1 w b 1 _ ety (0,0) _ hg).trans (by simp[wrap64,udd]),iv (x:=(x.1,I6.wrap (x.2.1+y.1),x.2.2.1,x.2.2.2.1,x.2.2.2.2.1,x.2.2.2.2.2.1,())) (h0.2) (gd .i64 _) (i.2) (j.2) (m.2)⟩
def qw5:UpdOK prog 185 aJ [i64] (λx y=>(x.1,x.2.1,x.2.2.1,I6.wrap (x.2.2.2.1+y.1),x.2.2.2.2.1,x.2.2.2.2.2.1,())):=by
 refine⟨enters_of func185 (by kernel_rfl) rfl,λw F b ety arr x y vs hg C P q H=>?_⟩;obtain⟨rfl,Q⟩:=oS H;have t:=yB C q;subst t
 go_enter func185,ntmps185
 have hc:=qD hg;have u:=xV hg;obtain⟨h0,i,j,N,m,O,_⟩:=q
 go_wp2_with (simp only[hc,u])
 first
  |exact⟨⟨_,rfl⟩,[.int .i64 x.1,.int .i64 x.2.1,.int .i64 x.2.2.1,.int .i64 (I6.wrap (x.2.2.2.1+y.1)),.int .i64 x.2.2.2.2.1,.bool x.2.2.2.2.2.1],rfl,(uc1 w b 3 _ ety (0,0) _ hg).trans (by simp[wrap64,udd]),iv (x:=(x.1,x.2.1,x.2.2.1,I6.wrap (x.2.2.2.1+y.1),x.2.2.2.2.1,x.2.2.2.2.2.1,())) (h0.2) (i.2) (j.2) (gd .i64 _) (m.2)⟩
  |exact⟨.tuple #[],[.int .i64 x.1,.int .i64 x.2.1,.int .i64 x.2.2.1,.int .i64 (I6.wrap (x.2.2.2.1+y.1)),.int .i64 x.2.2.2.2.1,.bool x.2.2.2.2.2.1],rfl,rfl,(uc1 w b 3 _ ety (0,0) _ hg).trans (by simp[wrap64,udd]),iv (x:=(x.1,x.2.1,x.2.2.1,I6.wrap (x.2.2.2.1+y.1),x.2.2.2.2.1,x.2.2.2.2.2.1,())) (h0.2) (i.2) (j.2) (gd .i64 _) (m.2)⟩
  |exact ue5 (v:=.tuple #[]) (uez rfl _ _ _) rfl ⟨⟨_,rfl⟩,[.int .i64 x.1,.int .i64 x.2.1,.int .i64 x.2.2.1,.int .i64 (I6.wrap (x.2.2.2.1+y.1)),.int .i64 x.2.2.2.2.1,.bool x.2.2.2.2.2.1],rfl,(uc1 w b 3 _ ety (0,0) _ hg).trans (by simp[wrap64,udd]),iv (x:=(x.1,x.2.1,x.2.2.1,I6.wrap (x.2.2.2.1+y.1),x.2.2.2.2.1,x.2.2.2.2.2.1,())) (h0.2) (i.2) (j.2) (gd .i64 _) (m.2)⟩
def qdw:UpdOK prog 186 aJ [i64] (λx y=>(x.1,x.2.1,x.2.2.1,x.2.2.2.1,x.2.2.2.2.1,Y,())):=by
 refine⟨enters_of func186 (by kernel_rfl) rfl,λw F b ety arr x y vs hg H P t N=>?_⟩;obtain⟨rfl,Q⟩:=oS N;have u:=yB H t;subst u
 go_enter func186,ntmps186
 have hc:=qD hg;have C:=xV hg;obtain⟨h0,i,j,m,q,O,_⟩:=t
 go_wp2_with (simp only[hc,C])
 first
  |exact⟨⟨_,rfl⟩,[.int .i64 x.1,.int .i64 x.2.1,.int .i64 x.2.2.1,.int .i64 x.2.2.2.1,.int .i64 x.2.2.2.2.1,.bool Y],rfl,(uc1 w b 5 _ ety (0,0) _ hg).trans (by simp[wrap64,udd]),iv (x:=(x.1,x.2.1,x.2.2.1,x.2.2.2.1,x.2.2.2.2.1,Y,())) (h0.2) (i.2) (j.2) (m.2) (q.2)⟩
  |exact⟨.tuple #[],[.int .i64 x.1,.int .i64 x.2.1,.int .i64 x.2.2.1,.int .i64 x.2.2.2.1,.int .i64 x.2.2.2.2.1,.bool Y],rfl,rfl,(uc1 w b 5 _ ety (0,0) _ hg).trans (by simp[wrap64,udd]),iv (x:=(x.1,x.2.1,x.2.2.1,x.2.2.2.1,x.2.2.2.2.1,Y,())) (h0.2) (i.2) (j.2) (m.2) (q.2)⟩
  |exact ue5 (v:=.tuple #[]) (uez rfl _ _ _) rfl ⟨⟨_,rfl⟩,[.int .i64 x.1,.int .i64 x.2.1,.int .i64 x.2.2.1,.int .i64 x.2.2.2.1,.int .i64 x.2.2.2.2.1,.bool Y],rfl,(uc1 w b 5 _ ety (0,0) _ hg).trans (by simp[wrap64,udd]),iv (x:=(x.1,x.2.1,x.2.2.1,x.2.2.2.1,x.2.2.2.2.1,Y,())) (h0.2) (i.2) (j.2) (m.2) (q.2)⟩
def qw9:UpdOK prog 187 aJ [i64] (λx y=>(x.1,x.2.1,x.2.2.1,x.2.2.2.1,x.2.2.2.2.1,Z,())):=by
 refine⟨enters_of func187 (by kernel_rfl) rfl,λw F b ety arr x y vs hg H P t N=>?_⟩;obtain⟨rfl,Q⟩:=oS N;have u:=yB H t;subst u
 go_enter func187,ntmps187
 have hc:=qD hg;have C:=xV hg;obtain⟨h0,i,j,m,q,O,_⟩:=t
 go_wp2_with (simp only[hc,C])
 first
  |exact⟨⟨_,rfl⟩,[.int .i64 x.1,.int .i64 x.2.1,.int .i64 x.2.2.1,.int .i64 x.2.2.2.1,.int .i64 x.2.2.2.2.1,.bool Z],rfl,(uc1 w b 5 _ ety (0,0) _ hg).trans (by simp[wrap64,udd]),iv (x:=(x.1,x.2.1,x.2.2.1,x.2.2.2.1,x.2.2.2.2.1,Z,())) (h0.2) (i.2) (j.2) (m.2) (q.2)⟩
  |exact⟨.tuple #[],[.int .i64 x.1,.int .i64 x.2.1,.int .i64 x.2.2.1,.int .i64 x.2.2.2.1,.int .i64 x.2.2.2.2.1,.bool Z],rfl,rfl,(uc1 w b 5 _ ety (0,0) _ hg).trans (by simp[wrap64,udd]),iv (x:=(x.1,x.2.1,x.2.2.1,x.2.2.2.1,x.2.2.2.2.1,Z,())) (h0.2) (i.2) (j.2) (m.2) (q.2)⟩
  |exact ue5 (v:=.tuple #[]) (uez rfl _ _ _) rfl ⟨⟨_,rfl⟩,[.int .i64 x.1,.int .i64 x.2.1,.int .i64 x.2.2.1,.int .i64 x.2.2.2.1,.int .i64 x.2.2.2.2.1,.bool Z],rfl,(uc1 w b 5 _ ety (0,0) _ hg).trans (by simp[wrap64,udd]),iv (x:=(x.1,x.2.1,x.2.2.1,x.2.2.2.1,x.2.2.2.2.1,Z,())) (h0.2) (i.2) (j.2) (m.2) (q.2)⟩
def gp:List (Int×TypeId):=[(1,169),(2,171),(3,173),(4,174),(5,176),(6,178),(7,229)]
def uO(k:Int):Value:=match cD gp k with
 |some ty=>.iface ty (.agg #[])
 |none=>.nilIface
def IM{k:Int}(h:k<1\/k>7):cD gp k=none:=by
 have:gp.find? (λx=>x.1==k)=none:=by
  rw[List.find?_eq_none];intro x i;simp only[gp,uef,List.not_mem_nil,or_false]at i;rcases i with rfl|rfl|rfl|rfl|rfl|rfl|rfl<;>simp<;>omega
 unfold cD;rw[this];rfl
def yX{k:Int}(h:1<=k/\k<=7):k=1\/k=2\/k=3\/k=4\/k=5\/k=6\/k=7:=by omega
def qkz(k:Int)(R:Ending->World->Prop)(w:World)(hR:∀ o,R (.returned (uO k)) (w.alloc o)):Calls prog 64 #[.int .i64 k] w R:=by
 go_enter func64,ntmps64
 by_cases i:k<1
 ·have hz:uO k=.nilIface:=by unfold uO;rw[IM (.inl i)]
  rw[hz]at hR
  go_wp2
  exact hR _
 ·by_cases j:k>7
  ·have hz:uO k=.nilIface:=by unfold uO;rw[IM (.inr j)]
   rw[hz]at hR
   go_wp2
   exact hR _
  ·rcases yX (k:=k) (by omega)with rfl|rfl|rfl|rfl|rfl|rfl|rfl
   all_goals
    go_wp2
    exact hR _
def R2{es:List (Int×TypeId)}{t:Ty}{x:Int×t.den}(h:cD es x.1=U ty)(i:bu w F t x.2 u):bu w F (.ic es t) x (.iface ty u):=
 ⟨rfl,⟨λh=>(by cases h),λh=>(by obtain⟨_,h⟩:=h;cases h)⟩,.inl ⟨ty,u,h,rfl,i⟩⟩
def Tb{es:List (Int×TypeId)}{t:Ty}{x:Int×t.den}(h:cD es x.1=V):bu w F (.ic es t) x .nilIface:=
 ⟨rfl,⟨λh=>(by cases h),λh=>(by obtain⟨_,h⟩:=h;cases h)⟩,.inr ⟨h,rfl⟩⟩
def Ui{t:Ty}{y:t.den}{o:Obj}(hF:∀ b,F b->b<w.heap.size)(h:bu w F t y v):fJ w F [t] (y,()) (.returned v) (w.alloc o):=
 ⟨v,F,rfl,(uff _ w).alloc (ue6 _) _,λ_ h=>h,λb hb=>⟨.inl hb,by have:=hF b hb;simp;omega⟩,h.mono (λ_ h=>h) (λb hb=>uc9 _ _ _ (hF b hb))⟩
def Ry{k:Int}{u:Unit}(h:cJ prog w F [.d i64] (k,u) vs):vs=[.int .i64 k]/\inR .i64 k:=by
 obtain⟨v,i,rfl,j,m⟩:=h;exact oS (w:=w) (F:=F) (y:=(k,())) ⟨v,i,rfl,j,m⟩
def Gz:Ct:=⟨[.d i64],[.ic gp .unit],λx=>((x.1,()),()),λ_=>[]⟩
def qky:af prog 64 Gz:=by
 refine⟨enters_of func64 (by kernel_rfl) rfl,λw F xs vs i j _=>?_⟩;obtain⟨k,_⟩:=xs;obtain⟨rfl,_⟩:=Ry j;refine qkz k _ w λo=>Ui i ?_;unfold uO;split;rename_i ty h;exact R2 h ⟨rfl,⟨λ_=>⟨_,rfl⟩,λ_=>rfl⟩,uT⟩;rename_i h;exact Tb h
end
abbrev qn:Ty:=.pair (.fc V) (.pair (.fc (U 183)) (.pair (.fc (U 184)) (.pair (.fc (U 185)) (.pair (.fc (U 186)) (.pair (.fc (U 187)) .unit)))))
noncomputable def UI:List (FuncId×Row):=[(183,.upd aJ [i64] (λx y=>(y.1,x.2.1,x.2.2.1,x.2.2.2.1,x.2.2.2.2.1,x.2.2.2.2.2.1,()))),(184,.upd aJ [i64] (λx y=>(x.1,I6.wrap (x.2.1+y.1),x.2.2.1,x.2.2.2.1,x.2.2.2.2.1,x.2.2.2.2.2.1,()))),(185,.upd aJ [i64] (λx y=>(x.1,x.2.1,x.2.2.1,I6.wrap (x.2.2.2.1+y.1),x.2.2.2.2.1,x.2.2.2.2.2.1,()))),(186,.upd aJ [i64] (λx _=>(x.1,x.2.1,x.2.2.1,x.2.2.2.1,x.2.2.2.2.1,Y,()))),(187,.upd aJ [i64] (λx _=>(x.1,x.2.1,x.2.2.1,x.2.2.2.1,x.2.2.2.2.1,Z,())))]
noncomputable def XW:Cx:=l8 [(109,gV)] [] UI (λ_ _ _ _=>V)
def Mh:CxOK prog XW:=mI (cs:=[(109,gV)]) (ps:=[]) (rs:=UI) aG ⟨W7,uT⟩ trivial ⟨qmu,qwa,qw5,qdw,qw9,uT⟩ (λ_ _ _ _ _ h=>(nomatch h))
abbrev rT:Pt:=⟨28,0,⟨[(12,.d i64),(11,.d i64),(10,.d (.sl bn))],[.x 2 276 aJ,.r 2 2 0,.x 3 334 qn,.r 3 3 0,.x 4 276 aJ,.r 4 4 0]⟩,⟨[],[.x 2 276 aJ,.r 2 2 0,.x 4 276 aJ,.r 4 4 0]⟩,⟨[],[]⟩⟩
abbrev zi:Type:=ag []×cR [.x 2 276 aJ,.r 2 2 0,.x 3 334 qn,.r 3 3 0,.x 4 276 aJ,.r 4 4 0]
def mq(e:bn.den)(s:zi):Fr zi:=
 let d:=((),(),(),(),(),(),());let c:=s.2.2.2.1;let a:=c.2;let b:=a.2.2;Jb (gV.f (e.2.1,1,5,())).1 (Jd (0<=e.2.1/\e.2.1<(6:Int)) (Jd ((List.find? (λi=>i.1==e.2.1) (ji 0 (List.take 6 (List.drop 0 (List.drop 0 (enc qn s.2.2.1)))))).isSome=Z) (Jd (e.2.1≠0+1->av [e.2.1≠0+1+1->av [e.2.1≠0+1+1+1->av [e.2.1≠0+1+1+1+1->av [e.2.1=0+1+1+1+1+1]]]]) (Jv ((),s.2.1,d,(bif e.2.1==0+1 then (e.2.2.1,a.1,a.2.1,b.1,b.2.1,b.2.2.1,())else bif e.2.1==0+1+1 then (c.1,I6.wrap (a.1+e.2.2.1),a.2.1,b.1,b.2.1,b.2.2.1,())else bif e.2.1==0+1+1+1 then (c.1,a.1,a.2.1,I6.wrap (b.1+e.2.2.1),b.2.1,b.2.2.1,())else bif e.2.1==0+1+1+1+1 then (c.1,a.1,a.2.1,b.1,b.2.1,Y,())else (c.1,a.1,a.2.1,b.1,b.2.1,Z,())),()))))) (Jv ((),s.2.1,d,c,()))
def pX(x:rT.M.X):Int×List bn.den×zi:=(x.1.1,x.1.2.2.1,x.1.2.2.2,x.2)
def Rl(x:rT.M.X):Prop:=x.1.2.1=(x.1.2.2.1.length:Int)
def TG(s:zi):rT.E.X:=((),s.2.1,s.2.2.2.1,())
def qs5:ae prog (.loop (au f135 0)) rT.M rT (FF mq pX Rl TG):=
 LF Mh (λ_ _=>.n .o) bn.dflt (λx=>x.1.2.1) (λx s=>((I6.wrap (x.1.1+1),x.1.2.1,x.1.2.2.1,s.1),s.2)) (λ_ h=>h)
def qxk(y:rT.M.X):zi:=kJ mq ((pX y).2.1.drop (pX y).1.toNat) (pX y).2.2
def qu4(y:rT.M.X):Prop:=pg mq ((pX y).2.1.drop (pX y).1.toNat) (pX y).2.2
def qka(x:ag [.d ar]):Fr (aa [aJ]):=
 let a:=((0,((List.length x.1.2.1):Int),x.1.2.1,()),(0,0,0,0,0,Y,()),((),(),(),(),(),(),()),(0,0,0,0,0,Z,()),());Jd (InL (Rl a) (pX a)) (Jd (qu4 a) (Jv ((TG (qxk a)).2.2.1,())))
def qkb:af prog 135 (bg [.d ar] [aJ] qka):=
 cS Mh qs5
def m8(p:aJ.den)(a:bn.den):aJ.den:=
 bif qc a.2.1 1 5 then (bif a.2.1==1 then (a.2.2.1,p.2)else bif a.2.1==2 then (p.1,I6.wrap (p.2.1+a.2.2.1),p.2.2)else bif a.2.1==3 then (p.1,p.2.1,p.2.2.1,I6.wrap (p.2.2.2.1+a.2.2.1),p.2.2.2.2)
  else bif a.2.1==4 then (p.1,p.2.1,p.2.2.1,p.2.2.2.1,p.2.2.2.2.1,Y,())else (p.1,p.2.1,p.2.2.1,p.2.2.2.1,p.2.2.2.2.1,Z,()))else p
def nD(g:ar.den):aJ.den:=g.2.1.foldl m8 (0,0,0,0,0,Z,())
def qva{k:Int}(h:1<=k/\k<=5):k=1\/k=2\/k=3\/k=4\/k=5:=by omega
def KW(e:bn.den)(q p:aJ.den)(u:qn.den):(mq e ((),q,u,p,())).ok/\(mq e ((),q,u,p,())).get=((),q,u,m8 p e,()):=by
 obtain⟨b,k,m,_⟩:=e;cases hw:qc k 1 5;have j:m8 p (b,k,m,())=p:=by unfold m8;rw[show qc (b,k,m,()).2.1 1 5=Y from hw];rfl
 rw[j];exact aR hw ⟨uT,rfl⟩;have i:=zc9.1 hw;have t:=qva i;have j:∀ z,(m8 p (b,k,m,())=z)=((bif k==1 then (m,p.2)else bif k==2 then (p.1,I6.wrap (p.2.1+m),p.2.2)else bif k==3 then (p.1,p.2.1,p.2.2.1,I6.wrap (p.2.2.2.1+m),p.2.2.2.2)
 else bif k==4 then (p.1,p.2.1,p.2.2.1,p.2.2.2.1,p.2.2.2.2.1,Y,())else (p.1,p.2.1,p.2.2.1,p.2.2.2.1,p.2.2.2.2.1,Z,()):aJ.den)=z):=λz=>by
  unfold m8;rw[show qc (b,k,m,()).2.1 1 5=Z from hw];rfl
 refine aZ hw ?_;rcases t with rfl|rfl|rfl|rfl|rfl <;>
  exact aF (by first|exact(by decide:(0:Int)<=1/\(1:Int)<6)|exact(by decide:(0:Int)<=2/\(2:Int)<6)|exact(by decide:(0:Int)<=3/\(3:Int)<6)|exact(by decide:(0:Int)<=4/\(4:Int)<6)|exact(by decide:(0:Int)<=5/\(5:Int)<6)) (aF (by kernel_rfl) (aF (by simp[av]) ⟨uT,by rw[ued];exact⟨rfl,by rw[eq_comm] ; rfl⟩⟩))
def Vv(q:aJ.den)(u:qn.den):(l:List bn.den)->(p:aJ.den)->kJ mq l ((),q,u,p,())=((),q,u,l.foldl m8 p,())
 |[],_=>rfl
 |e::l,p=>by
  show kJ mq l (mq e ((),q,u,p,())).get=_;rw[(KW e q p u).2];exact Vv q u l (m8 p e)
def Vx(q:aJ.den)(u:qn.den):(l:List bn.den)->(p:aJ.den)->pg mq l ((),q,u,p,())
 |[],_=>trivial
 |e::l,p=>⟨(KW e q p u).1,by
  rw[(KW e q p u).2];exact Vx q u l (m8 p e)⟩
def qkq{g:ar.den}(h:bu w F ar g v):((List.length (α:=bn.den) g.2.1:Nat):Int)<=9223372036854775807:=by
 have i:List.length g.2.1<=maxLen:=(aA.wf h.2.2).2.1.1;unfold maxLen at i;omega
def ly:Ct:=⟨[.d ar],[aJ],λx=>(nD x.1,()),λ_=>[]⟩
abbrev Ph:aJ.den:=(0,0,0,0,0,Y,())
abbrev Wn:qn.den:=((),(),(),(),(),(),())
def Vw:af prog 135 ly:=
 conv qkb _ _ (λw F x vs j _=>by
  obtain⟨g,_⟩:=x;obtain⟨v,q,rfl,m,_⟩:=j;have i:=qkq m;refine aF ⟨rfl,ue7 _,ub3 _,i⟩ (aF ?_ ⟨uT,?_⟩);exact Vx Ph Wn (List.drop 0 g.2.1) _;show((kJ mq (List.drop 0 g.2.1) ((),Ph,Wn,(0,0,0,0,0,Z,()),())).2.2.2.1,())=(nD g,());rw[uec,Vv];rfl)
section
open Go.Shelf Go.Lib
def qnr:(prog.info? 42).map (λi=>(i.zero,i.size,i.bytes))=U (U (.agg #[.int .i64 0,.int .i64 0,.int .i64 0]),3,24):=by kernel_rfl
def qdq:CloneOK prog 239 42 bn 24:=by
 refine⟨enters_of func239 (by kernel_rfl) rfl,λw n c A xs hnc hA t Q C F H=>?_⟩;obtain⟨i0,N,S,W,hz2⟩:=ufi qnr;have i:∀ (A:Option Addr) (n c:Nat),(binOp .eql 148 (.slice A n c) (.slice V 0 0)).run prog w=.ok (.bool A.isNone) w:=λA n c=>by
  have C:binOp .eql 148 (.slice A n c) (.slice V 0 0)=(do pure (.bool (<- Op.equal 148 (.slice A n c) (.slice V 0 0)))):=rfl;have h2:Op.equal 148 (.slice A n c) (.slice V 0 0)=Op.equalIn (9999+1) 148 (.slice A n c) (.slice V 0 0):=rfl;rw[C,h2];simp[JJ underlying148]
 go_enter func239,ntmps239
 cases A with
 |none=>
  have h0:=hA rfl;subst h0;have hx:xs=[]:=uab (by simpa using t);subst hx
  go_wp2_with (simp only[i])
  go_ret
  exact⟨_,rfl,⟨rfl,rfl,rfl,ue6 _,λ_ _ _=>rfl⟩,ucr _ _ _ _⟩
 |some ad=>
  have hW:(w.alloc (.cells #[] 42)).ownsRow w.heap.size 42 3 (.slice (U ⟨w.heap.size,0,V⟩) 0 0) 0 []:=World.ownsRow_lit w #[] 0 (ue6 _) (by unfold maxLen;omega) rfl;have m:∀ (j:Nat) u,xs[j]?= U u->(w.alloc (.cells #[] 42)).cell? (ad.add j)=U u:=λj u hj=>by
   have h:=Q ad rfl j u hj;have hb:=block_lt_of_cell h;rw[ubc (nY w _ _ hb)];exact h
  obtain⟨v',w',hr,e2,q,e4⟩:=qr (P:=prog) (w:=w.alloc (.cells #[] 42)) (B:=w.heap.size) 148 148 42 i0 _ 3 underlying148 N S W rfl (by decide) _ 0 [] hW (U ad) n c xs (λh=>by cases h) t (λad' e=>by cases e;exact m) C (by rw[ueu];exact F) (by rw[hz2,ueu];exact H) (by simp);have O:∀ ty,(Builtin.append_ #[148,148] ty #[.slice (U ⟨w.heap.size,0,V⟩) 0 0,.slice (U ad) n c]).run prog (w.alloc (.cells #[] 42))=.ok v' w':=λty=>hr;clear hr
  go_wp2_with (first|(simp only[i];done)|simp only[i]|(at_builtin;refine Lib.wpList_append_run _ rfl _ _ _ _ rfl _ _ rfl rfl _ _ (O _) ?_))
  go_ret
  rw[ueu,udj]at e2;refine⟨v',rfl,⟨q.os,q.tape,q.output,uel (by simp) q.size,λk hk _=>(q.block k (by simp;omega) (λe=>?_)).trans (nY w _ k hk)⟩,e2⟩;have:k=w.heap.size:=by simpa[Value.ownBlock]using e
  omega
end
noncomputable def XX:Cx:=l8 [(135,ly),(69,tk),(238,A8)] [] [(239,.clone 42 bn 24)] (λ_ _ _ _=>V)
def XY:CxOK prog XX:=mI (cs:=[(135,ly),(69,tk),(238,A8)]) (ps:=[]) (rs:=[(239,.clone 42 bn 24)]) aG ⟨Vw,Oy,qpg,uT⟩ trivial ⟨qdq,uT⟩ (λ_ _ _ _ _ h=>(nomatch h))
def HM(x:ag [.d ar,.d bn]):Fr (aa [ar,i64]):=
 let h:=ly.f (x.1,());let c:=x.1.2.1;let g:=((x.1.1,c++[x.2.1],()),0,());let b:=((0,0,0,0,0,0,()),[],());let a:=bif x.2.1.2.1==2 then J (x.2.1.2.2.1>I6.wrap (1000000000000000-h.1.2.1))else Y;Jb (!(tk.f (x.2.1,())).1) (Jv (b,1,())) (Jb (J (((List.length c):Int)>=2000)) (Jv (b,2,())) (Jb (J (x.2.1.1<(A8.f (x.1,())).1)) (Jv (b,4,())) (Jb (h.1.2.2.2.2.2.1==(x.2.1.2.1==5)) (Jv (b,10,())) (Jb a (Jb a (Jv (b,5,())) (Jd (List.length c<=maxLen) (Jd (List.length c*24<=140737488355328) (Jd (List.length c + [x.2.1].length<=maxLen/\(List.length c + [x.2.1].length)*24<=140737488355328) (Jv g))))) (Jb (bif x.2.1.2.1==3 then J (x.2.1.2.2.1>I6.wrap (1000000000000000-h.1.2.2.2.1))else Y) (Jv (b,5,())) (Jd (List.length c<=maxLen) (Jd (List.length c*24<=140737488355328) (Jd (List.length c + [x.2.1].length<=maxLen/\(List.length c + [x.2.1].length)*24<=140737488355328) (Jv g)))))))))
def qit:af prog 229 (bg [.d ar,.d bn] [ar,i64] HM):=
 aS XY f229
abbrev xX:ar.den:=((0,0,0,0,0,0,()),[],())
def G2(g:ar.den)(a:bn.den):Bool:=
 (bif a.2.1==2 then J (a.2.2.1>I6.wrap (1000000000000000-(nD g).2.1))else Y) || (bif a.2.1==3 then J (a.2.2.1>I6.wrap (1000000000000000-(nD g).2.2.2.1))else Y)
def o8(g:ar.den)(a:bn.den):ar.den×Int:=
 bif !(qz a)then (xX,1)else bif J (((List.length (α:=bn.den) g.2.1:Nat):Int)>=2000)then (xX,2)else bif J (a.1<uz g)then (xX,4)
  else bif (nD g).2.2.2.2.2.1==(a.2.1==5)then (xX,10)else bif G2 g a then (xX,5)else ((g.1,g.2.1++[a],()),0)
def qu:Ct:=⟨[.d ar,.d bn],[ar,i64],λx=>((o8 x.1 x.2.1).1,(o8 x.1 x.2.1).2,()),λ_=>[]⟩
def qen(g:ar.den)(a:bn.den):(HM (g,a,())).ok/\(HM (g,a,())).get=((o8 g a).1,(o8 g a).2,()):=by
 unfold o8;cases j:qz a;exact aZ (by show(!(qz a))=Z;rw[j];rfl) ⟨uT,rfl⟩;refine aR (by show(!(qz a))=Y;rw[j];rfl) ?_;cases u:J (((List.length g.2.1:Nat):Int)>=2000)
 rotate_left
 exact aZ rfl ⟨uT,rfl⟩;refine aR rfl ?_;have H:List.length g.2.1<2000:=by have:=ucg u;omega
 have w:List.length g.2.1<=maxLen:=by unfold maxLen;omega
 have C:List.length g.2.1*24<=140737488355328:=by omega
 have F:List.length g.2.1 + [a].length<=maxLen/\(List.length (α:=bn.den) g.2.1 + [a].length)*24<=140737488355328:=by
  rw[ua7];exact⟨by unfold maxLen;omega,by omega⟩
 cases m:J (a.1<uz g)
 rotate_left
 exact aZ m ⟨uT,rfl⟩;refine aR m ?_;cases q:(nD g).2.2.2.2.2.1==(a.2.1==5)
 rotate_left
 exact aZ q ⟨uT,rfl⟩;refine aR q ?_;unfold G2;cases i:(bif a.2.1==2 then J (a.2.2.1>I6.wrap (1000000000000000-(nD g).2.1))else Y)
 rotate_left
 exact aZ i (aZ (by first|rfl|exact i) ⟨uT,rfl⟩);refine aR i ?_;cases t:(bif a.2.1==3 then J (a.2.2.1>I6.wrap (1000000000000000-(nD g).2.2.2.1))else Y)
 rotate_left
 exact aZ t ⟨uT,rfl⟩;exact aR t (aF w (aF C (aF F ⟨uT,rfl⟩)))
def OT:af prog 229 qu:=conv qit _ _ (λ_ _ x _ _ _=>qen x.1 x.2.1)
def X0:dm.den:=((1,101,()),(0,36500,0,0,()),[(1,1000,1000,0,10000,())],())
def bY.filter{key:α->Int}{l:List α}(h:bY key l)(p:α->Bool):bY key (l.filter p):=List.Pairwise.sublist List.filter_sublist h
def Good.all{p:List Int×List Int}{m:Int}(h:Good p m):∀ x∈p.1,x<=m:=by
 intro x q;have u:=(K1 h.up h.len).1;have t:=h.le;have i:p.1 ≠ []:=List.ne_nil_of_mem q;rw[List.getLast?_eq_some_getLast i]at t;have j:p.1.getLast i<=m:=t;have w:p.1=p.1.dropLast++[p.1.getLast i]:=(List.dropLast_concat_getLast i).symm;rw[w]at q u;rcases udp.1 q with q|q
 have:=(ubo.1 u).2.2 x q _ (uce.2 rfl);exact ueq (Int.lt_of_lt_of_le this j);rw[uce.1 q];exact j
def qhn{h:aC.den}{t:b8.den}(i:mW h t=Z):bL h/\bJ t:=by
 unfold mW at i;simp only[uda,uct,uc6]at i;obtain⟨⟨u,w,C⟩,j,m⟩:=i;refine⟨⟨by show h.2.2.2.1.length<=500000;omega,by omega,λc hc=>?_⟩,by omega,λv q=>?_⟩;have:c.2.2.2.2.1.length<=50:=ucw (j c hc);omega;have:=m v q;unfold tV at this;simp only[uda,uct]at this;exact⟨by omega,by omega,by omega⟩
def Fm(h:aC.den)(c:az.den):aC.den:=(h.1,h.2.1,h.2.2.1,([]++h.2.2.2.1)++[c],())
def D3(n m:Nat):Prop:=n+m<=maxLen/\(n+m)*prog.types[38].bytes<=140737488355328
def OF:prog.types[38].bytes<=1000:=by decide
def fh.mem{q:Int->sD}{b:Int}:{a:Int} -> {l:List aB.den}->fh q b a l->∀ s∈l,a<=s.1.1/\s.1.1<s.1.2.1/\s.1.2.1<=b/\∀ d,s.1.1<=d->d<s.1.2.1->kp s=q d
 |_,[],_,_,i=>by cases i
 |a,t::l,h,s,i=>by
  obtain⟨u,j,H,w,N,m⟩:=h;rcases uef.1 i with rfl|i
  rw[u];exact⟨ue7 _,j,m.le,w⟩;obtain⟨C,F⟩:=fh.mem m s i;exact⟨ue0 (ueq j) C,F⟩
noncomputable def X6:Cx:=cx [(71,mB ak)] []
def X7:CxOK prog X6:=aP aG ⟨Bc,uT⟩ trivial
def AA:Ct:=⟨[.d dm],[dm],λx=>(x.1,()),λx=>[x.1.2.2.1.length<=1000000]⟩
def TL:af prog 271 AA:=
 cQ (aS X7 f271 (fr:=λx=>Jd (x.1.2.2.1.length<=1000000) (Jv (x.1,()))) (ps:=[.d dm])) _ _
  (λ_ _ _ _ _ i=>aF i ⟨uT,rfl⟩)
def fF:aC.den:=(0,0,((0,0,()),(0,0,0,0,()),[],()),[],())
def uy(h:aC.den):Int:=if (aL h).length=0 then h.2.1 else ((aL h).getD ((aL h).length-1) az.dflt).1
def py(h:aC.den)(c:az.den):aC.den×Int:=
 if gl c=Z/\gr h.2.2.1.1.1 h.2.2.1.1.2.1 c.2.1=Z then
  (if c.1<uy h then (fF,4)else if 2000<=(aL h).length then (fF,2)else (Fm h c,0))
 else (fF,1)
def Ox:Ct:=⟨[.d aC,.d az],[aC,i64],λx=>((py x.1 x.2.1).1,(py x.1 x.2.1).2,()),λx=>[bL x.1]⟩
noncomputable def X8:Cx:=cx [(71,mB ak),(67,ou),(140,fM),(271,AA)] []
def X9:CxOK prog X8:=aP aG ⟨Bc,GW,oT,TL,uT⟩ trivial
def BW(h:aC.den)(c:az.den)(last:Int):Fr (aa [aC,i64]):=
 let b:=(none:Option Int);let d:=List.drop (b.getD 0).toNat (aL h);let a:=((aL h).length:Int);Jb (bif !(ou.f (c,())).1 then Z else !(fM.f (h.2.2.1.1,c.2.1,())).1) (Jv (fF,1,()))
  (Jb (J (c.1<last)) (Jv (fF,4,()))
   (Jb (J (a>=2000)) (Jv (fF,2,()))
    (Jd (c.2.2.2.2.1.length<=1000000) (Jd (h.2.2.1.2.2.1.length<=1000000)
     (Jd (0<=b.getD 0/\b.getD 0<=a/\a<=a/\a=a)
      (Jd (0 < [c].length/\D3 (List.take (a-b.getD 0).toNat d).length [c].length)
       (Jv ((h.1,h.2.1,h.2.2.1,List.take (a-b.getD 0).toNat d++[c],()),0,()))))))))
def qld(x:ag [.d aC,.d az]):Fr (aa [aC,i64]):=
 let a:=((aL x.1).length:Int);Jb (J (a>0))
  (Jd (0<=I6.wrap (a-1)/\I6.wrap (a-1)<a)
   (BW x.1 x.2.1 (List.getD (aL x.1) (I6.wrap (a-1)).toNat az.dflt).1))
  (BW x.1 x.2.1 x.1.2.1)
def qwv:af prog 281 (bg [.d aC,.d az] [aC,i64] qld):=
 aS X9 f281
def qxw(i:n<=2000):D3 n 1:=by
 refine⟨by unfold maxLen;omega,uel (ueb (show n+1<=2001 by omega) OF) (by decide)⟩
def NT{a b:Bool}:(bif !a then Z else !b)=Y↔a=Z/\b=true:=by
 cases a<;>cases b<;>simp
def zbo(l:List az.den):List.take ((l.length:Int)-(none:Option Int).getD 0).toNat (List.drop ((none:Option Int).getD 0).toNat l)=l:=by
 show List.take ((l.length:Int)-0).toNat l=l;rw[ueo,ucz,List.take_length]
def oe{a b:Bool}(h:(bif a then b else Y)=Z):a=Z/\b=true:=by
 cases a with
 |false=>cases h
 |true=>exact⟨rfl,h⟩
def Jt(h:((n:Int)==0)=Z):n<=1000000:=by
 have:(n:Int)=0:=eq_of_beq h;omega
def OE{c:az.den}(h:gl c=Z):c.2.2.2.2.1.length<=1000000:=by
 unfold gl Jp at h;rw[uda,uda]at h;have i:=h.2.2;split at i;exact Jt (oe (oe i).1).2;split at i;have hc:l7 c.2.2.2.2.1=true:=(oe (oe i).1).1;unfold l7 at hc;rw[uda]at hc;have:=ucw hc.1;exact uel this.2 (by decide);split at i;exact Jt (oe (oe i).1).2;split at i;exact Jt (oe (oe i).1).2;cases i
def Q8{h:aC.den}{c:az.den}{last:Int}(w:last=uy h)(t:bL h):
  (BW h c last).ok/\(BW h c last).get=((py h c).1,(py h c).2,()):=by
 subst w;unfold py;cases m:(bif !(ou.f (c,())).1 then Z else !(fM.f (h.2.2.1.1,c.2.1,())).1)with
 |true=>
  refine aZ m ⟨uT,?_⟩;have i:¬ (gl c=Z/\gr h.2.2.1.1.1 h.2.2.1.1.2.1 c.2.1=Z):=λu=>by
   have j:(bif !gl c then Z else !gr h.2.2.1.1.1 h.2.2.1.1.2.1 c.2.1)=true:=m;rw[NT.2 u]at j;cases j
  rw[if_neg i];rfl
 |false=>
  refine aR m ?_;have i:gl c=Z/\gr h.2.2.1.1.1 h.2.2.1.1.2.1 c.2.1=true:=NT.1 m;rw[if_pos i];by_cases j:c.1<uy h;rw[if_pos j];exact aZ (ud7 j) ⟨uT,rfl⟩;rw[if_neg j];refine aR (uds j) ?_;by_cases q:2000<=(aL h).length;rw[if_pos q];exact aZ (ud7 (by omega)) ⟨uT,rfl⟩;rw[if_neg q];refine aR (uds (by omega)) (aF (OE i.1) (aF t.2.1 (aF ⟨ue7 _,ub3 _,ue7 _,rfl⟩ ?_)));rw[zbo];have C:=qxw (n:=(aL h).length) (by omega);refine aF ⟨udr,C⟩ ⟨uT,?_⟩;rfl
def qwu:af prog 281 Ox:=
 cQ qwv _ _ (λw F x vs q i=>by
  obtain⟨h,c,_⟩:=x;obtain⟨v,u,rfl,t,_⟩:=q;have m:((aL h).length:Int)<=9223372036854775807:=uB (aA.wf t.2.2).2.2.2.1.1;have j:=i;by_cases h0:(aL h).length=0;refine aR (uds (by show ¬ ((aL h).length:Int)>0;omega)) (Q8 ?_ j);unfold uy;rw[if_pos h0];have hw:I6.wrap (((aL h).length:Int)-1)=((aL h).length:Int)-1:=cz (by omega);refine aZ (ud7 (by show((aL h).length:Int)>0;omega)) (aF ?_ (Q8 ?_ j));show 0<=I6.wrap (((aL h).length:Int)-1)/\I6.wrap (((aL h).length:Int)-1)<((aL h).length:Int);omega;show(List.getD (aL h) (I6.wrap (((aL h).length:Int)-1)).toNat az.dflt).1=uy h;unfold uy;rw[if_neg h0,hw,show(((aL h).length:Int)-1).toNat=(aL h).length-1 by omega])
section
open Go.Shelf
attribute [local go_sem] Oper.semAt_some
def qm2(w:World)(m:Nat)(z:Array Value)(hz:z.size=9)(j:m<=maxLen)(e:TypeId):
  w.grownBy ((w.alloc (.cells (Builtin.zeroCells z m++Builtin.zeroCells z (grownCap w m 0 e-m)) e)).drew) V /\
   ((w.alloc (.cells (Builtin.zeroCells z m++Builtin.zeroCells z (grownCap w m 0 e-m)) e)).drew).ownsRow w.heap.size e 9 (.slice (U ⟨w.heap.size,0,V⟩) 0 (grownCap w m 0 e)) 0 []:=by
 have q:=grownCap_ge w m 0 e;have i:grownCap w m 0 e<=maxLen:=ub6 w m 0 e j;refine⟨⟨rfl,rfl,rfl,by simp,λb hb _=>nY w.drew _ b hb⟩,rfl,.inr ⟨w.heap.size,_,_,rfl,ue6 _,ud4 w.drew _,ufc _,i,?_,?_⟩⟩;simp only[uco,size_zeroCells,hz,<- ue8];congr 1;omega;rfl
def qmx:prog.types[38].bytes=88:=by decide
def zaa(m:Nat)(h:0<m):Builtin.nextslicecap m 0=m:=by
 unfold Builtin.nextslicecap;rw[if_pos (by omega)]
def qm0(n:Nat)(m:Nat)(i:m<=maxLen)(q:m*88<=140737488355328)(w:World):
  CallsIn Fence.wide n prog 153 #[.slice V 0 0,.int .i64 m] w λe w'=>
   ∃ v,e=.returned v/\w.grownBy w' V/\w'.ownsRow w.heap.size 38 9 v 0 []:=by
 have hb:t38.bytes=88:=qmx;refine callsIn_of_wp func153 rfl trivial ?_ rfl;simp only[ntmps153,ucp,uc7,udi,Nat.reduceAdd,Nat.reduceSub,ubm,ubn,ucx,ubw,udj,uc2]
 gi_wp2
 all_goals first
  |(exfalso;simp only[hb]at *;omega)
  |(exfalso;rename_i j _ _ _ _ _ ; rw[zaa _ (by omega),hb]at *;omega)
  |(go_ret;exact⟨_,rfl,ub7 _ _,ucr _ _ _ _⟩)
  |(go_ret;exact⟨_,rfl,qm2 w m _ rfl i _⟩)
def qmy:GrowOK prog 153 38 az 88:=
 ⟨enters (fn:=f153) (by kernel_rfl) rfl rfl,λw n i j=>(callsIn_wide.1 (qm0 1 n i j w))⟩
end
end Go.Proofs.YtdokapnnagbehaaGreat
