/-
  Parts of the proof, one behind the other: I2, I3, I4, I5, I6, I7, I8, H2, H3, H4, H5, H6, H7, H8, H9, I9, I10, I11, H10, H11, H12, I28, H13, H14, H15, H16, H17, H18, I14, I16, H19, H20.
-/
import Derived.Test.YtgieagiaagoogaaGreatMd
set_option linter.all false
namespace Go.Proofs.YtgieagiaagoogaaGreat
open Go Go.Ab Go.RowKit Go.Proofs Tryz
open Go.Ab.Fr renaming val->Jv,need->Jd,br->Jb
abbrev md:Pt:=⟨53,0,⟨[(1,.d i64),(2,.d i64),(3,be),(8,.d i64)],[.al 10000 0,.o 0 3 i64]⟩,⟨[],[.al 10000 0,.o 0 3 i64]⟩,⟨[],[]⟩⟩
noncomputable def WD:Nat->St->Option Tr:=λ_=>mc.han o5.Γ mc.M Gg
def Jm (x:md.M.X):Fr md.Out:=
 let a:=x.1.1; let b:=x.1.2.1; let g:=x.1.2.2.1; let i:=x.1.2.2.2.1; let l:=x.2.1
 Jb (decide (i<b))
  (Jd (InvInsI a i (g.1,g.2) l) (Jv (Rd.next ((a,b,(g.1,g.2),I6.wrap (i+1),()),(fT (aO (g.1,g.2)) 0 a.toNat i.toNat l,())))))
  (Jv (Rd.out ((),(l,()))))
def qpw {E:Env}:cH prog E WD (aC f202 0) 0:=
 Kd (b:=JV) (by kernel_rfl) (by kernel_rfl) (ah.han eI rfl qrz)
def zbi:ah prog (aC f202 0) md.M md Jm:=
 ah.of_run eI (bs:=0) (Λ:=WD) rfl rfl rfl (λE=>qpw) (λx=>by kernel_rfl)
def Sa {lt:Int->Int->Bool} {a:Nat}:(j:Nat) -> {l:List Int}->j<l.length->∀ x∈fT lt 0 a j l,x∈l
 |0,_,_,_,h=>h
 |j+1,l,hj,x,h=>by
  simp only[fT] at h;split at h
  ·cases hc:lt (l.getD (j+1) 0) (l.getD j 0) with
   |true=>
    rw[hc] at h;exact V0 hj (by omega) (Sa j (by rw[lm]; omega) x h)
   |false=>
    rw[hc] at h;exact h
  ·exact h
def JW {lt:Int->Int->Bool} {a:Nat}:(j:Nat) -> {l:List Int}->(fT lt 0 a j l).length=l.length
 |0,_=>rfl
 |j+1,l=>by
  simp only[fT];split
  ·cases lt (l.getD (j+1) 0) (l.getD j 0) with
   |true=>rw[ufr,JW j,lm]
   |false=>rfl
  ·rfl
structure InvInsO (a b i:Int) (g:be.den) (l:List Int):Prop where
 a0:0<=a
 ai:a<i
 bl:b<=l.length
 il:i<=9223372036854775807
 big:(l.length:Int)<=9223372036854775807
 dom:ku g l
def Gh (x:md.M.X):Fr md.Out:=
 Jd (InvInsO x.1.1 x.1.2.1 x.1.2.2.2.1 x.1.2.2.1 x.2.1) (Jv (Rd.out ((),(lO (aO x.1.2.2.1) 0 x.1.1.toNat (x.1.2.1-x.1.2.2.2.1).toNat x.1.2.2.2.1.toNat x.2.1,()))))
def qqj (a b i:Int) (g:be.den) (l:List Int) (hinv:InvInsO a b i g l) (Q:md.Out->Prop)
  (hq:Q (Rd.out ((),(lO (aO g) 0 a.toNat (b-i).toNat i.toNat l,())))):(Jm ((a,b,g,i,()),(l,()))).satP λ
   |.next x'=>InvInsO x'.1.1 x'.1.2.1 x'.1.2.2.2.1 x'.1.2.2.1 x'.2.1/\(x'.1.2.1-x'.1.2.2.2.1).toNat<(b-i).toNat/\(Gh x').satP Q
   |.out y=>Q (.out y)
   |.back z=>Q (.back z)
   |.pan p=>Q (.pan p):=by
 obtain⟨h0,h1,h2,h3,h4,h5⟩:=hinv;dsimp only[Jm,Fr.satP,Ty.den,PT.den];refine⟨λhi=>?_,λhi=>?_⟩
 ·have hlt:=ucv hi;have hw:I6.wrap (i+1)=i+1:=IntWalk.i64_in _ (by omega);have hI:InvInsO a b (i+1) g (fT (aO g) 0 a.toNat i.toNat l):=⟨h0,by omega,by rw[JW]; exact h2,by omega,by rw[JW]; exact h4,h5.sub λx hx=>Sa _ (by omega) x hx⟩;refine⟨⟨h0,by omega,by omega,h4,h5⟩,?_⟩;rw[hw];refine⟨hI,by omega,hI,?_⟩;have e1:(b-i).toNat=(b-(i+1)).toNat+1:=by omega
  have e2:(i+1).toNat=i.toNat+1:=by omega
  rw[e1] at hq;rw[e2];exact hq
 ·have hge:=ucf hi;have e1:(b-i).toNat=0:=by omega
  rw[e1] at hq;exact hq
def qr0:ah prog (.loop (aC f202 0)) md.M md Gh:=by
 refine ah.loop zbi (μ:=λx=>(x.1.2.1-x.1.2.2.2.1).toNat) ?_ (λx Q h=>h.1);rintro⟨⟨a,b,g,i,_⟩,⟨l,_⟩⟩ hinv Q hq;exact qqj a b i g l hinv Q hq.2
noncomputable def zfw:Nat->St->Option Tr:=λ_=>md.han o5.Γ md.M Gh
def jI (g:be.den) (l:List Int):Prop:=ku g l/\∃ key:Int->Int,cy (aO g) key l
def jI.sub {g:be.den} {l s:List Int} (h:jI g l) (hs:∀ x∈s,x∈l):jI g s:=by
 obtain⟨h1,key,h2⟩:=h;exact⟨h1.sub hs,key,h2.sub hs⟩
noncomputable def sS:Mt:=⟨3,i64,[.d i64,.d i64,be],[],λl x=>(bF (aO x.2.2.1) x.1.toNat x.2.1.toNat l,()),λl x=>[0<=x.1,x.1<=x.2.1,x.2.1<=l.length,(l.length:Int)<=4611686018427387903,jI x.2.2.1 l]⟩
def QS (l:List Int) (x:aq [.d i64,.d i64,be]):Fr (List Int×ae []):=
 let b:=(x.2.2.1.1,x.2.2.1.2);let a:=I6.wrap (x.1+1);Jd (InvInsO x.1 x.2.1 a b l)
  (Jv (lO (aO b) 0 x.1.toNat (x.2.1-I6.wrap (x.1+1)).toNat a.toNat l,()))
def qo3:SoundMt prog 202 sS:=
 vE (wy eI (Λ:=zfw) (fn:=f202) (fr:=QS) (e:=3) (T:=i64) (ps:=[.d i64,.d i64,be]) (rs:=[]) (0,0,(λ_=>(0,()),λ_=>True),()) (by kernel_rfl) rfl rfl
  (λc E hc=>ws hc (by kernel_rfl) (b:=aC f202 0) (by kernel_rfl) (ah.han eI rfl qr0)) (λl x=>by kernel_rfl)) _ _ λw F l xs vs _ _ _ hok=>by
  obtain⟨a,b,g,rfl⟩:∃ (a b:Int) (g:be.den),xs=(a,b,g,()):=⟨xs.1,xs.2.1,xs.2.2.1,rfl⟩;have hok':(0:Int)<=a/\(a:Int)<=b/\(b:Int)<=(List.length (α:=Int) l:Int)/\(List.length (α:=Int) l:Int)<=4611686018427387903/\jI g l:=hok;obtain⟨h1,h2,h3,hlen,h4,key,h5⟩:=hok';have hw:I6.wrap (a+1)=a+1:=IntWalk.i64_in _ (by omega);dsimp only[QS,Fr.ok,Fr.get,Ty.den,PT.den];rw[hw];refine⟨⟨⟨h1,by omega,h3,by omega,by omega,h4⟩,uT⟩,?_⟩;have:=qot (key:=key) (lt:=aO g) (d:=(0:Int)) (a:=a.toNat) (b:=b.toNat) (l:=l) (by omega) (by omega) h5;show(lO (aO g) 0 a.toNat (b-(a+1)).toNat (a+1).toNat l,())=(bF (aO g) a.toNat b.toNat l,());rw[<- this,show(b-(a+1)).toNat=b.toNat-(a.toNat+1) by omega,show(a+1).toNat=a.toNat+1 by omega]
abbrev mr:Pt:=⟨38,0,⟨[(1,.d i64),(2,.d i64),(3,.d i64),(10,.d i64)],[.al 10000 0,.o 0 3 i64]⟩,⟨[],[.al 10000 0,.o 0 3 i64]⟩,⟨[],[]⟩⟩
def J0 (x:mr.M.X):Fr mr.Out:=
 let a:=x.1.1; let b:=x.1.2.1; let n:=x.1.2.2.1; let i:=x.1.2.2.2.1; let l:=x.2.1
 Jb (decide (i<n))
  (Jd (0<=I6.wrap (b+i)/\I6.wrap (b+i)<l.length)
   (Jd ((I6.wrap (b+i)).toNat<l.length)
    (Jd (0<=I6.wrap (a+i)/\I6.wrap (a+i)<l.length)
     (Jd ((I6.wrap (a+i)).toNat<l.length)
      (Jd (0<=I6.wrap (a+i)/\I6.wrap (a+i)<l.length)
       (Jd ((I6.wrap (a+i)).toNat<l.length)
        (Jd (0<=I6.wrap (b+i)/\I6.wrap (b+i)<(l.set (I6.wrap (a+i)).toNat (l.getD (I6.wrap (b+i)).toNat i64.dflt)).length)
         (Jd ((I6.wrap (b+i)).toNat<(l.set (I6.wrap (a+i)).toNat (l.getD (I6.wrap (b+i)).toNat i64.dflt)).length)
          (Jv (Rd.next ((a,b,n,I6.wrap (i+1),()),
           ((l.set (I6.wrap (a+i)).toNat (l.getD (I6.wrap (b+i)).toNat i64.dflt)).set (I6.wrap (b+i)).toNat (l.getD (I6.wrap (a+i)).toNat i64.dflt),()))))))))))))
  (Jv (Rd.out ((),(l,()))))
def zbw:ah prog (aC f231 0) mr.M mr J0:=
 eH eI
structure InvSwp (a b n i:Int) (l:List Int):Prop where
 a0:0<=a
 b0:0<=b
 i0:0<=i
 al:a+n<=l.length
 bl:b+n<=l.length
 big:(l.length:Int)<=9223372036854775807
def Gr (x:mr.M.X):Fr mr.Out:=
 Jd (InvSwp x.1.1 x.1.2.1 x.1.2.2.1 x.1.2.2.2.1 x.2.1) (Jv (Rd.out ((),(eZ 0 (x.1.2.2.1-x.1.2.2.2.1).toNat (x.1.1+x.1.2.2.2.1).toNat (x.1.2.1+x.1.2.2.2.1).toNat x.2.1,()))))
def qq3 (a b n i:Int) (l:List Int) (hinv:InvSwp a b n i l) (Q:mr.Out->Prop)
  (hq:Q (Rd.out ((),(eZ 0 (n-i).toNat (a+i).toNat (b+i).toNat l,())))):(J0 ((a,b,n,i,()),(l,()))).satP λ
   |.next x'=>InvSwp x'.1.1 x'.1.2.1 x'.1.2.2.1 x'.1.2.2.2.1 x'.2.1/\(x'.1.2.2.1-x'.1.2.2.2.1).toNat<(n-i).toNat/\(Gr x').satP Q
   |.out y=>Q (.out y)
   |.back z=>Q (.back z)
   |.pan p=>Q (.pan p):=by
 obtain⟨h0,h1,h2,h3,h4,h5⟩:=hinv;dsimp only[J0,Fr.satP,Ty.den,PT.den];refine⟨λhi=>?_,λhi=>?_⟩
 ·have hlt:=ucv hi;have w1:I6.wrap (b+i)=b+i:=IntWalk.i64_in _ (by omega);have w2:I6.wrap (a+i)=a+i:=IntWalk.i64_in _ (by omega);have w3:I6.wrap (i+1)=i+1:=IntWalk.i64_in _ (by omega);rw[w1,w2,w3];simp;refine⟨⟨by omega,by omega⟩,by omega,⟨by omega,by omega⟩,by omega,⟨by omega,by omega⟩,by omega,⟨by omega,by omega⟩,by omega,?_⟩;have hI:InvSwp a b n (i+1) (fX l 0 (a+i).toNat (b+i).toNat):=⟨h0,h1,by omega,by rw[lm]; omega,by rw[lm]; omega,by rw[lm]; omega⟩;refine⟨hI,by omega,hI,?_⟩;rw[show(n-i).toNat=(n-(i+1)).toNat+1 by omega] at hq;rw[show(a+(i+1)).toNat=(a+i).toNat+1 by omega,show(b+(i+1)).toNat=(b+i).toNat+1 by omega];exact hq
 ·have hge:=ucf hi;rw[show(n-i).toNat=0 by omega] at hq;exact hq
def qsh:ah prog (.loop (aC f231 0)) mr.M mr Gr:=by
 refine ah.loop zbw (μ:=λx=>(x.1.2.2.1-x.1.2.2.2.1).toNat) ?_ (λx Q h=>h.1);rintro⟨⟨a,b,n,i,_⟩,⟨l,_⟩⟩ hinv Q hq;exact qq3 a b n i l hinv Q hq.2
noncomputable def zf0:Nat->St->Option Tr:=λ_=>mr.han o5.Γ mr.M Gr
noncomputable def sU:Mt:=⟨3,i64,[.d i64,.d i64,.d i64,be],[],λl x=>(eZ 0 x.2.2.1.toNat x.1.toNat x.2.1.toNat l,()),λl x=>[0<=x.1,0<=x.2.1,x.1+x.2.2.1<=l.length,x.2.1+x.2.2.1<=l.length]⟩
def qm5 (l:List Int) (x:aq [.d i64,.d i64,.d i64,be]):Fr (List Int×ae []):=
 Jd (InvSwp x.1 x.2.1 x.2.2.1 0 l) (Jv (eZ 0 (x.2.2.1-0).toNat (x.1+0).toNat (x.2.1+0).toNat l,()))
def zc9:SoundMt prog 231 sU:=
 vE (wy eI (Λ:=zf0) (fn:=f231) (fr:=qm5) (e:=3) (T:=i64) (ps:=[.d i64,.d i64,.d i64,be]) (rs:=[]) (0,0,0,(λ_=>(0,()),λ_=>True),()) (by kernel_rfl) rfl rfl
  (λc E hc=>ws hc (by kernel_rfl) (b:=aC f231 0) (by kernel_rfl) (ah.han eI rfl qsh)) (λl x=>by kernel_rfl)) _ _ λw F l xs vs _ hlen _ hok=>by
  obtain⟨a,b,n,g,rfl⟩:∃ (a b n:Int) (g:be.den),xs=(a,b,n,g,()):=⟨xs.1,xs.2.1,xs.2.2.1,xs.2.2.2.1,rfl⟩;have hok':(0:Int)<=a/\(0:Int)<=b/\(a:Int)+n<=(List.length (α:=Int) l:Int)/\(b:Int)+n<=(List.length (α:=Int) l:Int):=hok;obtain⟨h1,h2,h3,h4⟩:=hok';have hlen:List.length (α:=Int) l<=maxLen:=hlen;simp only[maxLen] at hlen;refine⟨⟨⟨h1,h2,ufb _,h3,h4,by omega⟩,uT⟩,?_⟩;show(eZ 0 (n-0).toNat (a+0).toNat (b+0).toNat l,())=(eZ 0 n.toNat a.toNat b.toNat l,());rw[ueq,ue5,ue5]
open Go.Ab.Fr renaming val->Jv,need->Jd,br->Jb
def Cd {Q:Nat->Bool}:(f f' i j:Nat)->j-i<=f->j-i<=f'->cK Q f i j=cK Q f' i j
 |0,0,_,_,_,_=>rfl
 |0,f'+1,i,j,h,_=>by simp only[cK]; rw[if_neg (by omega)]
 |f+1,0,i,j,_,h=>by simp only[cK]; rw[if_neg (by omega)]
 |f+1,f'+1,i,j,h,h'=>by
  simp only[cK];split
  ·cases Q ((i+j)/2) with
   |true=>exact Cd f f' _ _ (by omega) (by omega)
   |false=>exact Cd f f' _ _ (by omega) (by omega)
  ·rfl
def GD {Q:Nat->Bool} {i j:Nat} (h:i<j):cK Q (j-i) i j=bif Q ((i+j)/2) then cK Q (j-((i+j)/2+1)) ((i+j)/2+1) j else cK Q ((i+j)/2-i) i ((i+j)/2):=by
 obtain⟨f,hf⟩:∃ f,j-i=f+1:=⟨j-i-1,by omega⟩;rw[hf];simp only[cK];rw[if_pos h];cases Q ((i+j)/2) with
 |true=>exact Cd _ _ _ _ (by omega) (by omega)
 |false=>exact Cd _ _ _ _ (by omega) (by omega)
def EF {α:Type} {d:α} {m:Nat}:(f f' i j:Nat)->(l:List α)->0<i->0<j->i+j<=f->i+j<=f'->eC d m f i j l=eC d m f' i j l
 |0,_,i,j,_,_,_,_,_=>by omega
 |f+1,0,i,j,_,_,_,_,_=>by omega
 |f+1,f'+1,i,j,l,h1,h2,h3,h4=>by
  simp only[eC];split
  ·rfl
  ·split
   ·exact EF f f' _ _ _ (by omega) (by omega) (by omega) (by omega)
   ·exact EF f f' _ _ _ (by omega) (by omega) (by omega) (by omega)
noncomputable def Mv:Cx:=ib [] [] (oX (cx [] []).Γ 231 sU)
def FM:CxOK prog Mv:=iI aG trivial trivial (sX eI.ct zc9)
abbrev mg:Pt:=⟨58,0,⟨[(2,.d i64),(4,be),(10,.d i64),(11,.d i64)],[.al 10000 0,.o 0 3 i64]⟩,⟨[(2,.d i64),(4,be),(10,.d i64)],[.al 10000 0,.o 0 3 i64]⟩,⟨[],[]⟩⟩
noncomputable def Js (x:mg.M.X):Fr mg.Out:=
 let m:=x.1.1; let g:=x.1.2.1; let i:=x.1.2.2.1; let j:=x.1.2.2.2.1; let l:=x.2.1
 Jb (i != j)
  (Jb (decide (i>j))
   (Jd (0<=I6.wrap (m-i))
    (Jd (0<=m)
     (Jd (I6.wrap (m-i)+j<=(l.length:Int))
      (Jd (m+j<=(l.length:Int))
       (Jv (Rd.next ((m,(g.1,g.2),I6.wrap (i-j),j,()),((sU.f l (I6.wrap (m-i),m,j,(g.1,g.2),())).1,()))))))))
   (Jd (0<=I6.wrap (m-i))
    (Jd (0<=I6.wrap (I6.wrap (m+j)-i))
     (Jd (I6.wrap (m-i)+i<=(l.length:Int))
      (Jd (I6.wrap (I6.wrap (m+j)-i)+i<=(l.length:Int))
       (Jv (Rd.next ((m,(g.1,g.2),i,I6.wrap (j-i),()),((sU.f l (I6.wrap (m-i),I6.wrap (I6.wrap (m+j)-i),i,(g.1,g.2),())).1,())))))))))
  (Jv (Rd.out ((m,(g.1,g.2),i,()),(l,()))))
def zbp:ah prog (aC f222 0) mg.M mg Js:=
 eH FM
def ue:(n a b:Nat)->(l:List Int)->(eZ 0 n a b l).length=l.length
 |0,_,_,_=>rfl
 |n+1,a,b,l=>by simp only[eZ]; rw[ue n,lm]
structure InvRot (m i j:Int) (l:List Int):Prop where
 i0:0<i
 j0:0<j
 im:i<=m
 ml:m+j<=l.length
 big:(l.length:Int)<=4611686018427387903
def Gj (x:mg.M.X):Fr mg.Out:=
 Jd (InvRot x.1.1 x.1.2.2.1 x.1.2.2.2.1 x.2.1) (Jv (Rd.out ((x.1.1,x.1.2.1,((eC 0 x.1.1.toNat (x.1.2.2.1.toNat+x.1.2.2.2.1.toNat) x.1.2.2.1.toNat x.1.2.2.2.1.toNat x.2.1).1:Nat),()),
  ((eC 0 x.1.1.toNat (x.1.2.2.1.toNat+x.1.2.2.2.1.toNat) x.1.2.2.1.toNat x.1.2.2.2.1.toNat x.2.1).2,()))))
def qqv (m i j:Int) (g:be.den) (l:List Int) (hinv:InvRot m i j l) (Q:mg.Out->Prop)
  (hq:Q (Rd.out ((m,g,((eC 0 m.toNat (i.toNat+j.toNat) i.toNat j.toNat l).1:Nat),()),((eC 0 m.toNat (i.toNat+j.toNat) i.toNat j.toNat l).2,())))):(Js ((m,g,i,j,()),(l,()))).satP λ
   |.next x'=>InvRot x'.1.1 x'.1.2.2.1 x'.1.2.2.2.1 x'.2.1/\x'.1.2.2.1.toNat+x'.1.2.2.2.1.toNat<i.toNat+j.toNat/\(Gj x').satP Q
   |.out y=>Q (.out y)
   |.back z=>Q (.back z)
   |.pan p=>Q (.pan p):=by
 obtain⟨h0,h1,h2,h3,h4⟩:=hinv;obtain⟨f,hf⟩:∃ f,i.toNat+j.toNat=f+1:=⟨i.toNat+j.toNat-1,by omega⟩;have w1:I6.wrap (m-i)=m-i:=IntWalk.i64_in _ (by omega);have w2:I6.wrap (i-j)=i-j:=IntWalk.i64_in _ (by omega);have w3:I6.wrap (m+j)=m+j:=IntWalk.i64_in _ (by omega);have w4:I6.wrap (m+j-i)=m+j-i:=IntWalk.i64_in _ (by omega);have w5:I6.wrap (j-i)=j-i:=IntWalk.i64_in _ (by omega);dsimp only[Js,Fr.satP,Ty.den,PT.den,sU];rw[w1,w2,w3,w4,w5];rw[hf] at hq;simp only[eC] at hq;refine⟨λhc=>⟨λhd=>?_,λhd=>?_⟩,λhc=>?_⟩
 ·have hgt:i>j:=ucv hd;rw[if_neg (by omega),if_pos (by omega)] at hq;have hI:InvRot m (i-j) j (eZ 0 j.toNat (m-i).toNat m.toNat l):=⟨by omega,h1,by omega,by rw[ue]; omega,by rw[ue]; omega⟩;refine⟨by omega,by omega,by omega,by omega,hI,by omega,hI,?_⟩;dsimp only[Ty.den,PT.den];rw[EF _ f (i-j).toNat j.toNat _ (by omega) (by omega) (ufa _) (by omega),show(i-j).toNat=i.toNat-j.toNat by omega,show(m-i).toNat=m.toNat-i.toNat by omega];exact hq
 ·have hle:¬ i>j:=ucf hd;have hne:i≠j:=by simpa using hc
  rw[if_neg (by omega),if_neg (by omega)] at hq;have hI:InvRot m i (j-i) (eZ 0 i.toNat (m-i).toNat (m+j-i).toNat l):=⟨h0,by omega,h2,by rw[ue]; omega,by rw[ue]; omega⟩;refine⟨by omega,by omega,by omega,by omega,hI,by omega,hI,?_⟩;dsimp only[Ty.den,PT.den];rw[EF _ f i.toNat (j-i).toNat _ (by omega) (by omega) (ufa _) (by omega),show(j-i).toNat=j.toNat-i.toNat by omega,show(m-i).toNat=m.toNat-i.toNat by omega,show(m+j-i).toNat=m.toNat+j.toNat-i.toNat by omega];exact hq
 ·have heq:i=j:=by simpa using hc
  rw[if_pos (by omega)] at hq;have:((i.toNat:Nat):Int)=i:=by omega
  rw[this] at hq;exact hq
def qr9:ah prog (.loop (aC f222 0)) mg.M mg Gj:=by
 refine ah.loop (n:=58) (id:=0) zbp (inv:=λx=>InvRot x.1.1 x.1.2.2.1 x.1.2.2.2.1 x.2.1) (μ:=λx=>x.1.2.2.1.toNat+x.1.2.2.2.1.toNat) ?_ (λx Q h=>h.1);rintro⟨⟨m,g,i,j,_⟩,⟨l,_⟩⟩ hinv Q hq;exact qqv m i j g l hinv Q hq.2
noncomputable def zfy:Nat->St->Option Tr:=λ_=>mg.han Mv.Γ mg.M Gj
def Ln {m:Nat}:(f i j:Nat)->(l:List Int)->0<i->0<j->i+j<=f->0<(eC 0 m f i j l).1/\(eC 0 m f i j l).1<=i/\(eC 0 m f i j l).1<=j/\(eC 0 m f i j l).2.length=l.length
 |0,i,j,l,_,_,_=>by omega
 |f+1,i,j,l,h1,h2,h3=>by
  simp only[eC];split
  ·exact⟨h1,ufa _,by omega,rfl⟩
  ·split
   ·have:=Ln (m:=m) f (i-j) j (eZ 0 j (m-i) m l) (by omega) h2 (by omega);rw[ue] at this;omega
   ·have:=Ln (m:=m) f i (j-i) (eZ 0 i (m-i) (m+j-i) l) h1 (by omega) (by omega);rw[ue] at this;omega
noncomputable def Ki:Mt:=⟨3,i64,[.d i64,.d i64,.d i64,be],[],λl x=>(qP 0 x.1.toNat x.2.1.toNat x.2.2.1.toNat l,()),λl x=>[0<=x.1,x.1<x.2.1,x.2.1<x.2.2.1,x.2.2.1<=l.length,(l.length:Int)<=4611686018427387903]⟩
def Ur (m i j:Int) (l:List Int):Int:=((eC 0 m.toNat (i.toNat+j.toNat) i.toNat j.toNat l).1:Nat)
def Us (m i j:Int) (l:List Int):List Int:=(eC 0 m.toNat (i.toNat+j.toNat) i.toNat j.toNat l).2
noncomputable def QZ (l:List Int) (x:aq [.d i64,.d i64,.d i64,be]):Fr (List Int×ae []):=
 let a:=x.1; let m:=x.2.1; let b:=x.2.2.1; let g:=x.2.2.2.1
 let i:=Ur m (I6.wrap (m-a)) (I6.wrap (b-m)) l
 let r:=Us m (I6.wrap (m-a)) (I6.wrap (b-m)) l
 Jd (InvRot m (I6.wrap (m-a)) (I6.wrap (b-m)) l)
 (Jd (0<=I6.wrap (m-i))
  (Jd (0<=m)
   (Jd (I6.wrap (m-i)+i<=(r.length:Int))
    (Jd (m+i<=(r.length:Int))
     (Jv ((sU.f r (I6.wrap (m-i),m,i,(g.1,g.2),())).1,()))))))
def qzo:SoundMt prog 222 Ki:=
 vE (wy FM (Λ:=zfy) (fn:=f222) (fr:=QZ) (e:=3) (T:=i64) (ps:=[.d i64,.d i64,.d i64,be]) (rs:=[]) (0,0,0,(λ_=>(0,()),λ_=>True),()) (by kernel_rfl) rfl rfl
  (λc E hc=>ws hc (by kernel_rfl) (b:=aC f222 0) (by kernel_rfl) (ah.han FM rfl qr9)) (λl x=>by kernel_rfl)) _ _ λw F l xs vs _ _ _ hok=>by
  obtain⟨a,m,b,g,rfl⟩:∃ (a m b:Int) (g:be.den),xs=(a,m,b,g,()):=⟨xs.1,xs.2.1,xs.2.2.1,xs.2.2.2.1,rfl⟩;have hok':(0:Int)<=a/\(a:Int)<m/\(m:Int)<b/\(b:Int)<=(List.length (α:=Int) l:Int)/\(List.length (α:=Int) l:Int)<=4611686018427387903:=hok;obtain⟨h1,h2,h3,h4,h5⟩:=hok';have w1:I6.wrap (m-a)=m-a:=IntWalk.i64_in _ (by omega);have w2:I6.wrap (b-m)=b-m:=IntWalk.i64_in _ (by omega);have hf:=Ln (m:=m.toNat) ((m-a).toNat+(b-m).toNat) (m-a).toNat (b-m).toNat l (by omega) (by omega) (ufa _);dsimp only[QZ,Fr.ok,Fr.get,Ty.den,PT.den,sU,Ur,Us];rw[w1,w2];have e1:qP 0 a.toNat m.toNat b.toNat l=eZ 0 (eC 0 m.toNat ((m-a).toNat+(b-m).toNat) (m-a).toNat (b-m).toNat l).1 (m.toNat-(eC 0 m.toNat ((m-a).toNat+(b-m).toNat) (m-a).toNat (b-m).toNat l).1) m.toNat (eC 0 m.toNat ((m-a).toNat+(b-m).toNat) (m-a).toNat (b-m).toNat l).2:=by
   unfold qP;rw[show b.toNat-a.toNat=(m-a).toNat+(b-m).toNat by omega,show m.toNat-a.toNat=(m-a).toNat by omega,show b.toNat-m.toNat=(b-m).toNat by omega]
  generalize eC 0 m.toNat ((m-a).toNat+(b-m).toNat) (m-a).toNat (b-m).toNat l=r at hf e1 |-;have w3:I6.wrap (m-(r.1:Int))=m-r.1:=IntWalk.i64_in _ (by omega);rw[w3];refine⟨⟨⟨by omega,by omega,by omega,by omega,h5⟩,by omega,by omega,by omega,by omega,uT⟩,?_⟩;show(eZ 0 (r.1:Int).toNat (m-r.1).toNat m.toNat r.2,())=(qP 0 a.toNat m.toNat b.toNat l,());rw[e1,show(r.1:Int).toNat=r.1 by omega,show(m-(r.1:Int)).toNat=m.toNat-r.1 by omega]
open Go.Ab.Fr renaming val->Jv,need->Jd,br->Jb
def da (i j:Int):Int:=I6.wrap ((IntKind.u64.wrap (I6.wrap (i+j))).fdiv (2 ^ min (Int.toNat 1) IntKind.u64.bits))
def DS {i j:Nat} (h:i+j<=9223372036854775807):da (i:Int) j=((i+j)/2:Nat):=qny h
abbrev mh:Pt:=⟨220,0,⟨[(1,.d i64),(4,be),(10,.d i64),(11,.d i64)],[.al 10000 0,.o 0 3 i64]⟩,⟨[(1,.d i64),(10,.d i64)],[.al 10000 0,.o 0 3 i64]⟩,⟨[],[]⟩⟩
def Jt (x:mh.M.X):Fr mh.Out:=
 let c:=x.1.1; let g:=x.1.2.1; let i:=x.1.2.2.1; let j:=x.1.2.2.2.1; let l:=x.2.1
 Jb (decide (i<j))
  (Jd (¬(1:Int)<0)
   (Jd (0<=da i j/\da i j<(l.length:Int))
    (Jd ((da i j).toNat<l.length)
     (Jd (0<=c/\c<(l.length:Int))
      (Jd ((c).toNat<l.length)
       (Jd (g.2 (l.getD (da i j).toNat i64.dflt,l.getD c.toNat i64.dflt,()))
        (Jb (decide ((g.1 (l.getD (da i j).toNat i64.dflt,l.getD c.toNat i64.dflt,())).1<0))
         (Jv (Rd.next ((c,(g.1,g.2),I6.wrap (da i j+1),j,()),(l,()))))
         (Jv (Rd.next ((c,(g.1,g.2),i,da i j,()),(l,())))))))))))
  (Jv (Rd.out ((c,i,()),(l,()))))
def zbq:ah prog (aC f203 0) mh.M mh Jt:=
 eH eI
structure InvS0 (c i j:Int) (g:be.den) (l:List Int):Prop where
 c0:0<=c
 cl:c<l.length
 i0:0<=i
 ij:i<=j
 jl:j<=l.length
 big:(l.length:Int)<=4611686018427387903
 dom:ku g l
def Gk (x:mh.M.X):Fr mh.Out:=
 let c:=x.1.1; let g:=x.1.2.1; let i:=x.1.2.2.1; let j:=x.1.2.2.2.1; let l:=x.2.1
 Jd (InvS0 c i j g l) (Jv (Rd.out ((c,(cK (λh=>aO g (l.getD h 0) (l.getD c.toNat 0)) (j.toNat-i.toNat) i.toNat j.toNat:Nat),()),(l,()))))
def qqx (c i j:Int) (g:be.den) (l:List Int) (hinv:InvS0 c i j g l) (Q:mh.Out->Prop)
  (hq:Q (Rd.out ((c,(cK (λh=>aO g (l.getD h 0) (l.getD c.toNat 0)) (j.toNat-i.toNat) i.toNat j.toNat:Nat),()),(l,())))):(Jt ((c,g,i,j,()),(l,()))).satP λ
   |.next x'=>InvS0 x'.1.1 x'.1.2.2.1 x'.1.2.2.2.1 x'.1.2.1 x'.2.1/\(x'.1.2.2.2.1-x'.1.2.2.1).toNat<(j-i).toNat/\(Gk x').satP Q
   |.out y=>Q (.out y)
   |.back z=>Q (.back z)
   |.pan p=>Q (.pan p):=by
 obtain⟨h0,h1,h2,h3,h4,hb,hd⟩:=hinv;obtain⟨i',rfl⟩:∃ n:Nat,i=n:=⟨i.toNat,by omega⟩;obtain⟨j',rfl⟩:∃ n:Nat,j=n:=⟨j.toNat,by omega⟩;obtain⟨c',rfl⟩:∃ n:Nat,c=n:=⟨c.toNat,by omega⟩;have hm:da (i':Int) j'=((i'+j')/2:Nat):=DS (by omega);have hw:I6.wrap ((((i'+j')/2:Nat):Int)+1)=((i'+j')/2+1:Nat):=pD (by omega);dsimp only[Jt,Fr.satP,PT.den];rw[hm,hw];simp only[ucy] at hq |-;refine⟨λhi=>?_,λhi=>?_⟩
 ·have hlt:i'<j':=by have:(i':Int)<j':=ucv hi; omega
  rw[GD hlt] at hq;have hml:(i'+j')/2<l.length:=by omega
  have hcl:c'<l.length:=by omega
  refine⟨by omega,⟨by omega,by omega⟩,by omega,⟨by omega,by omega⟩,by omega,hd _ (eh hml) _ (eh hcl),λhc=>?_,λhc=>?_⟩
  ·have hc':(aO g (l.getD ((i'+j')/2) 0) (l.getD c' 0))=true:=hc;rw[hc'] at hq;have hI:InvS0 (c':Int) ((i'+j')/2+1:Nat) j' g l:=⟨h0,h1,by omega,by omega,by omega,hb,hd⟩;exact⟨hI,by omega,hI,hq⟩
  ·have hc':(aO g (l.getD ((i'+j')/2) 0) (l.getD c' 0))=false:=hc;rw[hc'] at hq;have hI:InvS0 (c':Int) i' ((i'+j')/2:Nat) g l:=⟨h0,h1,by omega,by omega,by omega,hb,hd⟩;exact⟨hI,by omega,hI,hq⟩
 ·have hge:¬ i'<j':=by have:¬ (i':Int)<j':=ucf hi; omega
  rw[show j'-i'=0 by omega] at hq;exact hq
def qsb:ah prog (.loop (aC f203 0)) mh.M mh Gk:=by
 refine ah.loop zbq (μ:=λx=>(x.1.2.2.2.1-x.1.2.2.1).toNat) ?_ (λx Q h=>h.1);rintro⟨⟨c,g,i,j,_⟩,⟨l,_⟩⟩ hinv Q hq;exact qqx c i j g l hinv Q hq.2
abbrev mj:Pt:=⟨220,4,⟨[(2,.d i64),(4,be),(14,.d i64),(15,.d i64)],[.al 10000 0,.o 0 3 i64]⟩,⟨[(2,.d i64),(14,.d i64)],[.al 10000 0,.o 0 3 i64]⟩,⟨[],[]⟩⟩
def Fv (x:mj.M.X):Fr mj.Out:=
 let c:=x.1.1; let g:=x.1.2.1; let i:=x.1.2.2.1; let j:=x.1.2.2.2.1; let l:=x.2.1
 Jb (decide (i<j))
  (Jd (¬(1:Int)<0)
   (Jd (0<=c/\c<(l.length:Int))
    (Jd ((c).toNat<l.length)
     (Jd (0<=da i j/\da i j<(l.length:Int))
      (Jd ((da i j).toNat<l.length)
       (Jd (g.2 (l.getD c.toNat i64.dflt,l.getD (da i j).toNat i64.dflt,()))
        (Jb (!decide ((g.1 (l.getD c.toNat i64.dflt,l.getD (da i j).toNat i64.dflt,())).1<0))
         (Jv (Rd.next ((c,(g.1,g.2),I6.wrap (da i j+1),j,()),(l,()))))
         (Jv (Rd.next ((c,(g.1,g.2),i,da i j,()),(l,())))))))))))
  (Jv (Rd.out ((c,i,()),(l,()))))
def zbs:ah prog (aC f203 2) mj.M mj Fv:=
 eH eI
structure InvS2 (c i j:Int) (g:be.den) (l:List Int):Prop where
 c0:0<=c
 cl:c<l.length
 i0:0<=i
 ij:i<=j
 jl:j<=l.length
 big:(l.length:Int)<=4611686018427387903
 dom:ku g l
def Gn (x:mj.M.X):Fr mj.Out:=
 let c:=x.1.1; let g:=x.1.2.1; let i:=x.1.2.2.1; let j:=x.1.2.2.2.1; let l:=x.2.1
 Jd (InvS2 c i j g l) (Jv (Rd.out ((c,(cK (λh=>!aO g (l.getD c.toNat 0) (l.getD h 0)) (j.toNat-i.toNat) i.toNat j.toNat:Nat),()),(l,()))))
def qqz (c i j:Int) (g:be.den) (l:List Int) (hinv:InvS2 c i j g l) (Q:mj.Out->Prop)
  (hq:Q (Rd.out ((c,(cK (λh=>!aO g (l.getD c.toNat 0) (l.getD h 0)) (j.toNat-i.toNat) i.toNat j.toNat:Nat),()),(l,())))):(Fv ((c,g,i,j,()),(l,()))).satP λ
   |.next x'=>InvS2 x'.1.1 x'.1.2.2.1 x'.1.2.2.2.1 x'.1.2.1 x'.2.1/\(x'.1.2.2.2.1-x'.1.2.2.1).toNat<(j-i).toNat/\(Gn x').satP Q
   |.out y=>Q (.out y)
   |.back z=>Q (.back z)
   |.pan p=>Q (.pan p):=by
 obtain⟨h0,h1,h2,h3,h4,hb,hd⟩:=hinv;obtain⟨i',rfl⟩:∃ n:Nat,i=n:=⟨i.toNat,by omega⟩;obtain⟨j',rfl⟩:∃ n:Nat,j=n:=⟨j.toNat,by omega⟩;obtain⟨c',rfl⟩:∃ n:Nat,c=n:=⟨c.toNat,by omega⟩;have hm:da (i':Int) j'=((i'+j')/2:Nat):=DS (by omega);have hw:I6.wrap ((((i'+j')/2:Nat):Int)+1)=((i'+j')/2+1:Nat):=pD (by omega);dsimp only[Fv,Fr.satP,PT.den];rw[hm,hw];simp only[ucy] at hq |-;refine⟨λhi=>?_,λhi=>?_⟩
 ·have hlt:i'<j':=by have:(i':Int)<j':=ucv hi; omega
  rw[GD hlt] at hq;have hml:(i'+j')/2<l.length:=by omega
  have hcl:c'<l.length:=by omega
  refine⟨by omega,⟨by omega,by omega⟩,by omega,⟨by omega,by omega⟩,by omega,hd _ (eh hcl) _ (eh hml),λhc=>?_,λhc=>?_⟩
  ·have hc':(!aO g (l.getD c' 0) (l.getD ((i'+j')/2) 0))=true:=hc;rw[hc'] at hq;have hI:InvS2 (c':Int) ((i'+j')/2+1:Nat) j' g l:=⟨h0,h1,by omega,by omega,by omega,hb,hd⟩;exact⟨hI,by omega,hI,hq⟩
  ·have hc':(!aO g (l.getD c' 0) (l.getD ((i'+j')/2) 0))=false:=hc;rw[hc'] at hq;have hI:InvS2 (c':Int) i' ((i'+j')/2:Nat) g l:=⟨h0,h1,by omega,by omega,by omega,hb,hd⟩;exact⟨hI,by omega,hI,hq⟩
 ·have hge:¬ i'<j':=by have:¬ (i':Int)<j':=ucf hi; omega
  rw[show j'-i'=0 by omega] at hq;exact hq
def qsd:ah prog (.loop (aC f203 2)) mj.M mj Gn:=by
 refine ah.loop zbs (μ:=λx=>(x.1.2.2.2.1-x.1.2.2.1).toNat) ?_ (λx Q h=>h.1);rintro⟨⟨c,g,i,j,_⟩,⟨l,_⟩⟩ hinv Q hq;exact qqz c i j g l hinv Q hq.2
abbrev mq:Pt:=⟨220,8,⟨[(1,.d i64),(2,.d i64),(3,.d i64),(4,be),(18,.d i64),(19,.d i64),(20,.d i64),(21,.d i64),(22,.d i64)],[.al 10000 0,.o 0 3 i64]⟩,⟨[(1,.d i64),(2,.d i64),(3,.d i64),(4,be),(18,.d i64),(19,.d i64),(20,.d i64)],[.al 10000 0,.o 0 3 i64]⟩,⟨[],[]⟩⟩
def Jy (x:mq.M.X):Fr mq.Out:=
 let a:=x.1.1; let m:=x.1.2.1; let b:=x.1.2.2.1; let g:=x.1.2.2.2.1; let aV:=x.1.2.2.2.2.1; let n:=x.1.2.2.2.2.2.1; let i:=x.1.2.2.2.2.2.2.1; let j:=x.1.2.2.2.2.2.2.2.1; let p:=x.1.2.2.2.2.2.2.2.2.1; let l:=x.2.1
 Jb (decide (i<j))
  (Jd (¬(1:Int)<0)
   (Jd (0<=I6.wrap (p-da i j)/\I6.wrap (p-da i j)<(l.length:Int))
    (Jd ((I6.wrap (p-da i j)).toNat<l.length)
     (Jd (0<=da i j/\da i j<(l.length:Int))
      (Jd ((da i j).toNat<l.length)
       (Jd (g.2 (l.getD (I6.wrap (p-da i j)).toNat i64.dflt,l.getD (da i j).toNat i64.dflt,()))
        (Jb (!decide ((g.1 (l.getD (I6.wrap (p-da i j)).toNat i64.dflt,l.getD (da i j).toNat i64.dflt,())).1<0))
         (Jv (Rd.next ((a,m,b,(g.1,g.2),aV,n,I6.wrap (da i j+1),j,p,()),(l,()))))
         (Jv (Rd.next ((a,m,b,(g.1,g.2),aV,n,i,da i j,p,()),(l,())))))))))))
  (Jv (Rd.out ((a,m,b,(g.1,g.2),aV,n,i,()),(l,()))))
def zbu:ah prog (aC f203 4) mq.M mq Jy:=
 eH eI
structure InvS4 (p i j:Int) (g:be.den) (l:List Int):Prop where
 p0:0<=p
 pl:p<i+l.length
 pj:j<=p+1
 i0:0<=i
 ij:i<=j
 jl:j<=l.length
 big:(l.length:Int)<=4611686018427387903
 dom:ku g l
def Gq (x:mq.M.X):Fr mq.Out:=
 let a:=x.1.1; let m:=x.1.2.1; let b:=x.1.2.2.1; let g:=x.1.2.2.2.1; let aV:=x.1.2.2.2.2.1; let n:=x.1.2.2.2.2.2.1; let i:=x.1.2.2.2.2.2.2.1; let j:=x.1.2.2.2.2.2.2.2.1; let p:=x.1.2.2.2.2.2.2.2.2.1; let l:=x.2.1
 Jd (InvS4 p i j g l) (Jv (Rd.out ((a,m,b,g,aV,n,(cK (λh=>!aO g (l.getD (p.toNat-h) 0) (l.getD h 0)) (j.toNat-i.toNat) i.toNat j.toNat:Nat),()),(l,()))))
def qq1 (a m b aV n p i j:Int) (g:be.den) (l:List Int) (hinv:InvS4 p i j g l) (Q:mq.Out->Prop)
  (hq:Q (Rd.out ((a,m,b,g,aV,n,(cK (λh=>!aO g (l.getD (p.toNat-h) 0) (l.getD h 0)) (j.toNat-i.toNat) i.toNat j.toNat:Nat),()),(l,())))):(Jy ((a,m,b,g,aV,n,i,j,p,()),(l,()))).satP λ
   |.next x'=>InvS4 x'.1.2.2.2.2.2.2.2.2.1 x'.1.2.2.2.2.2.2.1 x'.1.2.2.2.2.2.2.2.1 x'.1.2.2.2.1 x'.2.1/\(x'.1.2.2.2.2.2.2.2.1-x'.1.2.2.2.2.2.2.1).toNat<(j-i).toNat/\(Gq x').satP Q
   |.out y=>Q (.out y)
   |.back z=>Q (.back z)
   |.pan p=>Q (.pan p):=by
 obtain⟨fh,h0,h1,h2,h3,h4,hb,hd⟩:=hinv;obtain⟨i',rfl⟩:∃ n:Nat,i=n:=⟨i.toNat,by omega⟩;obtain⟨j',rfl⟩:∃ n:Nat,j=n:=⟨j.toNat,by omega⟩;obtain⟨p',rfl⟩:∃ n:Nat,p=n:=⟨p.toNat,by omega⟩;have hm:da (i':Int) j'=((i'+j')/2:Nat):=DS (by omega);have hw:I6.wrap ((((i'+j')/2:Nat):Int)+1)=((i'+j')/2+1:Nat):=pD (by omega);dsimp only[Jy,Fr.satP,PT.den];rw[hm,hw];have hp:(i'<j')->I6.wrap ((p':Int)-(((i'+j')/2:Nat):Int))=(p'-(i'+j')/2:Nat):=λh=>xK (by omega) (by omega);simp only[ucy] at hq |-;refine⟨λhi=>?_,λhi=>?_⟩
 ·have hlt:i'<j':=by have:(i':Int)<j':=ucv hi; omega
  rw[GD hlt] at hq;rw[hp hlt];have hml:p'-(i'+j')/2<l.length:=by omega
  have hcl:(i'+j')/2<l.length:=by omega
  refine⟨by omega,⟨by omega,by omega⟩,by omega,⟨by omega,by omega⟩,by omega,hd _ (eh hml) _ (eh hcl),λhc=>?_,λhc=>?_⟩
  ·have hc':(!aO g (l.getD (p'-(i'+j')/2) 0) (l.getD ((i'+j')/2) 0))=true:=hc;rw[hc'] at hq;have hI:InvS4 (p':Int) ((i'+j')/2+1:Nat) j' g l:=⟨fh,by omega,by omega,by omega,by omega,by omega,hb,hd⟩;exact⟨hI,by omega,hI,hq⟩
  ·have hc':(!aO g (l.getD (p'-(i'+j')/2) 0) (l.getD ((i'+j')/2) 0))=false:=hc;rw[hc'] at hq;have hI:InvS4 (p':Int) i' ((i'+j')/2:Nat) g l:=⟨fh,by omega,by omega,by omega,by omega,by omega,hb,hd⟩;exact⟨hI,by omega,hI,hq⟩
 ·have hge:¬ i'<j':=by have:¬ (i':Int)<j':=ucf hi; omega
  rw[show j'-i'=0 by omega] at hq;exact hq
def qsf:ah prog (.loop (aC f203 4)) mq.M mq Gq:=by
 refine ah.loop zbu (μ:=λx=>(x.1.2.2.2.2.2.2.2.1-x.1.2.2.2.2.2.2.1).toNat) ?_ (λx Q h=>h.1);rintro⟨⟨a,m,b,g,aV,n,i,j,p,_⟩,⟨l,_⟩⟩ hinv Q hq;exact qq1 a m b aV n p i j g l hinv Q hq.2
abbrev mi:Pt:=⟨220,2,⟨[(10,.d i64),(13,.d i64)],[.al 10000 0,.o 0 3 i64]⟩,⟨[],[.al 10000 0,.o 0 3 i64]⟩,⟨[],[]⟩⟩
def Ju (x:mi.M.X):Fr mi.Out:=
 let i:=x.1.1; let k:=x.1.2.1; let l:=x.2.1
 Jb (decide (k<I6.wrap (i-1)))
  (Jd (0<=I6.wrap (k+1)/\I6.wrap (k+1)<(l.length:Int))
   (Jd ((I6.wrap (k+1)).toNat<l.length)
    (Jd (0<=k/\k<(l.length:Int))
     (Jd (k.toNat<l.length)
      (Jd (0<=k/\k<(l.length:Int))
       (Jd (k.toNat<l.length)
        (Jd (0<=I6.wrap (k+1)/\I6.wrap (k+1)<((l.set k.toNat (l.getD (I6.wrap (k+1)).toNat i64.dflt)).length:Int))
         (Jd ((I6.wrap (k+1)).toNat<(l.set k.toNat (l.getD (I6.wrap (k+1)).toNat i64.dflt)).length)
          (Jv (Rd.next ((i,I6.wrap (k+1),()),((l.set k.toNat (l.getD (I6.wrap (k+1)).toNat i64.dflt)).set (I6.wrap (k+1)).toNat (l.getD k.toNat i64.dflt),()))))))))))))
  (Jv (Rd.out ((),(l,()))))
def zbr:ah prog (aC f203 1) mi.M mi Ju:=
 eH eI
structure InvS1 (i k:Int) (l:List Int):Prop where
 k0:0<=k
 i0:0<=i
 il:i<=l.length
 big:(l.length:Int)<=4611686018427387903
def Gl (x:mi.M.X):Fr mi.Out:=
 let i:=x.1.1; let k:=x.1.2.1; let l:=x.2.1
 Jd (InvS1 i k l) (Jv (Rd.out ((),(ow 0 (i-1-k).toNat k.toNat l,()))))
def qqy (i k:Int) (l:List Int) (hinv:InvS1 i k l) (Q:mi.Out->Prop) (hq:Q (Rd.out ((),(ow 0 (i-1-k).toNat k.toNat l,())))):(Ju ((i,k,()),(l,()))).satP λ
   |.next x'=>InvS1 x'.1.1 x'.1.2.1 x'.2.1/\(x'.1.1-1-x'.1.2.1).toNat<(i-1-k).toNat/\(Gl x').satP Q
   |.out y=>Q (.out y)
   |.back z=>Q (.back z)
   |.pan p=>Q (.pan p):=by
 obtain⟨h0,h1,h2,h3⟩:=hinv;have w1:I6.wrap (i-1)=i-1:=IntWalk.i64_in _ (by omega);dsimp only[Ju,Fr.satP,Ty.den,PT.den];rw[w1];simp only[udm];refine⟨λhc=>?_,λhc=>?_⟩
 ·have hlt:=ucv hc;have w2:I6.wrap (k+1)=k+1:=IntWalk.i64_in _ (by omega);rw[w2];have hI:InvS1 i (k+1) (fX l 0 k.toNat (k+1).toNat):=⟨by omega,by omega,by rw[lm]; omega,by rw[lm]; omega⟩;refine⟨⟨by omega,by omega⟩,by omega,⟨by omega,by omega⟩,by omega,⟨by omega,by omega⟩,by omega,⟨by omega,by omega⟩,by omega,hI,by omega,hI,?_⟩;rw[show(i-1-k).toNat=(i-1-(k+1)).toNat+1 by omega] at hq;simp only[ow] at hq;rw[show k.toNat+1=(k+1).toNat by omega] at hq;exact hq
 ·have hge:=ucf hc;rw[show(i-1-k).toNat=0 by omega] at hq;exact hq
def qsc:ah prog (.loop (aC f203 1)) mi.M mi Gl:=by
 refine ah.loop zbr (μ:=λx=>(x.1.1-1-x.1.2.1).toNat) ?_ (λx Q h=>h.1);rintro⟨⟨i,k,_⟩,⟨l,_⟩⟩ hinv Q hq;exact qqy i k l hinv Q hq.2
abbrev mn:Pt:=⟨220,6,⟨[(14,.d i64),(17,.d i64)],[.al 10000 0,.o 0 3 i64]⟩,⟨[],[.al 10000 0,.o 0 3 i64]⟩,⟨[],[]⟩⟩
def Jw (x:mn.M.X):Fr mn.Out:=
 let i:=x.1.1; let k:=x.1.2.1; let l:=x.2.1
 Jb (decide (k>i))
  (Jd (0<=I6.wrap (k-1)/\I6.wrap (k-1)<(l.length:Int))
   (Jd ((I6.wrap (k-1)).toNat<l.length)
    (Jd (0<=k/\k<(l.length:Int))
     (Jd (k.toNat<l.length)
      (Jd (0<=k/\k<(l.length:Int))
       (Jd (k.toNat<l.length)
        (Jd (0<=I6.wrap (k-1)/\I6.wrap (k-1)<((l.set k.toNat (l.getD (I6.wrap (k-1)).toNat i64.dflt)).length:Int))
         (Jd ((I6.wrap (k-1)).toNat<(l.set k.toNat (l.getD (I6.wrap (k-1)).toNat i64.dflt)).length)
          (Jv (Rd.next ((i,I6.wrap (k-1),()),((l.set k.toNat (l.getD (I6.wrap (k-1)).toNat i64.dflt)).set (I6.wrap (k-1)).toNat (l.getD k.toNat i64.dflt),()))))))))))))
  (Jv (Rd.out ((),(l,()))))
def zbt:ah prog (aC f203 3) mn.M mn Jw:=
 eH eI
structure InvS3 (i k:Int) (l:List Int):Prop where
 i0:0<=i
 ik:i<=k
 kl:k<l.length
 big:(l.length:Int)<=4611686018427387903
def Gp (x:mn.M.X):Fr mn.Out:=
 let i:=x.1.1; let k:=x.1.2.1; let l:=x.2.1
 Jd (InvS3 i k l) (Jv (Rd.out ((),(mT 0 (k-i).toNat k.toNat l,()))))
def qq0 (i k:Int) (l:List Int) (hinv:InvS3 i k l) (Q:mn.Out->Prop) (hq:Q (Rd.out ((),(mT 0 (k-i).toNat k.toNat l,())))):(Jw ((i,k,()),(l,()))).satP λ
   |.next x'=>InvS3 x'.1.1 x'.1.2.1 x'.2.1/\(x'.1.2.1-x'.1.1).toNat<(k-i).toNat/\(Gp x').satP Q
   |.out y=>Q (.out y)
   |.back z=>Q (.back z)
   |.pan p=>Q (.pan p):=by
 obtain⟨h0,h1,h2,h3⟩:=hinv;have w2:I6.wrap (k-1)=k-1:=IntWalk.i64_in _ (by omega);dsimp only[Jw,Fr.satP,Ty.den,PT.den];rw[w2];simp only[udm];refine⟨λhc=>?_,λhc=>?_⟩
 ·have hlt:=ucv hc;have hI:InvS3 i (k-1) (fX l 0 k.toNat (k-1).toNat):=⟨by omega,by omega,by rw[lm]; omega,by rw[lm]; omega⟩;refine⟨⟨by omega,by omega⟩,by omega,⟨by omega,by omega⟩,by omega,⟨by omega,by omega⟩,by omega,⟨by omega,by omega⟩,by omega,hI,by omega,hI,?_⟩;rw[show(k-i).toNat=(k-1-i).toNat+1 by omega] at hq;simp only[mT] at hq;rw[show k.toNat-1=(k-1).toNat by omega] at hq;exact hq
 ·have hge:=ucf hc;rw[show(k-i).toNat=0 by omega] at hq;exact hq
def qse:ah prog (.loop (aC f203 3)) mn.M mn Gp:=by
 refine ah.loop zbt (μ:=λx=>(x.1.2.1-x.1.1).toNat) ?_ (λx Q h=>h.1);rintro⟨⟨i,k,_⟩,⟨l,_⟩⟩ hinv Q hq;exact qq0 i k l hinv Q hq.2
open Go.Ab.Fr renaming val->Jv,need->Jd,br->Jb
structure SymOk (n:Nat) (a m b:Int) (g:be.den) (l:List Int):Prop where
 a0:0<=a
 am:a<m
 mb:m<b
 bl:b<=l.length
 big:(l.length:Int)<=4611686018427387903
 size:b-a<=n
 dom:ku g l
 key:∃ key:Int->Int,cy (aO g) key l/\bS key (bf a.toNat m.toNat l)/\bS key (bf m.toNat b.toNat l)
noncomputable def nr (n:Nat):Mt:=⟨3,i64,[.d i64,.d i64,.d i64,be],[],λl x=>(bF (aO x.2.2.2.1) x.1.toNat x.2.2.1.toNat l,()),λl x=>[SymOk n x.1 x.2.1 x.2.2.1 x.2.2.2.1 l]⟩
noncomputable def Mx (n:Nat):Cx:=ib [] [] (Ak (oX (cx [] []).Γ 222 Ki) (oX (cx [] []).Γ 203 (nr n)))
def Xs {n:Nat} (h:SoundMt prog 203 (nr n)):CxOK prog (Mx n):=iI aG trivial trivial (K4 (sX eI.ct qzo) (sX eI.ct h))
noncomputable def Mk:Nat->St->Option Tr
 |0=>mh.han o5.Γ mh.M Gk
 |1=>mi.han o5.Γ mi.M Gl
 |2=>mj.han o5.Γ mj.M Gn
 |3=>mn.han o5.Γ mn.M Gp
 |_=>mq.han o5.Γ mq.M Gq
def qpy {E:Env} {c:Code} (hc:f203.body=some c):cH prog E Mk c 0:=by
 have hn:(f203.body.map cG)=some 5:=by kernel_rfl
 have b0:f203.body.bind (Go.Ab.loopB · 0)=some (aC f203 0):=by kernel_rfl
 have b1:f203.body.bind (Go.Ab.loopB · 1)=some (aC f203 1):=by kernel_rfl
 have b2:f203.body.bind (Go.Ab.loopB · 2)=some (aC f203 2):=by kernel_rfl
 have b3:f203.body.bind (Go.Ab.loopB · 3)=some (aC f203 3):=by kernel_rfl
 have b4:f203.body.bind (Go.Ab.loopB · 4)=some (aC f203 4):=by kernel_rfl
 have hb:∀ i,i<5->f203.body.bind (Go.Ab.loopB · i)=some (aC f203 i):=λi hi=>match i,hi with
  |0,_=>b0
  |1,_=>b1
  |2,_=>b2
  |3,_=>b3
  |4,_=>b4
 rw[hc] at hn hb;simp only[Option.map_some,ucj] at hn;simp only[Option.bind_some] at hb;refine nk c 0 λi b' hb'=>?_;have hlt:=nq hb';rw[hn] at hlt;have e:=hb i hlt;rw[e] at hb';cases hb'
 match i,hlt with
 |0,_=>exact ah.han eI rfl qsb
 |1,_=>exact ah.han eI rfl qsc
 |2,_=>exact ah.han eI rfl qsd
 |3,_=>exact ah.han eI rfl qse
 |4,_=>exact ah.han eI rfl qsf
def uS (c i j:Int) (g:be.den) (l:List Int):Int:=(cK (λh=>aO g (l.getD h 0) (l.getD c.toNat 0)) (j.toNat-i.toNat) i.toNat j.toNat:Nat)
def GC (c i j:Int) (g:be.den) (l:List Int):Int:=(cK (λh=>!aO g (l.getD c.toNat 0) (l.getD h 0)) (j.toNat-i.toNat) i.toNat j.toNat:Nat)
def Cb (p i j:Int) (g:be.den) (l:List Int):Int:=(cK (λh=>!aO g (l.getD (p.toNat-h) 0) (l.getD h 0)) (j.toNat-i.toNat) i.toNat j.toNat:Nat)
noncomputable def Bj (n:Nat) (aV en b:Int) (g:be.den) (l:List Int):Fr (List Int×ae []):=
 Jb (bif decide (aV<en) then decide (en<b) else false) (Jd (SymOk n aV en b (g.1,g.2) l) (Jv (((nr n).f l (aV,en,b,(g.1,g.2),())).1,()))) (Jv (l,()))
noncomputable def Bi (n:Nat) (a st aV en b:Int) (g:be.den) (l:List Int):Fr (List Int×ae []):=
 Jb (bif decide (a<st) then decide (st<aV) else false) (Jd (SymOk n a st aV (g.1,g.2) l) (Bj n aV en b g ((nr n).f l (a,st,aV,(g.1,g.2),())).1)) (Bj n aV en b g l)
noncomputable def Fh (n:Nat) (a m b st aV en:Int) (g:be.den) (l:List Int):Fr (List Int×ae []):=
 Jb (bif decide (st<m) then decide (m<en) else false)
  (Jd (0<=st) (Jd (st<m) (Jd (m<en) (Jd (en<=(l.length:Int)) (Jd ((l.length:Int)<=4611686018427387903) (Bi n a st aV en b g (Ki.f l (st,m,en,(g.1,g.2),())).1))))))
  (Bi n a st aV en b g l)
noncomputable def Bg (n:Nat) (a m b aV i j:Int) (g:be.den) (l:List Int):Fr (List Int×ae []):=
 let p:=I6.wrap (I6.wrap (aV+m)-1)
 Jd (InvS4 p i j (g.1,g.2) l) (Fh n a m b (Cb p i j (g.1,g.2) l) aV (I6.wrap (I6.wrap (aV+m)-Cb p i j (g.1,g.2) l)) g l)
noncomputable def zI (n:Nat) (l:List Int) (x:aq [.d i64,.d i64,.d i64,be]):Fr (List Int×ae []):=
 let a:=x.1; let m:=x.2.1; let b:=x.2.2.1; let g:=x.2.2.2.1
 Jb (I6.wrap (m-a)==1)
  (Jd (InvS0 a m b (g.1,g.2) l) (Jd (InvS1 (uS a m b (g.1,g.2) l) a l) (Jv (ow 0 (uS a m b (g.1,g.2) l-1-a).toNat a.toNat l,()))))
  (Jb (I6.wrap (b-m)==1)
   (Jd (InvS2 m a m (g.1,g.2) l) (Jd (InvS3 (GC m a m (g.1,g.2) l) m l) (Jv (mT 0 (m-GC m a m (g.1,g.2) l).toNat m.toNat l,()))))
   (Jd (¬(1:Int)<0)
    (Jb (decide (m>da a b))
     (Bg n a m b (da a b) (I6.wrap (I6.wrap (da a b+m)-b)) (da a b) g l)
     (Bg n a m b (da a b) a m g l))))
def qz4 (n:Nat) (l:List Int) (x:aq [.d i64,.d i64,.d i64,be]):EI prog (Mx n) Mk f203 3 i64 [.d i64,.d i64,.d i64,be] [] l x=some (zI n l x):=by kernel_rfl
def Cc {Q:Nat->Bool}:(f i j:Nat)->i<=j->i<=cK Q f i j/\cK Q f i j<=j
 |0,i,j,h=>⟨ufa _,h⟩
 |f+1,i,j,h=>by
  simp only[cK];split
  ·cases Q ((i+j)/2) with
   |true=>
    have:=Cc (Q:=Q) f ((i+j)/2+1) j (by omega);simp;omega
   |false=>
    have:=Cc (Q:=Q) f i ((i+j)/2) (by omega);simp;omega
  ·exact⟨ufa _,h⟩
structure Sym3 (lt:Int->Int->Bool) (key:Int->Int) (a m b st:Nat) (l:List Int):Prop where
 s1:a<=st
 s2:st<=m
 s3:st<=(a+b)/2
 s4:(a+b)/2<=b
 e1:m+st<=(a+b)/2+m
 e2:(a+b)/2+m<=b+st
 len1:(du 0 m st ((a+b)/2+m-st) l).length=l.length
 same1:aX key l (du 0 m st ((a+b)/2+m-st) l)
 sA1:bS key (bf a st (du 0 m st ((a+b)/2+m-st) l))
 sB1:bS key (bf st ((a+b)/2) (du 0 m st ((a+b)/2+m-st) l))
 len2:(if a<st/\st<(a+b)/2 then bF lt a ((a+b)/2) (du 0 m st ((a+b)/2+m-st) l) else du 0 m st ((a+b)/2+m-st) l).length=l.length
 same2:aX key l (if a<st/\st<(a+b)/2 then bF lt a ((a+b)/2) (du 0 m st ((a+b)/2+m-st) l) else du 0 m st ((a+b)/2+m-st) l)
 sA2:bS key (bf ((a+b)/2) ((a+b)/2+m-st) (if a<st/\st<(a+b)/2 then bF lt a ((a+b)/2) (du 0 m st ((a+b)/2+m-st) l) else du 0 m st ((a+b)/2+m-st) l))
 sB2:bS key (bf ((a+b)/2+m-st) b (if a<st/\st<(a+b)/2 then bF lt a ((a+b)/2) (du 0 m st ((a+b)/2+m-st) l) else du 0 m st ((a+b)/2+m-st) l))
def zda {lt:Int->Int->Bool} {key:Int->Int} {a m b:Nat} {l:List Int} (h1:a<m) (h2:m<b) (h3:b<=l.length) (hl:cy lt key l) (sA:bS key (bf a m l)) (sB:bS key (bf m b l)) :
  Sym3 lt key a m b (ep lt 0 a m b l) l:=by
 obtain⟨p,q,hL,hp,hA,hB,hq⟩:=UP (ue6 h1) (ue6 h2) h3;have hAB:=hl.sub λz hz=>by
  rw[hL];rcases udq.1 hz with h|h
  ·exact ua4 _ (ubh _ h)
  ·exact ua4 _ (ua4 _ (ubh _ h))
 obtain⟨A1,A2,B1,B2,eA,eB,e1,e2,f1,f2⟩:=V7 (d:=(0:Int)) hp hA hB h1 h2 hAB sA sB;rw[<- hL] at e1 e2;rw[eA] at sA hA;rw[eB] at sB hB;rw[eA,eB] at hL;generalize ep lt 0 a m b l=st at e1 e2 |-;subst hL;simp at hA hB h3;have pA:=ubn.1 sA;have pB:=ubn.1 sB;have hen:(a+b)/2+m-st=m+B1.length:=by omega
 have hR:du 0 m st ((a+b)/2+m-st) (p++(A1++A2++(B1++B2++q)))=p++(A1++(B1++(A2++(B2++q)))):=by
  rw[hen];unfold du;split
  ·rename_i hc;have:=Uw (d:=(0:Int)) (a:=st) (m:=m) (x:=A2) (y:=B1) (p:=p++A1) (q:=B2++q) (by omega) (by omega) (by simp; omega) (by omega) rfl;simpa using this
  ·rename_i hc;by_cases hb1:B1=[]
   ·subst hb1; simp
   ·have:=ubx.2 hb1;have:A2=[]:=uay.1 (by omega);subst this; simp
 have same1:aX key (p++(A1++A2++(B1++B2++q))) (p++(A1++(B1++(A2++(B2++q))))):=by
  have h:=(aX.refl p).app (((aX.refl A1).app (aX.swap λx hx y hy=>by have:=f2 y hy x hx; omega:aX key (A2++B1) (B1++A2))).app (aX.refl (B2++q)));simpa using h
 have hl1:=hl.sub λz hz=>same1.mem.1 hz;have g1:bf a st (p++(A1++(B1++(A2++(B2++q)))))=A1:=tK hp (by omega);have g2:bf st ((a+b)/2) (p++(A1++(B1++(A2++(B2++q)))))=B1:=by
  have:=tK (p:=p++A1) (s:=B1) (q:=A2++(B2++q)) (a:=st) (b:=(a+b)/2) (by simp; omega) (by omega);simpa using this
 have hX:∀ T:List Int,T.length=A1.length+B1.length->bf ((a+b)/2) ((a+b)/2+m-st) (p++(T++(A2++(B2++q))))=A2/\bf ((a+b)/2+m-st) b (p++(T++(A2++(B2++q))))=B2:=λT hT=>by
  have k1:=tK (p:=p++T) (s:=A2) (q:=B2++q) (a:=(a+b)/2) (b:=(a+b)/2+m-st) (by simp; omega) (by omega);have k2:=tK (p:=p++T++A2) (s:=B2) (q:=q) (a:=(a+b)/2+m-st) (b:=b) (by simp; omega) (by omega);exact⟨by simpa using k1,by simpa using k2⟩
 have hlen:(p++(A1++(B1++(A2++(B2++q))))).length=(p++(A1++A2++(B1++B2++q))).length:=by simp; omega
 have hpart:a<st/\st<(a+b)/2->bF lt a ((a+b)/2) (p++(A1++(B1++(A2++(B2++q)))))=p++(bA lt (A1++B1)++(A2++(B2++q))):=λhc=>by
  have:=tg (lt:=lt) (b:=(a+b)/2) (s:=A1++B1) (q:=A2++(B2++q)) hp (by simp; omega);simpa using this
 refine⟨by omega,by omega,by omega,by omega,by omega,by omega,by rw[hR]; exact hlen,by rw[hR]; exact same1,by rw[hR,g1]; exact pA.1,by rw[hR,g2]; exact pB.1,?_,?_,?_,?_⟩
 ·rw[hR];split
  ·rw[th (by omega) (by simp; omega)];exact hlen
  ·exact hlen
 ·rw[hR];split
  ·exact same1.trans (KE (by omega) (by simp; omega) hl1)
  ·exact same1
 ·rw[hR];split
  ·rename_i hc;rw[hpart hc,(hX _ (by rw[mA]; simp)).1];exact pA.2.1
  ·have:=(hX (A1++B1) (by simp)).1;rw[show p++(A1++(B1++(A2++(B2++q))))=p++((A1++B1)++(A2++(B2++q))) by simp,this];exact pA.2.1
 ·rw[hR];split
  ·rename_i hc;rw[hpart hc,(hX _ (by rw[mA]; simp)).2];exact pB.2.1
  ·have:=(hX (A1++B1) (by simp)).2;rw[show p++(A1++(B1++(A2++(B2++q))))=p++((A1++B1)++(A2++(B2++q))) by simp,this];exact pB.2.1
open Go.Ab.Fr renaming val->Jv,need->Jd,br->Jb
def zdd {lt:Int->Int->Bool} {key:Int->Int} {a m b:Nat} {l:List Int} (h1:a<m) (h2:m<b) (h3:b<=l.length) (hl:cy lt key l) (sA:bS key (bf a m l)) (sB:bS key (bf m b l)) :
  ri lt 0 a m b l=bF lt a b l:=by
 obtain⟨p,q,hL,hp,hA,hB,hq⟩:=UP (ue6 h1) (ue6 h2) h3;generalize bf a m l=A at hL hA sA;generalize bf m b l=B at hL hB sB;subst hL;have hAB:=hl.sub λz hz=>by
  rcases udq.1 hz with h|h
  ·exact ua4 _ (ubh _ h)
  ·exact ua4 _ (ua4 _ (ubh _ h))
 rw[zdc hp hA hB h1 h2 hAB sA sB];have:=tg (lt:=lt) (b:=b) (s:=A++B) (q:=q) hp (by simp; omega);rw[<- this];simp
def G4 (p q:Prop) [Decidable p] [Decidable q]:(bif decide p then decide q else false)=decide (p/\q):=by
 by_cases p<;>by_cases q<;>simp_all
def V5 {n:Nat} {aV en b:Nat} {g:be.den} {l:List Int} (h:aV<en/\en<b->SymOk n aV en b g l) :
  (Bj n aV en b g l).ok/\(Bj n aV en b g l).get=((if aV<en/\en<b then bF (aO g) aV b l else l),()):=by
 unfold Bj;have hd:(bif decide ((aV:Int)<en) then decide ((en:Int)<b) else false)=decide (aV<en/\en<b):=by
  rw[G4,udf];omega
 rw[hd];by_cases hc:aV<en/\en<b
 ·rw[ud8 hc,if_pos hc];exact⟨⟨λ_=>⟨h hc,uT⟩,λhb=>by cases hb⟩,rfl⟩
 ·rw[udt hc,if_neg hc];exact⟨⟨λhb=>(by cases hb),λ_=>uT⟩,rfl⟩
def V4 {n:Nat} {a st aV en b:Nat} {g:be.den} {l:List Int} (h:a<st/\st<aV->SymOk n a st aV g l)
  (k:aV<en/\en<b->SymOk n aV en b g (if a<st/\st<aV then bF (aO g) a aV l else l)) :
  (Bi n a st aV en b g l).ok/\(Bi n a st aV en b g l).get=((if aV<en/\en<b then bF (aO g) aV b (if a<st/\st<aV then bF (aO g) a aV l else l) else (if a<st/\st<aV then bF (aO g) a aV l else l)),()):=by
 unfold Bi;have hd:(bif decide ((a:Int)<st) then decide ((st:Int)<aV) else false)=decide (a<st/\st<aV):=by
  rw[G4,udf];omega
 rw[hd];by_cases hc:a<st/\st<aV
 ·rw[if_pos hc] at k |-;rw[ud8 hc];obtain⟨h1,h2⟩:=V5 k;exact⟨⟨λ_=>⟨h hc,h1⟩,λhb=>by cases hb⟩,h2⟩
 ·rw[if_neg hc] at k |-;rw[udt hc];obtain⟨h1,h2⟩:=V5 k;exact⟨⟨λhb=>(by cases hb),λ_=>h1⟩,h2⟩
def zdb {n:Nat} {a m b st aV en:Nat} {g:be.den} {l:List Int} (hen:en<=l.length) (hbig:(l.length:Int)<=4611686018427387903)
  (h:a<st/\st<aV->SymOk n a st aV g (du 0 m st en l))
  (k:aV<en/\en<b->SymOk n aV en b g (if a<st/\st<aV then bF (aO g) a aV (du 0 m st en l) else du 0 m st en l)) :
  (Fh n a m b st aV en g l).ok/\(Fh n a m b st aV en g l).get=((if aV<en/\en<b then bF (aO g) aV b (if a<st/\st<aV then bF (aO g) a aV (du 0 m st en l) else du 0 m st en l) else (if a<st/\st<aV then bF (aO g) a aV (du 0 m st en l) else du 0 m st en l)),()):=by
 unfold Fh;have hd:(bif decide ((st:Int)<m) then decide ((m:Int)<en) else false)=decide (st<m/\m<en):=by
  rw[G4,udf];omega
 rw[hd];by_cases hc:st<m/\m<en
 ·have e:du 0 m st en l=qP 0 st m en l:=by unfold du; rw[if_pos hc]
  rw[e] at h k |-;rw[ud8 hc];obtain⟨h1,h2⟩:=V4 h k;exact⟨⟨λ_=>⟨by omega,by omega,by omega,by omega,hbig,h1⟩,λhb=>by cases hb⟩,h2⟩
 ·have e:du 0 m st en l=l:=by unfold du; rw[if_neg hc]
  rw[e] at h k |-;rw[udt hc];obtain⟨h1,h2⟩:=V4 h k;exact⟨⟨λhb=>(by cases hb),λ_=>h1⟩,h2⟩
def zde (n a m b:Nat) (g:be.den) (l:List Int) (h:SymOk (n+1) a m b g l):(zI n l ((a:Int),(m:Int),(b:Int),g,())).ok/\(zI n l ((a:Int),(m:Int),(b:Int),g,())).get=(bF (aO g) a b l,()):=by
 obtain⟨_,h1,h2,h3,hbig,hsize,hdom,key,hl,sA,sB⟩:=h;have h1':a<m:=by omega
 have h2':m<b:=by omega
 have h3':b<=l.length:=by omega
 have hX:=zdd h1' h2' h3' hl sA sB;rw[<- hX];have w1:I6.wrap ((m:Int)-a)=(m-a:Nat):=xK (by omega) (by omega);have w2:I6.wrap ((b:Int)-m)=(b-m:Nat):=xK (by omega) (by omega);have hmid:da (a:Int) b=((a+b)/2:Nat):=DS (by omega);dsimp only[zI];rw[w1,w2,hmid];by_cases c1:m-a=1
 ·have hc:(((m-a:Nat):Int)==1)=true:=by rw[c1]; rfl
  rw[hc];unfold ri;rw[if_pos c1];obtain⟨r1,r2⟩:=Cc (b-m) m b (by omega);have hb0:uS (a:Int) m b g l=(cK (λh=>aO g (l.getD h 0) (l.getD a 0)) (b-m) m b:Nat):=rfl;have e:(g.1,g.2)=g:=rfl;rw[hb0];generalize cK (λh=>aO g (l.getD h 0) (l.getD a 0)) (b-m) m b=r at r1 r2 |-;refine⟨⟨λ_=>⟨⟨by omega,by omega,by omega,by omega,by omega,hbig,hdom⟩,⟨by omega,by omega,by omega,hbig⟩,uT⟩,λhb=>by cases hb⟩,?_⟩;rw[show((r:Int)-1-a).toNat=r-1-a by omega];rfl
 ·have hc:(((m-a:Nat):Int)==1)=false:=by rw[ubu]; omega
  rw[hc];by_cases c2:b-m=1
  ·have hc:(((b-m:Nat):Int)==1)=true:=by rw[c2]; rfl
   rw[hc];unfold ri;rw[if_neg c1,if_pos c2];obtain⟨r1,r2⟩:=Cc (m-a) a m (by omega);have hb0:GC (m:Int) a m g l=(cK (λh=>!aO g (l.getD m 0) (l.getD h 0)) (m-a) a m:Nat):=rfl;have e:(g.1,g.2)=g:=rfl;rw[hb0];generalize cK (λh=>!aO g (l.getD m 0) (l.getD h 0)) (m-a) a m=r at r1 r2 |-;refine⟨⟨λhb=>(by cases hb),λ_=>⟨λ_=>⟨⟨by omega,by omega,by omega,by omega,by omega,hbig,hdom⟩,⟨by omega,by omega,by omega,hbig⟩,uT⟩,λhb=>by cases hb⟩⟩,?_⟩;rw[show((m:Int)-r).toNat=m-r by omega];rfl
  ·have hc:(((b-m:Nat):Int)==1)=false:=by rw[ubu]; omega
   rw[hc];have s3:=zda h1' h2' h3' hl sA sB;have key3:∀ i j:Nat,(i=if (a+b)/2<m then (a+b)/2+m-b else a)->(j=if (a+b)/2<m then (a+b)/2 else m) ->
     (Bg n a m b ((a+b)/2:Nat) i j g l).ok/\(Bg n a m b ((a+b)/2:Nat) i j g l).get=(ri (aO g) 0 a m b l,()):=λi j hi hj=>by
    have wp:I6.wrap (I6.wrap ((((a+b)/2:Nat):Int)+m)-1)=((a+b)/2+m-1:Nat):=by
     rw[BO (by omega),TE (by omega) (by omega)]
    have hS:Cb (((a+b)/2+m-1:Nat):Int) i j g l=(ep (aO g) 0 a m b l:Nat):=by
     unfold Cb ep;simp;rw[<- hi,<- hj]
    dsimp only[Bg];have e:(g.1,g.2)=g:=rfl;rw[wp,e,hS];have we:I6.wrap (I6.wrap ((((a+b)/2:Nat):Int)+m)-(ep (aO g) 0 a m b l:Nat))=((a+b)/2+m-ep (aO g) 0 a m b l:Nat):=by
     have:=s3.s3;rw[BO (by omega),xK (by omega) (by omega)]
    rw[we];have hSx:ri (aO g) 0 a m b l=(if (a+b)/2<(a+b)/2+m-ep (aO g) 0 a m b l/\(a+b)/2+m-ep (aO g) 0 a m b l<b then bF (aO g) ((a+b)/2) b (if a<ep (aO g) 0 a m b l/\ep (aO g) 0 a m b l<(a+b)/2 then bF (aO g) a ((a+b)/2) (du 0 m (ep (aO g) 0 a m b l) ((a+b)/2+m-ep (aO g) 0 a m b l) l) else du 0 m (ep (aO g) 0 a m b l) ((a+b)/2+m-ep (aO g) 0 a m b l) l) else (if a<ep (aO g) 0 a m b l/\ep (aO g) 0 a m b l<(a+b)/2 then bF (aO g) a ((a+b)/2) (du 0 m (ep (aO g) 0 a m b l) ((a+b)/2+m-ep (aO g) 0 a m b l) l) else du 0 m (ep (aO g) 0 a m b l) ((a+b)/2+m-ep (aO g) 0 a m b l) l)):=by
     conv=>lhs; unfold ri
     rw[if_neg c1,if_neg c2]
    rw[hSx];generalize ep (aO g) 0 a m b l=st at s3 |-;obtain⟨q1,q2,q3,q4,q5,q6,len1,same1,sA1,sB1,len2,same2,sA2,sB2⟩:=s3;obtain⟨o1,o2⟩:=zdb (n:=n) (by omega) hbig
     (λhc=>⟨by omega,by omega,by omega,by omega,by omega,by omega,hdom.sub λz hz=>same1.mem.1 hz,key,hl.sub λz hz=>same1.mem.1 hz,sA1,sB1⟩)
     (λhc=>⟨by omega,by omega,by omega,by omega,by omega,by omega,hdom.sub λz hz=>same2.mem.1 hz,key,hl.sub λz hz=>same2.mem.1 hz,sA2,sB2⟩)
    refine⟨⟨?_,o1⟩,o2⟩;refine⟨by omega,?_,?_,by omega,?_,?_,hbig,hdom⟩<;>(subst hi hj; split<;>omega)
   by_cases cm:m>(a+b)/2
   ·have hd:decide ((m:Int)>((a+b)/2:Nat))=true:=ud8 (by omega);rw[hd];have wi:I6.wrap (I6.wrap ((((a+b)/2:Nat):Int)+m)-b)=((a+b)/2+m-b:Nat):=by
     rw[BO (by omega),xK (by omega) (by omega)]
    rw[wi];obtain⟨k1,k2⟩:=key3 ((a+b)/2+m-b) ((a+b)/2) (by rw[if_pos (by omega)]) (by rw[if_pos (by omega)]);exact⟨⟨λhb=>(by cases hb),λ_=>⟨λhb=>(by cases hb),λ_=>⟨by omega,λ_=>k1,λhb=>by cases hb⟩⟩⟩,k2⟩
   ·have hd:decide ((m:Int)>((a+b)/2:Nat))=false:=udt (by omega);rw[hd];obtain⟨k1,k2⟩:=key3 a m (by rw[if_neg (by omega)]) (by rw[if_neg (by omega)]);exact⟨⟨λhb=>(by cases hb),λ_=>⟨λhb=>(by cases hb),λ_=>⟨by omega,λhb=>(by cases hb),λ_=>k1⟩⟩⟩,k2⟩
def V6:(n:Nat)->SoundMt prog 203 (nr n)
 |0=>by
  have hf:prog.funcs[203]? = some f203:=by kernel_rfl
  obtain⟨c,hb⟩:∃ c,f203.body=some c:=⟨_,rfl⟩;refine⟨rfl,rfl,enters hf hb (by kernel_rfl),λw F l xs v vs rows _ _ _ _ _ _ _ hok=>?_⟩;have h:SymOk 0 xs.1 xs.2.1 xs.2.2.1 xs.2.2.2.1 l:=hok;have h1:=h.am;have h2:=h.mb;have h3:=h.size;omega
 |n+1=>by
  refine vE (wy (Xs (V6 n)) (Λ:=Mk) (fn:=f203) (fr:=zI n) (e:=3) (T:=i64) (ps:=[.d i64,.d i64,.d i64,be]) (rs:=[]) (0,0,0,(λ_=>(0,()),λ_=>True),()) (by kernel_rfl) rfl rfl
   (λc E hc=>qpy hc) (qz4 n)) _ _ λw F l xs vs _ _ _ hok=>?_
  obtain⟨a,m,b,g,rfl⟩:∃ (a m b:Int) (g:be.den),xs=(a,m,b,g,()):=⟨xs.1,xs.2.1,xs.2.2.1,xs.2.2.2.1,rfl⟩;have h:SymOk (n+1) a m b g l:=hok;have h0:=h.a0;have h1:=h.am;have h2:=h.mb;obtain⟨a',rfl⟩:∃ n:Nat,a=n:=⟨a.toNat,by omega⟩;obtain⟨m',rfl⟩:∃ n:Nat,m=n:=⟨m.toNat,by omega⟩;obtain⟨b',rfl⟩:∃ n:Nat,b=n:=⟨b.toNat,by omega⟩;exact zde n a' m' b' g l h
open Go.Ab.Fr renaming val->Jv,need->Jd,br->Jb
def GA {lt:Int->Int->Bool} {w n:Nat} (hw:0<w):(f f' a:Nat)->(l:List Int)->n<f+a->n<f'+a->eV lt w n f a l=eV lt w n f' a l
 |0,0,_,_,_,_=>rfl
 |0,f'+1,a,l,h,_=>by simp only[eV]; rw[if_neg (by omega)]
 |f+1,0,a,l,_,h=>by simp only[eV]; rw[if_neg (by omega)]
 |f+1,f'+1,a,l,h,h'=>by
  simp only[eV];split
  ·exact GA hw f f' _ _ (by omega) (by omega)
  ·rfl
def KG {lt:Int->Int->Bool} {n:Nat}:(f f' w:Nat)->(l:List Int)->0<w->n<=f+w->n<=f'+w->fH lt n f w l=fH lt n f' w l
 |0,0,_,_,_,_,_=>rfl
 |0,f'+1,w,l,hw,h,_=>by simp only[fH]; rw[if_neg (by omega)]
 |f+1,0,w,l,hw,_,h=>by simp only[fH]; rw[if_neg (by omega)]
 |f+1,f'+1,w,l,hw,h,h'=>by
  simp only[fH];split
  ·exact KG f f' _ _ (by omega) (by omega) (by omega)
  ·rfl
abbrev big:Nat:=4611686018427387903
noncomputable def B0:Cx:=ib [] [] (Ak (oX (cx [] []).Γ 202 sS) (oX (cx [] []).Γ 203 (nr big)))
def rO:CxOK prog B0:=iI aG trivial trivial (K4 (sX eI.ct qo3) (sX eI.ct (V6 big)))
abbrev ma:Pt:=⟨63,0,⟨[(1,.d i64),(2,be),(6,.d i64),(7,.d i64),(8,.d i64)],[.al 10000 0,.o 0 3 i64]⟩,⟨[(1,.d i64),(2,be),(6,.d i64),(7,.d i64)],[.al 10000 0,.o 0 3 i64]⟩,⟨[],[]⟩⟩
noncomputable def Jf (x:ma.M.X):Fr ma.Out:=
 let n:=x.1.1; let g:=x.1.2.1; let bs:=x.1.2.2.1; let a:=x.1.2.2.2.1; let b:=x.1.2.2.2.2.1; let l:=x.2.1
 Jb (decide (b<=n))
  (Jd (0<=a)
   (Jd (a<=b)
    (Jd (b<=(l.length:Int))
     (Jd ((l.length:Int)<=4611686018427387903)
      (Jd (jI (g.1,g.2) l)
       (Jv (Rd.next ((n,(g.1,g.2),bs,b,I6.wrap (b+bs),()),((sS.f l (a,b,(g.1,g.2),())).1,())))))))))
  (Jv (Rd.out ((n,(g.1,g.2),bs,a,()),(l,()))))
def zbe:ah prog (aC f183 0) ma.M ma Jf:=
 eH rO
structure InvBlk (n bs a b:Int) (g:be.den) (l:List Int):Prop where
 nl:n=l.length
 big:n<=4611686018427387903
 uS:bs=20
 a0:0<=a
 an:a<=n
 ab:b=a+20
 ord:jI g l
def ly (n a:Int) (g:be.den) (l:List Int):Nat×List Int:=eV (aO g) 20 n.toNat (n.toNat+1) a.toNat l
def Gd (x:ma.M.X):Fr ma.Out:=
 let n:=x.1.1; let g:=x.1.2.1; let bs:=x.1.2.2.1; let a:=x.1.2.2.2.1; let b:=x.1.2.2.2.2.1; let l:=x.2.1
 Jd (InvBlk n bs a b g l) (Jv (Rd.out ((n,g,bs,((ly n a g l).1:Nat),()),((ly n a g l).2,()))))
def KD {lt:Int->Int->Bool} {a b:Nat} {l:List Int} {x:Int} (h:x∈bF lt a b l):x∈l:=by
 rcases udq.1 h with h|h
 ·exact ubo h
 ·rcases udq.1 h with h|h
  ·exact ubo (ubp (oa.1 h))
  ·exact ubp h
def qqa (n bs a b:Int) (g:be.den) (l:List Int) (hinv:InvBlk n bs a b g l) (Q:ma.Out->Prop)
  (hq:Q (Rd.out ((n,g,bs,((ly n a g l).1:Nat),()),((ly n a g l).2,())))):(Jf ((n,g,bs,a,b,()),(l,()))).satP λ
   |.next x'=>InvBlk x'.1.1 x'.1.2.2.1 x'.1.2.2.2.1 x'.1.2.2.2.2.1 x'.1.2.1 x'.2.1/\(x'.1.1-x'.1.2.2.2.1).toNat<(n-a).toNat/\(Gd x').satP Q
   |.out y=>Q (.out y)
   |.back z=>Q (.back z)
   |.pan p=>Q (.pan p):=by
 obtain⟨h0,h1,h2,h3,h4,h5,h6⟩:=hinv;subst h2 h5;dsimp only[Jf,Fr.satP,Ty.den,PT.den];refine⟨λhi=>?_,λhi=>?_⟩
 ·have hle:=ucv hi;have w:I6.wrap (a+20+20)=a+20+20:=IntWalk.i64_in _ (by omega);rw[w];have hlen:(bF (aO g) a.toNat (a+20).toNat l).length=l.length:=th (by omega) (by omega);have hI:InvBlk n 20 (a+20) (a+20+20) g (bF (aO g) a.toNat (a+20).toNat l):=⟨by rw[hlen]; exact h0,h1,rfl,by omega,hle,rfl,h6.sub λx hx=>KD hx⟩;refine⟨h3,by omega,by omega,by omega,h6,hI,by omega,hI,?_⟩;have e:ly n a g l=ly n (a+20) g (bF (aO g) a.toNat (a+20).toNat l):=by
   unfold ly
   conv=>lhs; unfold eV
   rw[if_pos (by omega),show a.toNat+20=(a+20).toNat by omega];exact GA (by omega) _ _ _ _ (by omega) (by omega)
  rw[e] at hq;exact hq
 ·have hgt:=ucf hi;have e:ly n a g l=(a.toNat,l):=by
   unfold ly eV;rw[if_neg (by omega)]
  rw[e] at hq;have e2:((a.toNat:Nat):Int)=a:=by omega
  simp only[e2] at hq;exact hq
def qrr:ah prog (.loop (aC f183 0)) ma.M ma Gd:=by
 refine ah.loop zbe (μ:=λx=>(x.1.1-x.1.2.2.2.1).toNat) ?_ (λx Q h=>h.1);rintro⟨⟨n,g,bs,a,b,_⟩,⟨l,_⟩⟩ hinv Q hq;exact qqa n bs a b g l hinv Q hq.2
abbrev me:Pt:=⟨63,4,⟨[(1,.d i64),(2,be),(6,.d i64),(7,.d i64),(8,.d i64)],[.al 10000 0,.o 0 3 i64]⟩,⟨[(1,.d i64),(2,be),(6,.d i64),(7,.d i64)],[.al 10000 0,.o 0 3 i64]⟩,⟨[],[]⟩⟩
noncomputable def KF:Code:=((Go.Ab.loopB (aC f183 1) 0).getD .skip)
noncomputable def Jp (x:me.M.X):Fr me.Out:=
 let n:=x.1.1; let g:=x.1.2.1; let bs:=x.1.2.2.1; let a:=x.1.2.2.2.1; let b:=x.1.2.2.2.2.1; let l:=x.2.1
 Jb (decide (b<=n))
  (Jd (SymOk big a (I6.wrap (a+bs)) b (g.1,g.2) l)
   (Jv (Rd.next ((n,(g.1,g.2),bs,b,I6.wrap (b+I6.wrap (2*bs)),()),(((nr big).f l (a,I6.wrap (a+bs),b,(g.1,g.2),())).1,())))))
  (Jv (Rd.out ((n,(g.1,g.2),bs,a,()),(l,()))))
def zbl:ah prog KF me.M me Jp:=
 eH rO
structure InvPas (n bs a b:Int) (g:be.den) (l:List Int):Prop where
 nl:n=l.length
 big:n<=4611686018427387903
 uS:0<bs
 bsn:bs<n
 a0:0<=a
 an:a<=n
 ab:b=a+2*bs
 mul:∃ c:Nat,a.toNat=c*(2*bs.toNat)
 dom:ku g l
 key:∃ key:Int->Int,cy (aO g) key l/\∀ k:Nat,a.toNat<=k*bs.toNat->bS key (bf (k*bs.toNat) (k*bs.toNat+bs.toNat) l)
def iw (n bs a:Int) (g:be.den) (l:List Int):Nat×List Int:=eV (aO g) (2*bs.toNat) n.toNat (n.toNat+1) a.toNat l
def Gi (x:me.M.X):Fr me.Out:=
 let n:=x.1.1; let g:=x.1.2.1; let bs:=x.1.2.2.1; let a:=x.1.2.2.2.1; let b:=x.1.2.2.2.2.1; let l:=x.2.1
 Jd (InvPas n bs a b g l) (Jv (Rd.out ((n,g,bs,((iw n bs a g l).1:Nat),()),((iw n bs a g l).2,()))))
def qqp (n bs a b:Int) (g:be.den) (l:List Int) (hinv:InvPas n bs a b g l) (Q:me.Out->Prop)
  (hq:Q (Rd.out ((n,g,bs,((iw n bs a g l).1:Nat),()),((iw n bs a g l).2,())))):(Jp ((n,g,bs,a,b,()),(l,()))).satP λ
   |.next x'=>InvPas x'.1.1 x'.1.2.2.1 x'.1.2.2.2.1 x'.1.2.2.2.2.1 x'.1.2.1 x'.2.1/\(x'.1.1-x'.1.2.2.2.1).toNat<(n-a).toNat/\(Gi x').satP Q
   |.out y=>Q (.out y)
   |.back z=>Q (.back z)
   |.pan p=>Q (.pan p):=by
 obtain⟨h0,h1,h2,h3,h4,h5,h6,⟨c,h7⟩,h8,key,h9,h10⟩:=hinv;subst h6;dsimp only[Jp,Fr.satP,Ty.den,PT.den,nr];have w1:I6.wrap (a+bs)=a+bs:=IntWalk.i64_in _ (by omega);have w2:I6.wrap (2*bs)=2*bs:=IntWalk.i64_in _ (by omega);rw[w1,w2];refine⟨λhi=>?_,λhi=>?_⟩
 ·have hle:=ucv hi;have hseg1:bS key (bf a.toNat (a+bs).toNat l):=by
   have:=h10 (2*c) (by rw[h7,<- uel,ueu c 2]; exact ufa _)
   rwa [show 2*c*bs.toNat=a.toNat by rw[h7,<- uel,ueu c 2],show a.toNat+bs.toNat=(a+bs).toNat by omega] at this
  have hseg2:bS key (bf (a+bs).toNat (a+2*bs).toNat l):=by
   have e:(2*c+1)*bs.toNat=(a+bs).toNat:=by
    rw[uev,show 2*c*bs.toNat=a.toNat by rw[h7,<- uel,ueu c 2]];omega
   have:=h10 (2*c+1) (by omega)
   rwa [e,show(a+bs).toNat+bs.toNat=(a+2*bs).toNat by omega] at this
  have hlen:(bF (aO g) a.toNat (a+2*bs).toNat l).length=l.length:=th (by omega) (by omega);by_cases hbig:a+2*bs+2*bs<=9223372036854775807
  ·have w3:I6.wrap (a+2*bs+2*bs)=a+2*bs+2*bs:=IntWalk.i64_in _ (by omega);rw[w3];have hI:InvPas n bs (a+2*bs) (a+2*bs+2*bs) g (bF (aO g) a.toNat (a+2*bs).toNat l):=⟨by rw[hlen]; exact h0,h1,h2,h3,by omega,hle,rfl,⟨c+1,by rw[uev,<- h7]; omega⟩,h8.sub λx hx=>KD hx,key,h9.sub λx hx=>KD hx,λk hk=>by
    rw[EL (PH (by omega) (by omega) (ufa _)) hk];exact h10 k (by omega)⟩
   refine⟨⟨h4,by omega,by omega,by omega,by omega,by simp; omega,h8,key,h9,hseg1,hseg2⟩,hI,by omega,hI,?_⟩;have e:iw n bs a g l=iw n bs (a+2*bs) g (bF (aO g) a.toNat (a+2*bs).toNat l):=by
    unfold iw
    conv=>lhs; unfold eV
    rw[if_pos (by omega),show a.toNat+2*bs.toNat=(a+2*bs).toNat by omega];exact GA (by omega) _ _ _ _ (by omega) (by omega)
   rw[e] at hq;exact hq
  ·exfalso;omega
 ·have hgt:=ucf hi;have e:iw n bs a g l=(a.toNat,l):=by
   unfold iw eV;rw[if_neg (by omega)]
  rw[e] at hq;have e2:((a.toNat:Nat):Int)=a:=by omega
  simp only[e2] at hq;exact hq
def qr5:ah prog (.loop KF) me.M me Gi:=by
 refine ah.loop zbl (μ:=λx=>(x.1.1-x.1.2.2.2.1).toNat) ?_ (λx Q h=>h.1);rintro⟨⟨n,g,bs,a,b,_⟩,⟨l,_⟩⟩ hinv Q hq;exact qqp n bs a b g l hinv Q hq.2
noncomputable def WE:Nat->St->Option Tr:=λ_=>me.han B0.Γ me.M Gi
abbrev lZ:Pt:=⟨63,2,⟨[(1,.d i64),(2,be),(6,.d i64)],[.al 10000 0,.o 0 3 i64]⟩,⟨[],[.al 10000 0,.o 0 3 i64]⟩,⟨[],[]⟩⟩
noncomputable def Fd (x:lZ.M.X):Fr lZ.Out:=
 let n:=x.1.1; let g:=x.1.2.1; let bs:=x.1.2.2.1; let l:=x.2.1
 let r:=iw n bs 0 (g.1,g.2) l
 Jb (decide (bs<n))
  (Jd (InvPas n bs 0 (I6.wrap (2*bs)) (g.1,g.2) l)
   (Jb (decide (I6.wrap ((r.1:Int)+bs)<n))
    (Jd (SymOk big r.1 (I6.wrap ((r.1:Int)+bs)) n (g.1,g.2) r.2)
     (Jv (Rd.next ((n,(g.1,g.2),I6.wrap (bs*2),()),(((nr big).f r.2 ((r.1:Int),I6.wrap ((r.1:Int)+bs),n,(g.1,g.2),())).1,())))))
    (Jv (Rd.next ((n,(g.1,g.2),I6.wrap (bs*2),()),(r.2,()))))))
  (Jv (Rd.out ((),(l,()))))
def qpx {E:Env}:cH prog E WE (aC f183 1) 0:=
 Kd (b:=KF) (by kernel_rfl) (by kernel_rfl) (ah.han rO rfl qr5)
def zbc:ah prog (aC f183 1) lZ.M lZ Fd:=
 ah.of_run rO (bs:=0) (Λ:=WE) rfl rfl rfl (λE=>qpx) (λx=>by kernel_rfl)
structure InvAll (n bs:Int) (g:be.den) (l:List Int):Prop where
 nl:n=l.length
 big:n<=4611686018427387903
 uS:0<bs
 dom:ku g l
 key:∃ key:Int->Int,cy (aO g) key l/\xW key bs.toNat l
def Gb (x:lZ.M.X):Fr lZ.Out:=
 let n:=x.1.1; let g:=x.1.2.1; let bs:=x.1.2.2.1; let l:=x.2.1
 Jd (InvAll n bs g l) (Jv (Rd.out ((),(fH (aO g) n.toNat n.toNat bs.toNat l,()))))
def qp7 (n bs:Int) (g:be.den) (l:List Int) (hinv:InvAll n bs g l) (Q:lZ.Out->Prop)
  (hq:Q (Rd.out ((),(fH (aO g) n.toNat n.toNat bs.toNat l,())))):(Fd ((n,g,bs,()),(l,()))).satP λ
   |.next x'=>InvAll x'.1.1 x'.1.2.2.1 x'.1.2.1 x'.2.1/\(x'.1.1-x'.1.2.2.1).toNat<(n-bs).toNat/\(Gb x').satP Q
   |.out y=>Q (.out y)
   |.back z=>Q (.back z)
   |.pan p=>Q (.pan p):=by
 obtain⟨h0,h1,h2,h3,key,h4,h5⟩:=hinv;dsimp only[Fd,Ty.den,PT.den,nr];refine⟨λhi=>?_,λhi=>?_⟩
 ·have hlt:=ucv hi;have w1:I6.wrap (2*bs)=2*bs:=IntWalk.i64_in _ (by omega);have w2:I6.wrap (bs*2)=bs*2:=IntWalk.i64_in _ (by omega);have hr:=yl (w:=2*bs.toNat) (n:=n.toNat) (by omega) (n.toNat+1) 0 l (by omega) (by omega) (by omega) ⟨0,by simp⟩ h4 (λk hk=>by omega);obtain⟨p1,p2,p3⟩:=T5 (n:=n.toNat) (by omega) (by omega) h4 h5;have hpas:kZ (aO g) bs.toNat n.toNat l=if (iw n bs 0 g l).1+bs.toNat<n.toNat then bF (aO g) (iw n bs 0 g l).1 n.toNat (iw n bs 0 g l).2 else (iw n bs 0 g l).2:=rfl
  have hstep:fH (aO g) n.toNat n.toNat bs.toNat l=fH (aO g) n.toNat n.toNat (bs*2).toNat (kZ (aO g) bs.toNat n.toNat l):=by
   obtain⟨f,hf⟩:∃ f,n.toNat=f+1:=⟨n.toNat-1,by omega⟩
   conv=>lhs; rw[show fH (aO g) n.toNat n.toNat bs.toNat l=fH (aO g) n.toNat (f+1) bs.toNat l by rw[<- hf]]
   simp only[fH];rw[if_pos (by omega),show(bs*2).toNat=2*bs.toNat by omega];exact KG _ _ _ _ (by omega) (by omega) (by omega)
  have hI:InvAll n (bs*2) g (kZ (aO g) bs.toNat n.toNat l):=⟨by omega,h1,by omega,h3.sub λx hx=>p2.mem.1 hx,key,h4.sub λx hx=>p2.mem.1 hx,by rw[show(bs*2).toNat=2*bs.toNat by omega]; exact p1⟩;have hfin:InvAll n (bs*2) g (kZ (aO g) bs.toNat n.toNat l)/\(n-bs*2).toNat<(n-bs).toNat/\InvAll n (bs*2) g (kZ (aO g) bs.toNat n.toNat l)/\Q (Rd.out ((),(fH (aO g) n.toNat n.toNat (bs*2).toNat (kZ (aO g) bs.toNat n.toNat l),()))):=⟨hI,by omega,hI,by rw[<- hstep]; exact hq⟩;rw[w1,w2];have hb:(eV (aO g) (2*bs.toNat) n.toNat (n.toNat+1) 0 l)=iw n bs 0 g l:=rfl;rw[hb] at hr;refine⟨⟨h0,h1,h2,hlt,ufb _,by omega,by omega,⟨0,by simp⟩,h3,key,h4,λk _=>h5 k⟩,?_⟩;have e:(g.1,g.2)=g:=rfl;generalize iw n bs 0 g l=r at hr hpas |-;obtain⟨⟨c,hc⟩,q2,q3,q4,q5,q6,q7⟩:=hr;have w3:I6.wrap ((r.1:Int)+bs)=r.1+bs:=IntWalk.i64_in _ (by omega);rw[w3];refine⟨λhj=>?_,λhj=>?_⟩
  ·have hj':=ucv hj;rw[if_pos (by omega)] at hpas;have hd:=q6;have hm1:2*c*bs.toNat=r.1:=by rw[hc,<- uel,ueu c 2]
   have hm2:(2*c+1)*bs.toNat=r.1+bs.toNat:=by rw[uev,hm1]
   have s1:bS key (bf r.1 (r.1+bs.toNat) r.2):=by
    rw[EL hd (ufa _),<- hm1];exact h5 (2*c)
   have s2:bS key (bf (r.1+bs.toNat) n.toNat r.2):=by
    have:bf (r.1+bs.toNat) n.toNat r.2=bf (r.1+bs.toNat) (r.1+bs.toNat+bs.toNat) r.2:=by
     unfold bf;rw[ua1 (by omega),ua1 (by omega)]
    rw[this,EL hd (by omega),<- hm2];exact h5 (2*c+1)
   refine⟨⟨by omega,by omega,by omega,by omega,by omega,by simp; omega,h3.sub λx hx=>q5.mem.1 hx,key,h4.sub λx hx=>q5.mem.1 hx,?_,?_⟩,?_⟩
   ·rw[show((r.1:Int)+bs).toNat=r.1+bs.toNat by omega];exact s1
   ·rw[show((r.1:Int)+bs).toNat=r.1+bs.toNat by omega];exact s2
   ·rw[hpas] at hfin;exact hfin
  ·have hj':=ucf hj;rw[if_neg (by omega)] at hpas;rw[hpas] at hfin;exact hfin
 ·have hge:=ucf hi;have:fH (aO g) n.toNat n.toNat bs.toNat l=l:=by
   rw[KG _ 0 _ _ (by omega) (by omega) (by omega)];rfl
  rw[this] at hq;exact hq
def qro:ah prog (.loop (aC f183 1)) lZ.M lZ Gb:=by
 refine ah.loop zbc (μ:=λx=>(x.1.1-x.1.2.2.1).toNat) ?_ (λx Q h=>h.1);rintro⟨⟨n,g,bs,_⟩,⟨l,_⟩⟩ hinv Q hq;exact qp7 n bs g l hinv Q hq.2
open Go.Ab.Fr renaming val->Jv,need->Jd,br->Jb
noncomputable def zfz:Nat->St->Option Tr
 |0=>ma.han B0.Γ ma.M Gd
 |_=>lZ.han B0.Γ lZ.M Gb
noncomputable def DO:Mt:=⟨3,i64,[.d i64,be],[],λl x=>(bA (aO x.2.1) l,()),λl x=>[x.1=l.length,(l.length:Int)<=4611686018427387903,jI x.2.1 l]⟩
noncomputable def Ra (l:List Int) (x:aq [.d i64,be]):Fr (List Int×ae []):=
 let n:=x.1; let g:=x.2.1
 let r:=ly n 0 (g.1,g.2) l
 Jd (InvBlk n 20 0 20 (g.1,g.2) l)
 (Jd ((0:Int)<=r.1)
  (Jd ((r.1:Int)<=n)
   (Jd (n<=(r.2.length:Int))
    (Jd ((r.2.length:Int)<=4611686018427387903)
     (Jd (jI (g.1,g.2) r.2)
      (Jd (InvAll n 20 (g.1,g.2) (sS.f r.2 ((r.1:Int),n,(g.1,g.2),())).1)
       (Jv (fH (aO (g.1,g.2)) n.toNat n.toNat (20:Int).toNat (sS.f r.2 ((r.1:Int),n,(g.1,g.2),())).1,()))))))))
def zci:SoundMt prog 183 DO:=
 vE (wy rO (Λ:=zfz) (fn:=f183) (fr:=Ra) (e:=3) (T:=i64) (ps:=[.d i64,be]) (rs:=[]) (0,(λ_=>(0,()),λ_=>True),()) (by kernel_rfl) rfl rfl
  (λc E hc=>Su hc (by kernel_rfl) (b0:=aC f183 0) (b1:=aC f183 1) (by kernel_rfl) (by kernel_rfl) (ah.han rO rfl qrr) (ah.han rO rfl qro)) (λl x=>by kernel_rfl)) _ _ λw F l xs vs _ _ _ hok=>by
  obtain⟨n,g,rfl⟩:∃ (n:Int) (g:be.den),xs=(n,g,()):=⟨xs.1,xs.2.1,rfl⟩;have hok':(n:Int)=(List.length (α:=Int) l:Int)/\(List.length (α:=Int) l:Int)<=4611686018427387903/\jI g l:=hok;obtain⟨h1,h2,h3,key,h4⟩:=hok';subst h1;have hr:=yl (key:=key) (lt:=aO g) (w:=20) (n:=List.length (α:=Int) l) (by omega) (List.length (α:=Int) l+1) 0 l (by omega) (by omega) rfl ⟨0,by simp⟩ h4 (λk hk=>by omega);have hS:=zcj h4;unfold LD at hS;have hb:ly (List.length (α:=Int) l:Int) 0 g l=eV (aO g) 20 (List.length (α:=Int) l) (List.length (α:=Int) l+1) 0 l:=rfl;dsimp only[Ra,Fr.ok,Fr.get,Ty.den,PT.den,sS,DO];have e:(g.1,g.2)=g:=rfl;simp only[e,hb];simp only at hS;generalize eV (aO g) 20 (List.length (α:=Int) l) (List.length (α:=Int) l+1) 0 l=r at hr hS |-;obtain⟨p1,p2,p3⟩:=hr.last h4;have q2:=hr.le;have q4:=hr.len;have hm:∀ x∈r.2,x∈l:=λx hx=>hr.same.mem.1 hx;have hm2:∀ x∈bF (aO g) r.1 (List.length (α:=Int) l) r.2,x∈l:=λx hx=>p2.mem.1 hx;refine⟨⟨⟨rfl,h2,rfl,by omega,by omega,rfl,h3,key,h4⟩,by omega,by omega,by omega,by omega,⟨h3.sub hm,key,h4.sub hm⟩,⟨ufv (λn:Nat=>(n:Int)) p3.symm,h2,by omega,h3.sub hm2,key,h4.sub hm2,p1⟩,uT⟩,?_⟩;show(fH (aO g) (List.length (α:=Int) l) (List.length (α:=Int) l) 20 (bF (aO g) r.1 (List.length (α:=Int) l) r.2),())=(bA (aO g) l,());rw[hS]
noncomputable def Xt:Cx:=ib [] [] (oX (cx [] []).Γ 183 DO)
def Xu:CxOK prog Xt:=iI aG trivial trivial (sX eI.ct zci)
noncomputable def DN:Mt:=⟨3,i64,[be],[],λl x=>(bA (aO x.1) l,()),λl x=>[(l.length:Int)<=4611686018427387903,jI x.1 l]⟩
noncomputable def qm3 (l:List Int) (x:aq [be]):Fr (List Int×ae []):=
 let b:=(x.1.1,x.1.2);let a:=(l.length:Int);Jd (a=l.length) (Jd (a<=4611686018427387903) (Jd (jI b l) (Jv ((DO.f l (a,b,())).1,()))))
def zcb:SoundMt prog 146 DN:=
 vE (wy Xu (Λ:=dM) (fn:=f146) (fr:=qm3) (e:=3) (T:=i64) (ps:=[be]) (rs:=[]) ((λ_=>(0,()),λ_=>True),()) (by kernel_rfl) rfl rfl
  (λc E _=>bL c 0) (λl x=>by kernel_rfl)) _ _ λw F l xs vs _ _ _ hok=>by
  obtain⟨g,rfl⟩:∃ g:be.den,xs=(g,()):=⟨xs.1,rfl⟩;exact⟨⟨rfl,hok.1,hok.2,uT⟩,rfl⟩
open Go.Ab.Fr renaming val->Jv,need->Jd,br->Jb
noncomputable def Xa:Cx:=cx [(210,vl),(184,je)] []
def Mr:CxOK prog Xa:=aJ aG ⟨S1,Kq,uT⟩ trivial
def fJ:List Int->Bool
 |a::b::r=>decide (a<=b)&&fJ (b::r)
 |_=>true
def Va:(l:List Int)->(a b:Int)->fJ (l++[a,b])=(fJ (l++[a])&&decide (a<=b))
 |[],a,b=>by simp[fJ]
 |[x],a,b=>by simp[fJ]
 |x::y::l,a,b=>by
  have:=Va (y::l) a b;simp only[uc2,fJ] at this |-;rw[this,uea]
abbrev nX:Pt:=⟨21,0,⟨[(0,.d bE),(3,.d i64)],[]⟩,⟨[],[]⟩,⟨[(2,.d .bool)],[]⟩⟩
def Jz (x:nX.M.X):Fr nX.Out:=
 let a:=x.1.2.1;Jb (decide (a>0))
  (Jd (0<=a/\a<x.1.1.length)
   (Jd (0<=I6.wrap (a-1)/\I6.wrap (a-1)<x.1.1.length)
    (Jb (vl.f (x.1.1.getD a.toNat i64.dflt,x.1.1.getD (I6.wrap (a-1)).toNat i64.dflt,())).1
     (Jv (Rd.back ((false,()),())))
     (Jv (Rd.next ((x.1.1,I6.wrap (a-1),()),()))))))
  (Jv (Rd.out ((),())))
def zbv:ah prog (aC f193 0) nX.M nX Jz:=
 eH Mr
def rT (l:List Int) (i:Int):Prop:=-1<=i/\i<l.length/\(l.length:Int)<=9223372036854775807
def Nu (x:nX.M.X):Fr nX.Out:=
 Jd (rT x.1.1 x.1.2.1) (Jb (fJ (x.1.1.take (x.1.2.1+1).toNat)) (Jv (Rd.out ((),()))) (Jv (Rd.back ((false,()),()))))
def zch (l:List Int) (k:Nat) (h:k+1<l.length):fJ (l.take (k+2))=(fJ (l.take (k+1))&&decide (l[k]<=l[k+1])):=by
 have e1:l.take (k+1)=l.take k++[l[k]]:=(uas (show k<l.length by omega)).symm;have e2:l.take (k+2)=l.take k++[l[k],l[k+1]]:=by
  have e3:l.take (k+2)=l.take (k+1)++[l[k+1]]:=(uas h).symm;rw[e3,e1,ucp];rfl
 rw[e2,e1,Va]
def qq2 (l:List Int) (i:Int) (hinv:rT l i) (Q:nX.Out->Prop)
  (hq:(Jb (fJ (l.take (i+1).toNat)) (Jv (Rd.out ((),()))) (Jv (Rd.back ((false,()),()))):Fr nX.Out).satP Q) :
  (Jz ((l,i,()),())).satP λ
   |.next x'=>rT x'.1.1 x'.1.2.1/\x'.1.2.1.toNat<i.toNat/\(Nu x').satP Q
   |.out y=>Q (.out y)
   |.back z=>Q (.back z)
   |.pan p=>Q (.pan p):=by
 obtain⟨h1,h2,h3⟩:=hinv;refine⟨λhi=>?_,λhi=>?_⟩
 ·have hi':i>0:=ucv hi;obtain⟨k,hk⟩:∃ k:Nat,i=k+1:=⟨(i-1).toNat,by omega⟩;subst hk;have hw:I6.wrap ((k:Int)+1-1)=k:=by rw[show(k:Int)+1-1=k by omega]; exact IntWalk.i64_in _ (by omega)
  have hl:k+1<l.length:=by omega
  have g1:l.getD ((k:Int)+1).toNat i64.dflt=l[k+1]:=by
   rw[show((k:Int)+1).toNat=k+1 by omega,uah,uap hl]; rfl
  have g2:l.getD (k:Int).toNat i64.dflt=l[k]:=by
   rw[show(k:Int).toNat=k by omega,uah,uap (show k<l.length by omega)]; rfl
  have e1:((k:Int)+1+1).toNat=k+2:=by omega
  rw[e1,zch l k hl] at hq;dsimp only[Jz,Fr.satP,vl];rw[hw,g1,g2];have hI:rT l k:=⟨by omega,by omega,h3⟩;refine⟨⟨(show(0:Int)<=(k:Int)+1 by omega),h2⟩,⟨(show(0:Int)<=(k:Int) by omega),(show(k:Int)<(l.length:Int) by omega)⟩,λhc=>?_,λhc=>?_⟩
  ·have hc':¬ l[k]<=l[k+1]:=by have:=ucv hc; exact ufk.2 this
   rw[udt hc',ueb] at hq;exact hq.2 rfl
  ·have hc':l[k]<=l[k+1]:=by have:=ucf hc; exact ufl.1 this
   rw[ud8 hc',uek] at hq;exact⟨hI,by omega,hI,by rw[show((k:Int)+1).toNat=k+1 by omega]; exact hq⟩
 ·have hi':¬ i>0:=ucf hi;have hle:(i+1).toNat<=1:=by omega
  have:fJ (l.take (i+1).toNat)=true:=by
   rcases ueo (i+1).toNat 1 with h|h
   ·rw[show(i+1).toNat=0 by omega]; rfl
   ·rw[show(i+1).toNat=1 by omega];cases l<;>rfl
  rw[this] at hq;exact hq.1 rfl
def qsg:ah prog (.loop (aC f193 0)) nX.M nX Nu:=by
 refine ah.loop (n:=21) (id:=0) zbv (inv:=λx=>rT x.1.1 x.1.2.1) (μ:=λx=>x.1.2.1.toNat) ?_ (λx Q h=>h.1);rintro⟨⟨l,i,_⟩,_⟩ hinv Q hq;exact qq2 l i hinv Q hq.2
def Hm:Ct:=⟨[.d bE],[.bool],λx=>(fJ x.1,()),λ_=>[]⟩
def qm4 (x:aq [.d bE]):Fr (ae [.bool]):=
 Jd (rT x.1 (I6.wrap (x.1.length-1))) (Jb (fJ (x.1.take (I6.wrap (x.1.length-1)+1).toNat)) (Jv (true,())) (Jv (false,())))
def zcd:aa prog 193 Hm:=
 conv (bz Mr qsg (fr:=qm4) (ps:=[.d bE]) (rs:=[.bool])) _ _ λw F xs vs hr _=>by
  obtain⟨l,_⟩:=xs;obtain⟨v,vs',rfl,hv,_⟩:=hr;have hwf:=aD.wf hv.2.2;have hlen:l.length<=maxLen:=hwf.1;have hw:I6.wrap ((l.length:Int)-1)=l.length-1:=IntWalk.i64_in _ (by simp only[maxLen] at hlen; omega);have ht:l.take ((l.length:Int)-1+1).toNat=l:=ua1 (by omega);refine⟨⟨?_,λ_=>uT,λ_=>uT⟩,?_⟩
  ·show rT l (I6.wrap ((l.length:Int)-1));rw[hw];simp only[maxLen] at hlen;exact⟨by omega,by omega,by omega⟩
  ·show(if fJ (l.take (I6.wrap ((l.length:Int)-1)+1).toNat)=true then (true,()) else (false,()))=(fJ l,());rw[hw,ht];cases fJ l<;>rfl
noncomputable def Xb:Cx:=cx [(193,Hm),(184,je)] []
def Ms:CxOK prog Xb:=aJ aG ⟨zcd,Kq,uT⟩ trivial
open Go.Ab.Fr renaming val->Jv,need->Jd,br->Jb
def QP (x:aq [.d ak]):Fr (ae [.bool]):=
 let b:=(false,());let a:=x.1.2;Jb (bif decide (x.1.1>=0) then decide (x.1.1<8) else false) (Jb (bif decide (a.2.2.2.1>=1) then decide (a.2.2.2.1<=10000) else false) (Jb (Hm.f ([0,a.2.2.1,I6.wrap (a.1-1),I6.wrap (a.2.1-1),999999999999999],())).1 (Jv (decide (a.2.2.1<a.1),())) (Jv b)) (Jv b)) (Jv b)
def qmr:aa prog 160 (aL [.d ak] [.bool] QP):=
 aH Ms f160
def QO (x:aq [.d i64,.d i64]):Fr (ae [i64]):=
 let a:=je.f (x.2.1,());Jb (je.f (x.1,())).1 (Jb a.1 (Jv (0,())) (Jv (-1,()))) (Jb a.1 (Jv (1,())) (Jb (decide (x.1<x.2.1)) (Jv (-1,())) (Jb (decide (x.1>x.2.1)) (Jv (1,())) (Jv (0,())))))
def qmp:aa prog 148 (aL [.d i64,.d i64] [i64] QO):=
 aH Ms f148
def QR (x:aq [.d bR,.d i64]):Fr (ae [.bool]):=
 Jv (bif decide (x.2.1>=(vk.f ((x.1.1,x.1.2.1,()),())).1.1) then decide (x.2.1<(vk.f ((x.1.1,x.1.2.1,()),())).1.2.1) else false,())
def qmv:aa prog 43 (aL [.d bR,.d i64] [.bool] QR):=
 aH Mq f43
def QU (x:aq [.d bR]):Fr (ae [i64]):=
 Jv (I6.wrap ((vk.f ((x.1.1,x.1.2.1,()),())).1.2.1-(vk.f ((x.1.1,x.1.2.1,()),())).1.1),())
def qmx:aa prog 68 (aL [.d bR] [i64] QU):=
 aH Mq f68
def JN {n:Int} (h:Wf i64 n) : -9223372036854775808<=n/\n<=9223372036854775807:=h
def Wu {n:Int} (h : -9223372036854775808<=n/\n<=9223372036854775807):(n = -9223372036854775808/\I6.wrap (n-1)=9223372036854775807)\/(-9223372036854775808<n/\I6.wrap (n-1)=n-1):=by
 by_cases hn:n = -9223372036854775808
 ·left;subst hn;exact⟨rfl,by kernel_rfl⟩
 ·right;exact⟨by omega,cD (by omega)⟩
def qdw (p l g d s:Int) (hl : -9223372036854775808<=l/\l<=9223372036854775807) (hg : -9223372036854775808<=g/\g<=9223372036854775807) :
  (fJ [0,d,I6.wrap (l-1),I6.wrap (g-1),999999999999999]&&decide (d<l))=decide (0<=d/\d<l/\l<=g/\g<=1000000000000000):=by
 rw[udv];simp only[fJ,uc9,ucs];rcases Wu hl with ⟨h1,h2⟩|⟨h1,h2⟩<;>rcases Wu hg with ⟨h3,h4⟩|⟨h3,h4⟩<;>rw[h2,h4]
 ·omega
 ·omega
 ·omega
 ·constructor
  ·rintro⟨⟨a1,a2,a3,a4,_⟩,a5⟩;exact⟨a1,a5,by omega,by omega⟩
  ·rintro⟨a1,a2,a3,a4⟩;exact⟨⟨a1,by omega,by omega,by omega,uT⟩,a2⟩
def OY:aa prog 160 jO:=
 conv qmr _ _ (λw F x vs hr _=>by
  obtain⟨⟨p,l,g,d,s,_⟩,_⟩:=x;obtain⟨v,vs',rfl,hv,_⟩:=hr;have hwf:=aD.wf hv.2.2;refine⟨by simp[aE,Fr.ok,QP],?_⟩;have hb:=qdw p l g d s (JN hwf.2.1) (JN hwf.2.2.1);show(if (bif decide (p>=0) then decide (p<8) else false)=true then (if (bif decide (s>=1) then decide (s<=10000) else false)=true then (if fJ [0,d,I6.wrap (l-1),I6.wrap (g-1),999999999999999]=true then (decide (d<l),()) else (false,())) else (false,())) else (false,()))=(kG p l g d s,());have h1:(if fJ [0,d,I6.wrap (l-1),I6.wrap (g-1),999999999999999]=true then ((decide (d<l),()):Bool×Unit) else (false,()))=(decide (0<=d/\d<l/\l<=g/\g<=1000000000000000),()):=by
   rw[<- hb];cases fJ [0,d,I6.wrap (l-1),I6.wrap (g-1),999999999999999]<;>rfl
  rw[h1];have h2:∀ (a b c:Bool),(if a=true then (if b=true then ((c,()):Bool×Unit) else (false,())) else (false,()))=(a&&(b&&c),()):=λa b c=>by cases a<;>cases b<;>rfl
  rw[h2];congr 1;rw[udv];simp only[kG,ua9,uc9,ucs];exact⟨λ⟨⟨a1,a2⟩,⟨a3,a4⟩,a5⟩=>⟨a1,a2,a3,a4,a5⟩,λ⟨a1,a2,a3,a4,a5⟩=>⟨⟨a1,a2⟩,⟨a3,a4⟩,a5⟩⟩)
def CE (a b:Int):Int:=if a<b then -1 else if b<a then 1 else 0
def GR:Ct:=⟨[.d i64,.d i64],[i64],λx=>(CE x.1 x.2.1,()),λ_=>[]⟩
def qc5:aa prog 148 GR:=
 conv qmp _ _ (λ_ _ x _ _ _=>by
  obtain⟨a,b,_⟩:=x;refine⟨by simp[aE,Fr.ok,QO],?_⟩;show(if decide (a<b)=true then ((-1:Int),()) else if decide (a>b)=true then (1,()) else (0,()))=(if a<b then -1 else if b<a then 1 else 0,());by_cases h1:a<b
  ·rw[if_pos (ud8 h1),if_pos h1]
  ·rw[if_neg (by simp[h1]),if_neg h1];by_cases h2:b<a
   ·rw[if_pos (ud8 h2),if_pos h2]
   ·rw[if_neg (by simpa using h2),if_neg h2])
def qog (a b d:Int):(bif decide (d>=(sO (a,b,())).1) then decide (d<(sO (a,b,())).2.1) else false)=cE a b d:=by
 unfold sO;by_cases h:dd (a,b,())=true
 ·rw[if_pos h];obtain⟨h1,h2,h3⟩:=jY.1 h;simp only[ua9,cE];rw[udv];simp only[uc9,ucs,Ty.den,PT.den];constructor
  ·rintro⟨a1,a2⟩; exact⟨h1,h3,a1,a2⟩
  ·rintro⟨_,_,a1,a2⟩; exact⟨a1,a2⟩
 ·rw[if_neg h];have h':¬ (1<=a/\a<b/\b<=292195):=λhh=>h (jY.2 hh);simp only[ua9,cE];rw[udv];simp only[uc9,ucs];constructor
  ·rintro⟨a1,a2⟩;have a1':(0:Int)<=d:=a1;have a2':d<(0:Int):=a2;omega
  ·rintro⟨a1,a2,a3,a4⟩;exact absurd ⟨a1,by omega,a2⟩ h'
def sL:aa prog 43 eN:=
 conv qmv _ _ (λ_ _ x _ _ _=>by
  obtain⟨⟨a,b,_⟩,d,_⟩:=x;refine⟨by simp[aE,Fr.ok,QR],?_⟩;exact ufv (·,()) (qog a b d))
def kV (a b:Int):Int:=if dd (a,b,())=true then b-a else 0
def mO:Ct:=⟨[.d bR],[i64],λx=>(kV x.1.1 x.1.2.1,()),λ_=>[]⟩
def S8:aa prog 68 mO:=
 conv qmx _ _ (λ_ _ x _ _ _=>by
  obtain⟨⟨a,b,_⟩,_⟩:=x;refine⟨by simp[aE,Fr.ok,QU],?_⟩;show(I6.wrap ((sO (a,b,())).2.1-(sO (a,b,())).1),())=(kV a b,());unfold sO kV;by_cases h:dd (a,b,())=true
  ·rw[if_pos h,if_pos h];obtain⟨h1,h2,h3⟩:=jY.1 h;have hw:I6.wrap (b-a)=b-a:=cD (by omega);exact ufv (·,()) hw
  ·rw[if_neg h,if_neg h];rfl)
open Go.Ab.Fr renaming val->Jv,need->Jd,br->Jb
abbrev aS:Ty:=.pair i64 (.pair i64 .unit)
noncomputable def Xc:Cx:=cx [(160,jO),(195,jO)] []
def iY:CxOK prog Xc:=aJ aG ⟨OY,OW,uT⟩ trivial
abbrev nM:Pt:=⟨26,0,⟨[(5,.d i64),(0,.d (.sl ak)),(1,.d (.sl ak))],[]⟩,⟨[],[]⟩,⟨[(4,.d .bool)],[]⟩⟩
abbrev tO:Type:=aq [.d (.sl ak)]×bW []
def AX (e:(ak.den×ak.den)) (s:tO):Fr (tO ⊕ nM.R.X):=
 Jb (!(e.1.1==e.2.1&&(e.1.2.1==e.2.2.1&&(e.1.2.2.1==e.2.2.2.1&&(e.1.2.2.2.1==e.2.2.2.2.1&&(e.1.2.2.2.2.1==e.2.2.2.2.2.1&&true)))))) (Jv (.inr ((false,()),()))) (Jv (.inl ((s.1.1,()),())))
def ru (x:nM.M.X):Int×List (ak.den×ak.den)×tO:=(x.1.1,x.1.2.1.zip x.1.2.2.1,x.1.2.2,x.2)
def R1 (x:nM.M.X):Prop:=x.1.2.1.length=x.1.2.2.1.length
def qwm (s:tO):nM.E.X:=((),())
def qfb:tO:=(aW _,aZ _)
def HA:nM.R.X:=(aW _,aZ _)
def qti:ah prog (.loop (aC f103 0)) nM.M nM (FL AX ru R1 qwm Rd.back qfb HA):=
 ox iY (λ_ _=>.n (.z .o)) ak.dflt ak.dflt (λx=>x.1.2.1) (λx=>x.1.2.2.1) (λx=>((x.1.2.1.length:Nat):Int)) (λx s=>((I6.wrap (x.1.1+1),x.1.2.1,s.1),s.2)) (λ_ h=>⟨rfl,h⟩)
def AB (y:nM.M.X):tO ⊕ nM.R.X:=bc AX ((ru y).2.1.drop (ru y).1.toNat) (ru y).2.2
def qvi (y:nM.M.X):Prop:=d7 AX ((ru y).2.1.drop (ru y).1.toNat) (ru y).2.2
abbrev nG:Pt:=⟨26,0,⟨[(14,.d i64),(13,.d i64),(12,.d (.sl ak)),(1,.d (.sl ak))],[]⟩,⟨[],[]⟩,⟨[(4,.d .bool)],[]⟩⟩
abbrev tM:Type:=aq [.d (.sl ak)]×bW []
def AS (e:(ak.den×ak.den)) (s:tM):Fr (tM ⊕ nG.R.X):=
 Jb (!(e.1.1==e.2.1&&(e.1.2.1==e.2.2.1&&(e.1.2.2.1==e.2.2.2.1&&(e.1.2.2.2.1==e.2.2.2.2.1&&(e.1.2.2.2.2.1==e.2.2.2.2.2.1&&true)))))) (Jv (.inr ((false,()),()))) (Jv (.inl ((s.1.1,()),())))
def rk (x:nG.M.X):Int×List (ak.den×ak.den)×tM:=(x.1.1,x.1.2.2.1.zip x.1.2.2.2.1,x.1.2.2.2,x.2)
def Rs (x:nG.M.X):Prop:=x.1.2.1=(x.1.2.2.1.length:Int)/\x.1.2.2.1.length=x.1.2.2.2.1.length
def qwc (s:tM):nG.E.X:=((),())
def qe3:tM:=(aW _,aZ _)
def H8:nG.R.X:=(aW _,aZ _)
def qsn:ah prog (.loop (aC f157 0)) nG.M nG (FL AS rk Rs qwc Rd.back qe3 H8):=
 ox iY (λ_ _=>.n (.z .o)) ak.dflt ak.dflt (λx=>x.1.2.2.1) (λx=>x.1.2.2.2.1) (λx=>x.1.2.1) (λx s=>((I6.wrap (x.1.1+1),x.1.2.1,x.1.2.2.1,s.1),s.2)) (λ_ h=>h)
def A8 (y:nG.M.X):tM ⊕ nG.R.X:=bc AS ((rk y).2.1.drop (rk y).1.toNat) (rk y).2.2
def qu7 (y:nG.M.X):Prop:=d7 AS ((rk y).2.1.drop (rk y).1.toNat) (rk y).2.2
abbrev ki:Pt:=⟨32,0,⟨[(8,.d i64),(7,.d i64),(6,.d (.sl ak)),(0,.d (.sl ak)),(3,.d i64)],[]⟩,⟨[(0,.d (.sl ak))],[]⟩,⟨[(2,.d .bool)],[]⟩⟩
abbrev gg:Type:=aq [.d (.sl ak),.d i64]×bW []
def Be (e:ak.den) (s:gg):Fr (gg ⊕ ki.R.X):=
 Jb (bif decide (e.1<=s.1.2.1) then true else !(jO.f ((e.1,e.2.1,e.2.2.1,e.2.2.2.1,e.2.2.2.2.1,()),())).1) (Jv (.inr ((false,()),()))) (Jv (.inl ((s.1.1,e.1,()),())))
def rE (x:ki.M.X):Int×List ak.den×gg:=(x.1.1,x.1.2.2.1,x.1.2.2.2,x.2)
def RF (x:ki.M.X):Prop:=x.1.2.1=(x.1.2.2.1.length:Int)
def qK (s:gg):ki.E.X:=((s.1.1,()),())
def qi:gg:=(aW _,aZ _)
def HI:ki.R.X:=(aW _,aZ _)
def qty:ah prog (.loop (aC f143 0)) ki.M ki (FL Be rE RF qK Rd.back qi HI):=
 ln iY (λ_ _=>.n .o) ak.dflt (λx=>x.1.2.1) (λx s=>((I6.wrap (x.1.1+1),x.1.2.1,x.1.2.2.1,s.1),s.2)) (λ_ h=>h)
def pt (y:ki.M.X):gg ⊕ ki.R.X:=bc Be ((rE y).2.1.drop (rE y).1.toNat) (rE y).2.2
def qvw (y:ki.M.X):Prop:=d7 Be ((rE y).2.1.drop (rE y).1.toNat) (rE y).2.2
abbrev j6:Pt:=⟨40,0,⟨[(3,.d i64),(0,.d (.sl ak))],[]⟩,⟨[],[]⟩,⟨[(2,.d .bool)],[]⟩⟩
def QY (x:j6.M.X):Fr j6.Out:=
 let d:=Rd.back ((false,()),());let c:=Rd.next ((I6.wrap (x.1.1+1),x.1.2.1,()),());let b:=List.length x.1.2.1;let a:=List.getD x.1.2.1 (Int.toNat x.1.1) ak.dflt;Jb (decide (x.1.1 < ↑b)) (Jd (0<=x.1.1/\x.1.1 < ↑b) (Jb (!(jO.f ((a.1,a.2.1,a.2.2.1,a.2.2.2.1,a.2.2.2.2.1,()),())).1) (Jv d) (Jb (decide (x.1.1>0)) (Jd (0<=x.1.1/\x.1.1 < ↑b) (Jd (0<=I6.wrap (x.1.1-1)/\I6.wrap (x.1.1-1) < ↑b) (Jb (decide (a.1<=(List.getD x.1.2.1 (I6.wrap (x.1.1-1)).toNat ak.dflt).1)) (Jv d) (Jv c)))) (Jv c)))) (Jv (Rd.out ((),())))
def zbo:ah prog (aC f166 0) j6.M j6 QY:=
 eH iY
abbrev ra:Type:=(aq []×bW [])×Int×ak.den
def tZ (e:ak.den) (s:ra):Fr (ra ⊕ j6.R.X):=
 let b:=.inr ((false,()),());let a:=.inl (((),()),s.2.1+1,e);Jb (!(jO.f ((e.1,e.2.1,e.2.2.1,e.2.2.2.1,e.2.2.2.2.1,()),())).1) (Jv b) (Jb (decide (s.2.1>0)) (Jb (decide (e.1<=s.2.2.1)) (Jv b) (Jv a)) (Jv a))
def mF (x:j6.M.X):Int×List ak.den×ra:=(x.1.1,x.1.2.1,(x.1.2.2,x.2),x.1.1,x.1.2.1.getD (x.1.1-1).toNat ak.dflt)
def JF (x:j6.M.X):Prop:=True
def Tm (s:ra):j6.E.X:=((),())
def P4:ra:=((aW _,aZ _),0,ak.dflt)
def CJ:j6.R.X:=(aW _,aZ _)
def qth:ah prog (.loop (aC f166 0)) j6.M j6 (FL tZ mF JF Tm Rd.back P4 CJ):=by
 refine Mf zbo tZ mF JF Tm Rd.back P4 CJ ?_ ?_
 ·rintro⟨⟨i,l,s⟩,m⟩ hg h0 h1 hb e he Q h;have h0:0<=i:=h0;have hd:l.getD i.toNat ak.dflt=e:=J3 he;have hq1:=KM h0 h1 hb;have hq2:=TF hd;have hq3:∀ {b:Bool},b=decide (i>0)->b=true->0<=i-1/\i-1<(l.length:Int):=λhb1 hb2=>TG h1 hb1 hb2;have hw:=Wv h0 h1 hb;dsimp only[mF,QY,Fr.satP] at h |-;simp only[hd,hw,hq1] at h |-;refine⟨λ_=>?_,λhn=>absurd h1 (ucf hn)⟩
  repeat' first
   |exact h
   |exact⟨h0,h1⟩
   |exact hq3 rfl (by assumption)
   |(refine h _ ?_ trivial; simp only[hq2])
   |refine⟨?_,?_⟩
   |(intro (hc:_=true); replace h:=h.1 hc)
   |(intro (hc:_=false); replace h:=h.2 hc)
 ·rintro⟨⟨i,l,s⟩,m⟩ hg h1 Q h;exact⟨λhn=>absurd (ucv hn) h1,λ_=>h⟩
def AA (y:j6.M.X):ra ⊕ j6.R.X:=bc tZ ((mF y).2.1.drop (mF y).1.toNat) (mF y).2.2
def qvh (y:j6.M.X):Prop:=d7 tZ ((mF y).2.1.drop (mF y).1.toNat) (mF y).2.2
abbrev lc:Pt:=⟨37,0,⟨[(8,.d i64),(7,.d i64),(6,.d (.sl aS)),(0,.d (.sl aS)),(3,.d i64)],[]⟩,⟨[(0,.d (.sl aS))],[]⟩,⟨[(2,.d .bool)],[]⟩⟩
abbrev iz:Type:=aq [.d (.sl aS),.d i64]×bW []
def Bb (e:aS.den) (s:iz):Fr (iz ⊕ lc.R.X):=
 Jb (bif bif bif decide (e.1<=s.1.2.1) then true else decide (e.1>200) then true else decide (e.2.1<0) then true else decide (e.2.1>100000)) (Jv (.inr ((false,()),()))) (Jv (.inl ((s.1.1,e.1,()),())))
def r5 (x:lc.M.X):Int×List aS.den×iz:=(x.1.1,x.1.2.2.1,x.1.2.2.2,x.2)
def R6 (x:lc.M.X):Prop:=x.1.2.1=(x.1.2.2.1.length:Int)
def An (s:iz):lc.E.X:=((s.1.1,()),())
def zb:iz:=(aW _,aZ _)
def HG:lc.R.X:=(aW _,aZ _)
def qtn:ah prog (.loop (aC f192 0)) lc.M lc (FL Bb r5 R6 An Rd.back zb HG):=
 ln iY (λ_ _=>.n .o) aS.dflt (λx=>x.1.2.1) (λx s=>((I6.wrap (x.1.1+1),x.1.2.1,x.1.2.2.1,s.1),s.2)) (λ_ h=>h)
def tE (y:lc.M.X):iz ⊕ lc.R.X:=bc Bb ((r5 y).2.1.drop (r5 y).1.toNat) (r5 y).2.2
def qvl (y:lc.M.X):Prop:=d7 Bb ((r5 y).2.1.drop (r5 y).1.toNat) (r5 y).2.2
abbrev jz:Pt:=⟨57,0,⟨[(3,.d i64),(0,.d (.sl aS))],[]⟩,⟨[],[]⟩,⟨[(2,.d .bool)],[]⟩⟩
def QW (x:jz.M.X):Fr jz.Out:=
 let d:=Rd.back ((false,()),());let c:=Rd.next ((I6.wrap (x.1.1+1),x.1.2.1,()),());let b:=List.length x.1.2.1;let a:=List.getD x.1.2.1 (Int.toNat x.1.1) aS.dflt;Jb (decide (x.1.1 < ↑b)) (Jd (0<=x.1.1/\x.1.1 < ↑b) (Jd (decide (a.1<0)=false->0<=x.1.1/\x.1.1 < ↑b) (Jd ((bif decide (a.1<0) then true else decide (a.1>200))=false->0<=x.1.1/\x.1.1 < ↑b) (Jd ((bif bif decide (a.1<0) then true else decide (a.1>200) then true else decide (a.2.1<0))=false->0<=x.1.1/\x.1.1 < ↑b) (Jb (bif bif bif decide (a.1<0) then true else decide (a.1>200) then true else decide (a.2.1<0) then true else decide (a.2.1>100000)) (Jv d) (Jb (decide (x.1.1>0)) (Jd (0<=x.1.1/\x.1.1 < ↑b) (Jd (0<=I6.wrap (x.1.1-1)/\I6.wrap (x.1.1-1) < ↑b) (Jb (decide (a.1<=(List.getD x.1.2.1 (I6.wrap (x.1.1-1)).toNat aS.dflt).1)) (Jv d) (Jv c)))) (Jv c))))))) (Jv (Rd.out ((),())))
def zbm:ah prog (aC f238 0) jz.M jz QW:=
 eH iY
abbrev qZ:Type:=(aq []×bW [])×Int×aS.den
def tY (e:aS.den) (s:qZ):Fr (qZ ⊕ jz.R.X):=
 let b:=.inr ((false,()),());let a:=.inl (((),()),s.2.1+1,e);Jb (bif bif bif decide (e.1<0) then true else decide (e.1>200) then true else decide (e.2.1<0) then true else decide (e.2.1>100000)) (Jv b) (Jb (decide (s.2.1>0)) (Jb (decide (e.1<=s.2.2.1)) (Jv b) (Jv a)) (Jv a))
def mD (x:jz.M.X):Int×List aS.den×qZ:=(x.1.1,x.1.2.1,(x.1.2.2,x.2),x.1.1,x.1.2.1.getD (x.1.1-1).toNat aS.dflt)
def JE (x:jz.M.X):Prop:=True
def Tk (s:qZ):jz.E.X:=((),())
def P2:qZ:=((aW _,aZ _),0,aS.dflt)
def CH:jz.R.X:=(aW _,aZ _)
def qte:ah prog (.loop (aC f238 0)) jz.M jz (FL tY mD JE Tk Rd.back P2 CH):=by
 refine Mf zbm tY mD JE Tk Rd.back P2 CH ?_ ?_
 ·rintro⟨⟨i,l,s⟩,m⟩ hg h0 h1 hb e he Q h;have h0:0<=i:=h0;have hd:l.getD i.toNat aS.dflt=e:=J3 he;have hq1:=KM h0 h1 hb;have hq2:=TF hd;have hq3:∀ {b:Bool},b=decide (i>0)->b=true->0<=i-1/\i-1<(l.length:Int):=λhb1 hb2=>TG h1 hb1 hb2;have hw:=Wv h0 h1 hb;dsimp only[mD,QW,Fr.satP] at h |-;simp only[hd,hw,hq1] at h |-;refine⟨λ_=>?_,λhn=>absurd h1 (ucf hn)⟩
  repeat' first
   |exact h
   |exact⟨h0,h1⟩
   |exact λ_=>⟨h0,h1⟩
   |exact hq3 rfl (by assumption)
   |(refine h _ ?_ trivial; simp only[hq2])
   |refine⟨?_,?_⟩
   |(intro (hc:_=true); replace h:=h.1 hc)
   |(intro (hc:_=false); replace h:=h.2 hc)
 ·rintro⟨⟨i,l,s⟩,m⟩ hg h1 Q h;exact⟨λhn=>absurd (ucv hn) h1,λ_=>h⟩
def A9 (y:jz.M.X):qZ ⊕ jz.R.X:=bc tY ((mD y).2.1.drop (mD y).1.toNat) (mD y).2.2
def qve (y:jz.M.X):Prop:=d7 tY ((mD y).2.1.drop (mD y).1.toNat) (mD y).2.2
abbrev nL:Pt:=⟨22,0,⟨[(3,.d i64),(0,.d bE)],[]⟩,⟨[],[]⟩,⟨[(2,.d .bool)],[]⟩⟩
abbrev xk:Type:=aq []×bW []
def jB (e:i64.den) (s:xk):Fr (xk ⊕ nL.R.X):=
 Jb (bif decide (e<0) then true else decide (e>100000)) (Jv (.inr ((false,()),()))) (Jv (.inl ((),())))
def rt (x:nL.M.X):Int×List i64.den×xk:=(x.1.1,x.1.2.1,x.1.2.2,x.2)
def R0 (x:nL.M.X):Prop:=True
def qwl (s:xk):nL.E.X:=((),())
def qfa:xk:=(aW _,aZ _)
def CI:nL.R.X:=(aW _,aZ _)
def qtg:ah prog (.loop (aC f239 0)) nL.M nL (FL jB rt R0 qwl Rd.back qfa CI):=
 ln iY (λe _=>.n (.g (decide (e<0)) false .o)) i64.dflt (λx=>((x.1.2.1.length:Nat):Int)) (λx s=>((I6.wrap (x.1.1+1),x.1.2.1,s.1),s.2)) (λ_ _=>rfl)
def Uf (y:nL.M.X):xk ⊕ nL.R.X:=bc jB ((rt y).2.1.drop (rt y).1.toNat) (rt y).2.2
def qvg (y:nL.M.X):Prop:=d7 jB ((rt y).2.1.drop (rt y).1.toNat) (rt y).2.2
open Go.Ab.Fr renaming val->Jv,need->Jd,br->Jb
def qkr (x:aq [.d (.sl ak),.d (.sl ak)]):Fr (ae [.bool]):=
 let a:=((0,x.1,x.2.1,()),());let b:=AB a;Jb (((List.length x.1):Int) != ((List.length x.2.1):Int)) (Jv (false,())) (Jd (InL (R1 a) (ru a)) (Jd (qvi a) (Jb (bi b) (Jv (true,())) (Jv ((ba HA b).1.1,())))))
def qks:aa prog 103 (aL [.d (.sl ak),.d (.sl ak)] [.bool] qkr):=
 bz iY qti
def qh2 (x:aq [.d (.sl ak),.d (.sl ak)]):Fr (ae [.bool]):=
 let a:=((0,((List.length x.1):Int),x.1,x.2.1,()),());let b:=A8 a;Jb (((List.length x.1):Int) != ((List.length x.2.1):Int)) (Jv (false,())) (Jd (InL (Rs a) (rk a)) (Jd (qu7 a) (Jb (bi b) (Jv (true,())) (Jv ((ba H8 b).1.1,())))))
def qh3:aa prog 157 (aL [.d (.sl ak),.d (.sl ak)] [.bool] qh2):=
 bz iY qsn
def qlq (x:aq [.d (.sl ak)]):Fr (ae [.bool]):=
 let a:=((0,((List.length x.1):Int),x.1,x.1,-1,()),());let c:=pt a;let b:=((List.length (qK (cZ qi c)).1.1):Int);Jd (InL (RF a) (rE a)) (Jd (qvw a) (Jb (bi c) (Jv (bif decide (b>=1) then decide (b<=8) else false,())) (Jv ((ba HI c).1.1,()))))
def qlr:aa prog 143 (aL [.d (.sl ak)] [.bool] qlq):=
 bz iY qty
def qkn (x:aq [.d (.sl ak)]):Fr (ae [.bool]):=
 let b:=((List.length x.1):Int);let a:=((0,x.1,()),());let c:=AA a;Jb (bif decide (b<1) then true else decide (b>8)) (Jv (false,())) (Jd (InL (JF a) (mF a)) (Jd (qvh a) (Jb (bi c) (Jv (true,())) (Jv ((ba CJ c).1.1,())))))
def qko:aa prog 166 (aL [.d (.sl ak)] [.bool] qkn):=
 bz iY qth
def qk4 (x:aq [.d (.sl aS)]):Fr (ae [.bool]):=
 let a:=((0,((List.length x.1):Int),x.1,x.1,-1,()),());let b:=tE a;Jd (InL (R6 a) (r5 a)) (Jd (qvl a) (Jb (bi b) (Jv (decide (((List.length (An (cZ zb b)).1.1):Int)<=100),())) (Jv ((ba HG b).1.1,()))))
def qk5:aa prog 192 (aL [.d (.sl aS)] [.bool] qk4):=
 bz iY qtn
def qkh (x:aq [.d (.sl aS)]):Fr (ae [.bool]):=
 let a:=((0,x.1,()),());let b:=A9 a;Jb (decide (((List.length x.1):Int)>100)) (Jv (false,())) (Jd (InL (JE a) (mD a)) (Jd (qve a) (Jb (bi b) (Jv (true,())) (Jv ((ba CH b).1.1,())))))
def qki:aa prog 238 (aL [.d (.sl aS)] [.bool] qkh):=
 bz iY qte
def qkl (x:aq [.d bE]):Fr (ae [.bool]):=
 let a:=((0,x.1,()),());let b:=Uf a;Jd (InL (R0 a) (rt a)) (Jd (qvg a) (Jb (bi b) (Jv (true,())) (Jv ((ba CI b).1.1,()))))
def qkm:aa prog 239 (aL [.d bE] [.bool] qkl):=
 bz iY qtg
def np {T:Type} {l:List T} (h:l.length<=maxLen):(l.length:Int)<=9223372036854775807:=by
 simp only[maxLen] at h;omega
def fw {w:World} {F:Nat->Prop} {t:Ty} {l:List t.den} {v:Value} (h:Gu prog w F (.d (.sl t)) l v):(l.length:Int)<=9223372036854775807:=np (aD.wf (t:=.sl t) h.2.2).1
def cY (l:List Int):Bool:=l.all λn=>decide (0<=n/\n<=100000)
def mN:Ct:=⟨[.d bE],[.bool],λx=>(cY x.1,()),λ_=>[]⟩
def Qi (l:List Int):bi (bc jB l ((),()))=cY l:=by
 induction l with
 |nil=>rfl
 |cons e r ih=>
  have e1:cY (e::r)=(decide (0<=e/\e<=100000)&&cY r):=rfl;rw[e1,<- ih];by_cases h:(bif decide (e<0) then true else decide (e>100000))=true
  ·have hg:(jB e ((),())).get = .inr ((false,()),()):=if_pos h;simp only[bc,hg];have:decide (0<=e/\e<=100000)=false:=by
    simp only[ubw,udr,ucs] at h;exact udt (by omega)
   rw[this];rfl
  ·have hg:(jB e ((),())).get = .inl ((),()):=if_neg h;simp only[bc,hg];have:decide (0<=e/\e<=100000)=true:=by
    simp only[ubw,udr,ucs,not_or] at h;exact ud8 (by omega)
   rw[this,uej]
def Qj:aa prog 239 mN:=
 conv qkm _ _ (λw F x vs hr _=>by
  obtain⟨l,_⟩:=x;obtain⟨v,vs',rfl,hv,_⟩:=hr;have hlen:=fw hv;refine⟨⟨⟨uT,ufb _,ub2 _,hlen⟩,iv (step:=jB) (λe s=>⟨λ_=>uT,λ_=>uT⟩) _ _,λ_=>uT,λ_=>uT⟩,?_⟩;show(if bi (bc jB l ((),()))=true then ((true,()):Bool×Unit) else ((ba CI (bc jB l ((),()))).1.1,()))=(cY l,());by_cases h:bi (bc jB l ((),()))=true
  ·rw[if_pos h,<- Qi,h]
  ·have h':bi (bc jB l ((),()))=false:=by simpa using h
   have hc:=Ro (d:=CI) (c:=((false,()),())) (step:=jB) (λe s y hy=>by
    by_cases hb:(bif decide (e<0) then true else decide (e>100000))=true
    ·have hg:(jB e s).get = .inr ((false,()),()):=if_pos hb;rw[hg] at hy;exact(Sum.inr.inj hy).symm
    ·have hg:(jB e s).get = .inl ((),()):=if_neg hb;rw[hg] at hy;cases hy) l ((),()) h'
   rw[if_neg h,hc,<- Qi,h'])
open Go.Ab.Fr renaming val->Jv,need->Jd,br->Jb
def lu {T σ:Type} (p:T->σ->Bool) (f:T->σ->σ):List T->σ->Bool
 |[],_=>true
 |e::r,s=>p e s&&lu p f r (f e s)
def kL {T σ:Type} (f:T->σ->σ):List T->σ->σ
 |[],s=>s
 |e::r,s=>kL f r (f e s)
def lz {T σ ρ:Type} {step:T->σ->Fr (σ ⊕ ρ)} {p:T->σ->Bool} {f:T->σ->σ} {c:ρ} (h:∀ e s,(step e s).get=if p e s=true then .inl (f e s) else .inr c) :
  (l:List T)->(s:σ)->bc step l s=if lu p f l s=true then .inl (kL f l s) else .inr c
 |[],s=>rfl
 |e::r,s=>by
  simp only[bc,lu,kL];by_cases hp:p e s=true
  ·have hg:=h e s;rw[if_pos hp] at hg;simp only[hg,hp,uej];exact lz h r (f e s)
  ·have hg:=h e s;rw[if_neg hp] at hg;have hp':p e s=false:=by simpa using hp
   simp only[hg,hp',Bool.false_and];rfl
def fN (c:ak.den):Bool:=kG c.1 c.2.1 c.2.2.1 c.2.2.2.1 c.2.2.2.2.1
def oB:List ak.den->Int->Bool
 |[],_=>true
 |c::r,last=>(decide (last<c.1)&&fN c)&&oB r c.1
def ji (l:List ak.den):Bool:=decide (1<=l.length/\l.length<=8)&&oB l (-1)
def oG:Ct:=⟨[.d (.sl ak)],[.bool],λx=>(ji x.1,()),λ_=>[]⟩
def zdp (e:ak.den) (s:gg):(Be e s).get=if (decide (s.1.2.1<e.1)&&fN e)=true then .inl ((s.1.1,e.1,()),()) else .inr ((false,()),()):=by
 show(if (bif decide (e.1<=s.1.2.1) then true else !(fN e))=true then _ else _)=_;have hb:(bif decide (e.1<=s.1.2.1) then true else !(fN e)) = !(decide (s.1.2.1<e.1)&&fN e):=by
  have:decide (e.1<=s.1.2.1) = !decide (s.1.2.1<e.1):=by
   rw[udv];simp only[uct,ucs,uau];exact ufl.symm
  rw[this];cases decide (s.1.2.1<e.1)<;>cases fN e<;>rfl
 rw[hb];cases (decide (s.1.2.1<e.1)&&fN e)<;>rfl
def zdn (l l0:List ak.den) (last:Int):lu (λ(e:ak.den) (s:gg)=>decide (s.1.2.1<e.1)&&fN e) (λe s=>((s.1.1,e.1,()),())) l ((l0,last,()),())=oB l last:=by
 induction l generalizing last with
 |nil=>rfl
 |cons c r ih=>
  show((decide (last<c.1)&&fN c)&&_)=((decide (last<c.1)&&fN c)&&_);rw[ih]
def zdo (l l0:List ak.den) (last:Int):(kL (λ(e:ak.den) (s:gg)=>(((s.1.1,e.1,()),()):gg)) l ((l0,last,()),())).1.1=l0:=by
 induction l generalizing last with
 |nil=>rfl
 |cons c r ih=>exact ih c.1
def qra (n:Nat):(bif decide ((n:Int)>=1) then decide ((n:Int)<=8) else false)=decide (1<=n/\n<=8):=by
 rw[udv];simp only[ua9,uc9,ucs];omega
def qrb (n:Nat):(bif decide ((n:Int)<1) then true else decide ((n:Int)>8)) = !decide (1<=n/\n<=8):=by
 rw[udv];simp only[ubw,udr,uct,ucs,uau];omega
def VD:aa prog 143 oG:=
 conv qlr _ _ (λw F x vs hr _=>by
  obtain⟨l,_⟩:=x;obtain⟨v,vs',rfl,hv,_⟩:=hr;have hlen:=fw hv;refine⟨⟨⟨rfl,ufb _,ub2 _,hlen⟩,iv (step:=Be) (λe s=>⟨λ_=>uT,λ_=>uT⟩) _ _,λ_=>uT,λ_=>uT⟩,?_⟩;have hres:=lz zdp l ((l,-1,()),());rw[zdn] at hres;have hres':pt ((0,(l.length:Int),l,l,-1,()),())=if oB l (-1)=true then .inl _ else .inr _:=hres
  show(if bi (pt ((0,(l.length:Int),l,l,-1,()),()))=true then ((bif decide (((qK (cZ qi (pt ((0,(l.length:Int),l,l,-1,()),())))).1.1.length:Int)>=1) then decide (((qK (cZ qi (pt ((0,(l.length:Int),l,l,-1,()),())))).1.1.length:Int)<=8) else false,()):Bool×Unit) else ((ba HI (pt ((0,(l.length:Int),l,l,-1,()),()))).1.1,()))=(ji l,());rw[hres'];unfold ji;cases oB l (-1) with
  |true=>
   have he:(qK (cZ qi (Sum.inl (kL (λ(e:ak.den) (s:gg)=>(((s.1.1,e.1,()),()):gg)) l ((l,-1,()),())):gg ⊕ ki.R.X))).1.1=l:=zdo l l (-1);show((bif decide (((qK (cZ qi (Sum.inl (kL (λ(e:ak.den) (s:gg)=>(((s.1.1,e.1,()),()):gg)) l ((l,-1,()),())):gg ⊕ ki.R.X))).1.1.length:Int)>=1) then decide (((qK (cZ qi (Sum.inl (kL (λ(e:ak.den) (s:gg)=>(((s.1.1,e.1,()),()):gg)) l ((l,-1,()),())):gg ⊕ ki.R.X))).1.1.length:Int)<=8) else false,()):Bool×Unit)=_;rw[he];exact ufv (·,()) ((qra l.length).trans (uek _).symm)
  |false=>
   rw[ueb];rfl)
def BQ:List ak.den->Int->ak.den->Bool
 |[],_,_=>true
 |c::r,i,p=>(fN c&&(!decide (i>0) || decide (p.1<c.1)))&&BQ r (i+1) c
def qdv {c:ak.den} (h:fN c=true) : -1<c.1:=by
 unfold fN kG at h;have h':=(ucv h).1;exact Int.lt_of_lt_of_le (by decide) h'
def qau (l:List ak.den) (i:Int) (p:ak.den) (hi:0<=i):BQ l i p=oB l (if i>0 then p.1 else -1):=by
 induction l generalizing i p with
 |nil=>rfl
 |cons c r ih=>
  simp only[BQ,oB];rw[ih (i+1) c (by omega),if_pos (by omega)];congr 1;by_cases h:i>0
  ·rw[if_pos h,ud8 h,Bool.and_comm];rfl
  ·rw[if_neg h,udt h];cases hc:fN c with
   |true=>
    rw[ud8 (qdv hc)];rfl
   |false=>rw[ueb]; rfl
def qyn (e:ak.den) (s:ra):(tZ e s).get=if (fN e&&(!decide (s.2.1>0) || decide (s.2.2.1<e.1)))=true then .inl (((),()),s.2.1+1,e) else .inr ((false,()),()):=by
 show(if (!(fN e))=true then _ else if decide (s.2.1>0)=true then (if decide (e.1<=s.2.2.1)=true then _ else _) else _)=_;have:decide (e.1<=s.2.2.1) = !decide (s.2.2.1<e.1):=by
  rw[udv];simp only[uct,ucs,uau];exact ufl.symm
 rw[this];cases fN e<;>cases decide (s.2.1>0)<;>cases decide (s.2.2.1<e.1)<;>rfl
def qym (l:List ak.den) (u:Unit×Unit) (i:Int) (p:ak.den):lu (λ(e:ak.den) (s:ra)=>fN e&&(!decide (s.2.1>0) || decide (s.2.2.1<e.1))) (λe s=>(((),()),s.2.1+1,e)) l (u,i,p)=BQ l i p:=by
 induction l generalizing u i p with
 |nil=>rfl
 |cons c r ih=>
  show((fN c&&(!decide (i>0) || decide (p.1<c.1)))&&_)=((fN c&&(!decide (i>0) || decide (p.1<c.1)))&&_);rw[ih]
def qya:aa prog 166 oG:=
 conv qko _ _ (λw F x vs hr _=>by
  obtain⟨l,_⟩:=x;obtain⟨v,vs',rfl,hv,_⟩:=hr;have hlen:=fw hv;refine⟨⟨λ_=>uT,λ_=>⟨⟨uT,ufb _,ub2 _,hlen⟩,iv (step:=tZ) (λe s=>⟨λ_=>uT,λ_=>⟨λ_=>⟨λ_=>uT,λ_=>uT⟩,λ_=>uT⟩⟩) _ _,λ_=>uT,λ_=>uT⟩⟩,?_⟩;have hres:=lz qyn l (((),()),0,l.getD (0-1:Int).toNat ak.dflt);have hz:(if (0:Int)>0 then (l.getD (0-1:Int).toNat ak.dflt).1 else -1) = -1:=if_neg (by decide);rw[qym,qau _ _ _ (ufb _),hz] at hres;have hres':AA ((0,l,()),())=if oB l (-1)=true then .inl _ else .inr _:=hres
  show(if (bif decide ((l.length:Int)<1) then true else decide ((l.length:Int)>8))=true then ((false,()):Bool×Unit) else if bi (AA ((0,l,()),()))=true then (true,()) else ((ba CJ (AA ((0,l,()),()))).1.1,()))=(ji l,());rw[hres'];unfold ji;rw[qrb];cases decide (1<=l.length/\l.length<=8)<;>cases oB l (-1)<;>rfl)
open Go.Ab.Fr renaming val->Jv,need->Jd,br->Jb
def g9 (u b:Int):Bool:=decide (u<=200/\0<=b/\b<=100000)
def oA:List aS.den->Int->Bool
 |[],_=>true
 |c::r,last=>(decide (last<c.1)&&g9 c.1 c.2.1)&&oA r c.1
def mL (l:List aS.den):Bool:=decide (l.length<=100)&&oA l (-1)
def pY:Ct:=⟨[.d (.sl aS)],[.bool],λx=>(mL x.1,()),λ_=>[]⟩
def qbi (u b last:Int):(bif bif bif decide (u<=last) then true else decide (u>200) then true else decide (b<0) then true else decide (b>100000)) = !(decide (last<u)&&g9 u b):=by
 rw[udv];simp only[g9,ubw,udr,uct,uba,ucs,uau];omega
def qbk (u b:Int):(bif bif bif decide (u<0) then true else decide (u>200) then true else decide (b<0) then true else decide (b>100000)) = !(decide (-1<u)&&g9 u b):=by
 rw[udv];simp only[g9,ubw,udr,uct,uba,ucs,uau];omega
def qyl (e:aS.den) (s:iz):(Bb e s).get=if (decide (s.1.2.1<e.1)&&g9 e.1 e.2.1)=true then .inl ((s.1.1,e.1,()),()) else .inr ((false,()),()):=by
 show(if (bif bif bif decide (e.1<=s.1.2.1) then true else decide (e.1>200) then true else decide (e.2.1<0) then true else decide (e.2.1>100000))=true then _ else _)=_;have hb:=qbi e.1 e.2.1 s.1.2.1;rw[hb];cases (decide (s.1.2.1<e.1)&&g9 e.1 e.2.1)<;>rfl
def qyj (l l0:List aS.den) (last:Int):lu (λ(e:aS.den) (s:iz)=>decide (s.1.2.1<e.1)&&g9 e.1 e.2.1) (λe s=>((s.1.1,e.1,()),())) l ((l0,last,()),())=oA l last:=by
 induction l generalizing last with
 |nil=>rfl
 |cons c r ih=>
  show((decide (last<c.1)&&g9 c.1 c.2.1)&&_)=((decide (last<c.1)&&g9 c.1 c.2.1)&&_);rw[ih]
def qyk (l l0:List aS.den) (last:Int):(kL (λ(e:aS.den) (s:iz)=>(((s.1.1,e.1,()),()):iz)) l ((l0,last,()),())).1.1=l0:=by
 induction l generalizing last with
 |nil=>rfl
 |cons c r ih=>exact ih c.1
def qrc (n:Nat):decide ((n:Int)<=100)=decide (n<=100):=by
 rw[udv];simp only[ucs];omega
def qrd (n:Nat):decide ((n:Int)>100) = !decide (n<=100):=by
 rw[udv];simp only[uct,ucs,uau];omega
def NT:aa prog 192 pY:=
 conv qk5 _ _ (λw F x vs hr _=>by
  obtain⟨l,_⟩:=x;obtain⟨v,vs',rfl,hv,_⟩:=hr;have hlen:=fw hv;refine⟨⟨⟨rfl,ufb _,ub2 _,hlen⟩,iv (step:=Bb) (λe s=>⟨λ_=>uT,λ_=>uT⟩) _ _,λ_=>uT,λ_=>uT⟩,?_⟩;have hres:=lz qyl l ((l,-1,()),());rw[qyj] at hres;have hres':tE ((0,(l.length:Int),l,l,-1,()),())=if oA l (-1)=true then .inl _ else .inr _:=hres
  show(if bi (tE ((0,(l.length:Int),l,l,-1,()),()))=true then ((decide (((An (cZ zb (tE ((0,(l.length:Int),l,l,-1,()),())))).1.1.length:Int)<=100),()):Bool×Unit) else ((ba HG (tE ((0,(l.length:Int),l,l,-1,()),()))).1.1,()))=(mL l,());rw[hres'];unfold mL;cases oA l (-1) with
  |true=>
   have he:(An (cZ zb (Sum.inl (kL (λ(e:aS.den) (s:iz)=>(((s.1.1,e.1,()),()):iz)) l ((l,-1,()),())):iz ⊕ lc.R.X))).1.1=l:=qyk l l (-1);show((decide (((An (cZ zb (Sum.inl (kL (λ(e:aS.den) (s:iz)=>(((s.1.1,e.1,()),()):iz)) l ((l,-1,()),())):iz ⊕ lc.R.X))).1.1.length:Int)<=100),()):Bool×Unit)=_;rw[he];exact ufv (·,()) ((qrc l.length).trans (uek _).symm)
  |false=>
   rw[ueb];rfl)
def BP:List aS.den->Int->aS.den->Bool
 |[],_,_=>true
 |c::r,i,p=>((decide (-1<c.1)&&g9 c.1 c.2.1)&&(!decide (i>0) || decide (p.1<c.1)))&&BP r (i+1) c
def qat (l:List aS.den) (i:Int) (p:aS.den) (hi:0<=i) (hp:i>0 -> -1<p.1):BP l i p=oA l (if i>0 then p.1 else -1):=by
 induction l generalizing i p with
 |nil=>rfl
 |cons c r ih=>
  simp only[BP,oA];by_cases hc : -1<c.1
  ·rw[ih (i+1) c (by omega) (λ_=>hc),if_pos (by omega)];congr 1;rw[ud8 hc,uej];by_cases h:i>0
   ·rw[if_pos h,ud8 h,Bool.and_comm];rfl
   ·rw[if_neg h,udt h,ud8 hc];cases g9 c.1 c.2.1<;>rfl
  ·have h1:decide (-1<c.1)=false:=udt hc;have h2:decide ((if i>0 then p.1 else -1)<c.1)=false:=by
    refine udt λh=>hc ?_;by_cases h':i>0
    ·rw[if_pos h'] at h;exact ue0 (hp h') h
    ·rw[if_neg h'] at h;exact h
   rw[h1,h2];rfl
def qye (e:aS.den) (s:qZ):(tY e s).get=if ((decide (-1<e.1)&&g9 e.1 e.2.1)&&(!decide (s.2.1>0) || decide (s.2.2.1<e.1)))=true then .inl (((),()),s.2.1+1,e) else .inr ((false,()),()):=by
 show(if (bif bif bif decide (e.1<0) then true else decide (e.1>200) then true else decide (e.2.1<0) then true else decide (e.2.1>100000))=true then _ else if decide (s.2.1>0)=true then (if decide (e.1<=s.2.2.1)=true then _ else _) else _)=_;have:decide (e.1<=s.2.2.1) = !decide (s.2.2.1<e.1):=by
  rw[udv];simp only[uct,ucs,uau];exact ufl.symm
 have hb:=qbk e.1 e.2.1;rw[this,hb];cases (decide (-1<e.1)&&g9 e.1 e.2.1)<;>cases decide (s.2.1>0)<;>cases decide (s.2.2.1<e.1)<;>rfl
def qyd (l:List aS.den) (u:Unit×Unit) (i:Int) (p:aS.den):lu (λ(e:aS.den) (s:qZ)=>(decide (-1<e.1)&&g9 e.1 e.2.1)&&(!decide (s.2.1>0) || decide (s.2.2.1<e.1))) (λe s=>(((),()),s.2.1+1,e)) l (u,i,p)=BP l i p:=by
 induction l generalizing u i p with
 |nil=>rfl
 |cons c r ih=>
  show(((decide (-1<c.1)&&g9 c.1 c.2.1)&&(!decide (i>0) || decide (p.1<c.1)))&&_)=(((decide (-1<c.1)&&g9 c.1 c.2.1)&&(!decide (i>0) || decide (p.1<c.1)))&&_);rw[ih]
def TM:aa prog 238 pY:=
 conv qki _ _ (λw F x vs hr _=>by
  obtain⟨l,_⟩:=x;obtain⟨v,vs',rfl,hv,_⟩:=hr;have hlen:=fw hv;refine⟨⟨λ_=>uT,λ_=>⟨⟨uT,ufb _,ub2 _,hlen⟩,iv (step:=tY) (λe s=>⟨λ_=>uT,λ_=>⟨λ_=>⟨λ_=>uT,λ_=>uT⟩,λ_=>uT⟩⟩) _ _,λ_=>uT,λ_=>uT⟩⟩,?_⟩;have hres:=lz qye l (((),()),0,l.getD (0-1:Int).toNat aS.dflt);have hz:(if (0:Int)>0 then (l.getD (0-1:Int).toNat aS.dflt).1 else -1) = -1:=if_neg (by decide);rw[qyd,qat _ _ _ (ufb _) (λh=>absurd h (by decide)),hz] at hres;have hres':A9 ((0,l,()),())=if oA l (-1)=true then .inl _ else .inr _:=hres
  show(if decide ((l.length:Int)>100)=true then ((false,()):Bool×Unit) else if bi (A9 ((0,l,()),()))=true then (true,()) else ((ba CH (A9 ((0,l,()),()))).1.1,()))=(mL l,());rw[hres'];unfold mL;rw[qrd];cases decide (l.length<=100)<;>cases oA l (-1)<;>rfl)
open Go.Ab.Fr renaming val->Jv,need->Jd,br->Jb
def gl (a b:ak.den):Bool:=(a.1==b.1&&(a.2.1==b.2.1&&(a.2.2.1==b.2.2.1&&(a.2.2.2.1==b.2.2.2.1&&(a.2.2.2.2.1==b.2.2.2.2.1&&true)))))
def qdu {a b:ak.den}:gl a b=true↔a=b:=by
 obtain⟨a1,a2,a3,a4,a5,_⟩:=a;obtain⟨b1,b2,b3,b4,b5,_⟩:=b;simp only[gl,uc9,ufh,uee,uft]
def dm:List ak.den->List ak.den->Bool
 |[],[]=>true
 |a::l,b::m=>gl a b&&dm l m
 |_,_=>false
def xa:{l m:List ak.den}->(dm l m=true↔l=m)
 |[],[]=>by simp[dm]
 |[],b::m=>by simp[dm]
 |a::l,[]=>by simp[dm]
 |a::l,b::m=>by
  simp only[dm,uc9,udo];rw[qdu,xa]
def iG:Ct:=⟨[.d (.sl ak),.d (.sl ak)],[.bool],λx=>(dm x.1 x.2.1,()),λ_=>[]⟩
def EK:{l m:List ak.den}->l.length=m.length->dm l m=(l.zip m).all λe=>gl e.1 e.2
 |[],[],_=>rfl
 |[],b::m,h=>by cases h
 |a::l,[],h=>by cases h
 |a::l,b::m,h=>by
  simp only[dm,List.zip_cons_cons,ueh];rw[EK (by simpa using h)]
def UH:{l m:List ak.den}->l.length≠m.length->dm l m=false:=λh=>by
 cases hs:dm _ _ with
 |true=>exact absurd (ufv List.length (xa.1 hs)) h
 |false=>rfl
def BR {T σ:Type} (p:T->Bool) (l:List T) (s:σ):lu (λe _=>p e) (λ_ s=>s) l s=l.all p:=by
 induction l with
 |nil=>rfl
 |cons e r ih=>simp only[lu,ueh]; rw[ih]
def qz5 (e:ak.den×ak.den) (s:tO):(AX e s).get=if gl e.1 e.2=true then .inl s else .inr ((false,()),()):=by
 show(if (!(gl e.1 e.2))=true then _ else _)=_;cases gl e.1 e.2<;>rfl
def qaq (e:ak.den×ak.den) (s:tM):(AS e s).get=if gl e.1 e.2=true then .inl s else .inr ((false,()),()):=by
 show(if (!(gl e.1 e.2))=true then _ else _)=_;cases gl e.1 e.2<;>rfl
def S0 (a b:Nat):((a:Int) != (b:Int)) = !decide (a=b):=by
 rw[udv];simp only[ufm,ne_eq,uct,uau];omega
def UG:aa prog 103 iG:=
 conv qks _ _ (λw F x vs hr _=>by
  obtain⟨l,m,_⟩:=x;obtain⟨v,vs',rfl,hv,_⟩:=hr;have hlen:(l.length:Int)<=9223372036854775807:=fw hv;have hne:=S0 l.length m.length;by_cases hlm:l.length=m.length
  ·have hne':((l.length:Int) != (m.length:Int))=false:=by rw[hne,ud8 hlm]; rfl
   have hz:((l.zip m).length:Int)<=9223372036854775807:=by
    rw[udw];omega
   refine⟨⟨λ_=>uT,λ_=>⟨⟨hlm,ufb _,ub2 _,hz⟩,iv (step:=AX) (λe s=>⟨λ_=>uT,λ_=>uT⟩) _ _,λ_=>uT,λ_=>uT⟩⟩,?_⟩;have hres:=lz (p:=λe _=>gl e.1 e.2) (f:=λ_ s=>s) qz5 (l.zip m) ((m,()),());rw[BR,<- EK hlm] at hres;have hres':AB ((0,l,m,()),())=if dm l m=true then .inl _ else .inr _:=hres
   show(if ((l.length:Int) != (m.length:Int))=true then ((false,()):Bool×Unit) else if bi (AB ((0,l,m,()),()))=true then (true,()) else ((ba HA (AB ((0,l,m,()),()))).1.1,()))=(dm l m,());rw[hres',hne'];cases dm l m<;>rfl
  ·have hne':((l.length:Int) != (m.length:Int))=true:=by rw[hne,udt hlm]; rfl
   refine⟨⟨λ_=>uT,λhc=>(by have hc':((l.length:Int) != (m.length:Int))=false:=hc; rw[hne'] at hc'; cases hc')⟩,?_⟩;show(if ((l.length:Int) != (m.length:Int))=true then ((false,()):Bool×Unit) else _)=(dm l m,());rw[hne',UH hlm];rfl)
def qar:aa prog 157 iG:=
 conv qh3 _ _ (λw F x vs hr _=>by
  obtain⟨l,m,_⟩:=x;obtain⟨v,vs',rfl,hv,_⟩:=hr;have hlen:(l.length:Int)<=9223372036854775807:=fw hv;have hne:=S0 l.length m.length;by_cases hlm:l.length=m.length
  ·have hne':((l.length:Int) != (m.length:Int))=false:=by rw[hne,ud8 hlm]; rfl
   have hz:((l.zip m).length:Int)<=9223372036854775807:=by
    rw[udw];omega
   refine⟨⟨λ_=>uT,λ_=>⟨⟨⟨rfl,hlm⟩,ufb _,ub2 _,hz⟩,iv (step:=AS) (λe s=>⟨λ_=>uT,λ_=>uT⟩) _ _,λ_=>uT,λ_=>uT⟩⟩,?_⟩;have hres:=lz (p:=λe _=>gl e.1 e.2) (f:=λ_ s=>s) qaq (l.zip m) ((m,()),());rw[BR,<- EK hlm] at hres;have hres':A8 ((0,(l.length:Int),l,m,()),())=if dm l m=true then .inl _ else .inr _:=hres
   show(if ((l.length:Int) != (m.length:Int))=true then ((false,()):Bool×Unit) else if bi (A8 ((0,(l.length:Int),l,m,()),()))=true then (true,()) else ((ba H8 (A8 ((0,(l.length:Int),l,m,()),()))).1.1,()))=(dm l m,());rw[hres',hne'];cases dm l m<;>rfl
  ·have hne':((l.length:Int) != (m.length:Int))=true:=by rw[hne,udt hlm]; rfl
   refine⟨⟨λ_=>uT,λhc=>(by have hc':((l.length:Int) != (m.length:Int))=false:=hc; rw[hne'] at hc'; cases hc')⟩,?_⟩;show(if ((l.length:Int) != (m.length:Int))=true then ((false,()):Bool×Unit) else _)=(dm l m,());rw[hne',UH hlm];rfl)
open Go.Ab.Fr renaming val->Jv,need->Jd,br->Jb
abbrev cr:Ty:=.pair bR (.pair cj (.pair (.sl ak) .unit))
abbrev ar:Ty:=.pair i64 (.pair i64 (.pair i64 (.pair cj (.pair (.sl ak) (.pair i64 .unit)))))
abbrev ap:Ty:=.pair i64 (.pair i64 (.pair cr (.pair (.sl ar) .unit)))
abbrev ql5:Ty:=.pair i64 (.pair i64 (.pair i64 (.pair i64 .unit)))
abbrev az:Ty:=.pair i64 (.pair ql5 (.pair (.sl aS) (.pair bE (.pair bE (.pair i64 .unit)))))
abbrev aP:Ty:=.pair (.sl az) .unit
noncomputable def Xd:Cx:=cx [(141,iF),(165,iF),(192,pY),(238,pY),(239,mN),(143,oG),(166,oG),(164,vg),(157,iG),(103,iG),(43,eN),(168,eN)] []
def pM:CxOK prog Xd:=aJ aG ⟨Lj,Up,NT,TM,Qj,VD,qya,Rk,qar,UG,sL,JS,uT⟩ trivial
def Qr (x:aq [.d ar]):Fr (ae [.bool]):=
 let a:=x.1.2.2.2;Jv (bif bif (iF.f ((a.1.1,a.1.2.1,a.1.2.2.1,a.1.2.2.2.1,()),())).1 then ((List.length a.2.1):Int)==0 else false then a.2.2.1==0 else false,())
def qid:aa prog 179 (aL [.d ar] [.bool] Qr):=
 aH pM f179
def Qs (x:aq [.d ar]):Fr (ae [.bool]):=
 let a:=x.1.2.2.2;Jv (bif bif (oG.f (a.2.1,())).1 then a.1.1==0&&(a.1.2.1==0&&(a.1.2.2.1==0&&(a.1.2.2.2.1==0&&true))) else false then a.2.2.1==0 else false,())
def qie:aa prog 180 (aL [.d ar] [.bool] Qs):=
 aH pM f180
def Qt (x:aq [.d ar]):Fr (ae [.bool]):=
 let a:=x.1.2.2.2;Jv (bif bif bif a.2.2.1==0 then true else a.2.2.1==1 then ((List.length a.2.1):Int)==0 else false then a.1.1==0&&(a.1.2.1==0&&(a.1.2.2.1==0&&(a.1.2.2.2.1==0&&true))) else false,())
def qif:aa prog 181 (aL [.d ar] [.bool] Qt):=
 aH pM f181
def Qu (x:aq [.d ar]):Fr (ae [.bool]):=
 let a:=x.1.2.2.2;Jv (bif bif a.2.2.1==0 then ((List.length a.2.1):Int)==0 else false then a.1.1==0&&(a.1.2.1==0&&(a.1.2.2.1==0&&(a.1.2.2.2.1==0&&true))) else false,())
def qig:aa prog 182 (aL [.d ar] [.bool] Qu):=
 aH pM f182
def qkt (x:aq [.d ar]):Fr (ae [.bool]):=
 let g:=x.1.2.2.1;let a:=x.1.2.2.2;let h:=a.2.2.1;let c:=a.1.2;let k:=c.2.2.1;let b:=((List.length a.2.1):Int);Jb (bif bif bif decide (x.1.1<1) then true else decide (x.1.1>292194) then true else decide (x.1.2.1<1) then true else decide (x.1.2.1>292194)) (Jv (false,())) (Jb (g==1) (Jv (bif bif (iF.f ((a.1.1,c.1,c.2.1,k,()),())).1 then b==0 else false then h==0 else false,())) (Jb (g==2) (Jv (bif bif (oG.f (a.2.1,())).1 then a.1.1==0&&(c.1==0&&(c.2.1==0&&(k==0&&true))) else false then h==0 else false,())) (Jb (g==3) (Jv (bif bif a.1.1==0&&(c.1==0&&(c.2.1==0&&(k==0&&true))) then b==0 else false then bif h==0 then true else h==1 else false,())) (Jb (g==4) (Jv (bif bif a.1.1==0&&(c.1==0&&(c.2.1==0&&(k==0&&true))) then b==0 else false then h==0 else false,())) (Jv (false,()))))))
def qku:aa prog 122 (aL [.d ar] [.bool] qkt):=
 aH pM f122
def qkp (x:aq [.d cr]):Fr (ae [.bool]):=
 let a:=x.1.2.1;Jb (!(vg.f ((x.1.1.1,x.1.1.2.1,()),())).1) (Jv (false,())) (Jv (bif bif decide (I6.wrap (x.1.1.2.1-x.1.1.1)<=1100) then (iF.f ((a.1,a.2.1,a.2.2.1,a.2.2.2.1,()),())).1 else false then (oG.f (x.1.2.2.1,())).1 else false,()))
def qkq:aa prog 121 (aL [.d cr] [.bool] qkp):=
 aH pM f121
def qj4 (x:aq [.d af,.d af]):Fr (ae [.bool]):=
 let b:=x.1.2.2;let a:=x.2.1.2.2;Jv (bif bif x.1.2.1==x.2.1.2.1 then b.1.1==a.1.1&&(b.1.2.1==a.1.2.1&&(b.1.2.2.1==a.1.2.2.1&&(b.1.2.2.2.1==a.1.2.2.2.1&&true))) else false then (iG.f (b.2.1,a.2.1,())).1 else false,())
def qj5:aa prog 115 (aL [.d af,.d af] [.bool] qj4):=
 aH pM f115
def qk1 (x:aq [.d af,.d af]):Fr (ae [.bool]):=
 let b:=x.1.2.2;let a:=x.2.1.2.2;Jv (bif bif x.1.2.1==x.2.1.2.1 then b.1.1==a.1.1&&(b.1.2.1==a.1.2.1&&(b.1.2.2.1==a.1.2.2.1&&(b.1.2.2.2.1==a.1.2.2.2.1&&true))) else false then (iG.f (b.2.1,a.2.1,())).1 else false,())
def qk2:aa prog 219 (aL [.d af,.d af] [.bool] qk1):=
 aH pM f219
def yP (c:ar.den):Bool:=(Qr (c,())).get.1
def yQ (c:ar.den):Bool:=(Qs (c,())).get.1
def yR (c:ar.den):Bool:=(Qt (c,())).get.1
def yS (c:ar.den):Bool:=(Qu (c,())).get.1
def GN:Ct:=⟨[.d ar],[.bool],λx=>(yP x.1,()),λ_=>[]⟩
def GO:Ct:=⟨[.d ar],[.bool],λx=>(yQ x.1,()),λ_=>[]⟩
def GP:Ct:=⟨[.d ar],[.bool],λx=>(yR x.1,()),λ_=>[]⟩
def GQ:Ct:=⟨[.d ar],[.bool],λx=>(yS x.1,()),λ_=>[]⟩
def qcq:aa prog 179 GN:=conv qid _ _ (λ_ _ _ _ _ _=>⟨uT,rfl⟩)
def qcr:aa prog 180 GO:=conv qie _ _ (λ_ _ _ _ _ _=>⟨uT,rfl⟩)
def qcs:aa prog 181 GP:=conv qif _ _ (λ_ _ _ _ _ _=>⟨uT,rfl⟩)
def qct:aa prog 182 GQ:=conv qig _ _ (λ_ _ _ _ _ _=>⟨uT,rfl⟩)
def zX (c:ar.den):Bool:=if c.2.2.1=1 then yP c else if c.2.2.1=2 then yQ c else if c.2.2.1=3 then yR c else if c.2.2.1=4 then yS c else false
def dF (c:ar.den):Bool:=eO c.1&&(eO c.2.1&&zX c)
def hP:Ct:=⟨[.d ar],[.bool],λx=>(dF x.1,()),λ_=>[]⟩
def ft (t:cr.den):Bool:=dd t.1&&(decide (t.1.2.1-t.1.1<=1100)&&(jA t.2.1.1 t.2.1.2.1 t.2.1.2.2.1 t.2.1.2.2.2.1&&ji t.2.2.1))
def kE:Ct:=⟨[.d cr],[.bool],λx=>(ft x.1,()),λ_=>[]⟩
def TN:aa prog 121 kE:=
 conv qkq _ _ (λ_ _ x _ _ _=>by
  obtain⟨⟨⟨a,b,_⟩,r,cs,_⟩,_⟩:=x;refine⟨⟨λ_=>uT,λ_=>uT⟩,?_⟩;show(if (!(dd (a,b,())))=true then ((false,()):Bool×Unit) else (bif bif decide (I6.wrap (b-a)<=1100) then jA r.1 r.2.1 r.2.2.1 r.2.2.2.1 else false then ji cs else false,())) =
   (dd (a,b,())&&(decide (b-a<=1100)&&(jA r.1 r.2.1 r.2.2.1 r.2.2.2.1&&ji cs)),())
  cases hf:dd (a,b,()) with
  |false=>rfl
  |true=>
   obtain⟨h1,h2,h3⟩:=jY.1 hf;have hw:I6.wrap (b-a)=b-a:=cD (by omega);rw[hw,uh];rfl)
def wY (a b:cj.den):Bool:=(a.1==b.1&&(a.2.1==b.2.1&&(a.2.2.1==b.2.2.1&&(a.2.2.2.1==b.2.2.2.1&&true))))
def jv (a b:af.den):Bool:=(a.2.1==b.2.1)&&(wY a.2.2.1 b.2.2.1&&dm a.2.2.2.1 b.2.2.2.1)
def qb:Ct:=⟨[.d af,.d af],[.bool],λx=>(jv x.1 x.2.1,()),λ_=>[]⟩
def RP:aa prog 115 qb:=conv qj5 _ _ (λ_ _ x _ _ _=>by
 obtain⟨a,b,_⟩:=x;exact⟨uT,ufv (·,()) (uh (a.2.1==b.2.1) (wY a.2.2.1 b.2.2.1) (dm a.2.2.2.1 b.2.2.2.1))⟩)
def S2:aa prog 219 qb:=conv qk2 _ _ (λ_ _ x _ _ _=>by
 obtain⟨a,b,_⟩:=x;exact⟨uT,ufv (·,()) (uh (a.2.1==b.2.1) (wY a.2.2.1 b.2.2.1) (dm a.2.2.2.1 b.2.2.2.1))⟩)
def qfs (a b:Int):(bif bif bif decide (a<1) then true else decide (a>292194) then true else decide (b<1) then true else decide (b>292194)) = !(eO a&&eO b):=by
 rw[udv];simp only[eO,ubw,udr,uct,uba,ucs,uau];omega
def pW (r:cj.den):Bool:=r.1==0&&(r.2.1==0&&(r.2.2.1==0&&(r.2.2.2.1==0&&true)))
def KO:aa prog 122 hP:=
 conv qku _ _ (λ_ _ x _ _ _=>by
  obtain⟨⟨b,d,k,r,cs,w,_⟩,_⟩:=x;refine⟨⟨λ_=>uT,λ_=>⟨λ_=>uT,λ_=>⟨λ_=>uT,λ_=>⟨λ_=>uT,λ_=>⟨λ_=>uT,λ_=>uT⟩⟩⟩⟩⟩,?_⟩;show(if (bif bif bif decide (b<1) then true else decide (b>292194) then true else decide (d<1) then true else decide (d>292194))=true then ((false,()):Bool×Unit) else
   if (k==1)=true then (yP (b,d,k,r,cs,w,()),()) else if (k==2)=true then (yQ (b,d,k,r,cs,w,()),()) else
   if (k==3)=true then (bif bif pW r then ((cs.length:Int)==0) else false then bif w==0 then true else w==1 else false,()) else
   if (k==4)=true then (bif bif pW r then ((cs.length:Int)==0) else false then w==0 else false,()) else (false,()))=(eO b&&(eO d&&zX (b,d,k,r,cs,w,())),())
  have hb:=qfs b d;rw[hb];have h3:(bif bif pW r then ((cs.length:Int)==0) else false then bif w==0 then true else w==1 else false)=yR (b,d,k,r,cs,w,()):=by
   show _=(bif bif bif w==0 then true else w==1 then ((cs.length:Int)==0) else false then pW r else false);cases pW r<;>cases ((cs.length:Int)==0)<;>cases (w==0)<;>cases (w==1)<;>rfl
  have h4:(bif bif pW r then ((cs.length:Int)==0) else false then w==0 else false)=yS (b,d,k,r,cs,w,()):=by
   show _=(bif bif w==0 then ((cs.length:Int)==0) else false then pW r else false);cases pW r<;>cases ((cs.length:Int)==0)<;>cases (w==0)<;>rfl
  rw[h3,h4];have hk:zX (b,d,k,r,cs,w,())=if (k==1)=true then yP (b,d,k,r,cs,w,()) else if (k==2)=true then yQ (b,d,k,r,cs,w,()) else if (k==3)=true then yR (b,d,k,r,cs,w,()) else if (k==4)=true then yS (b,d,k,r,cs,w,()) else false:=by
   simp only[ufh];rfl
  rw[hk];cases eO b<;>cases eO d<;>cases (k==1)<;>cases (k==2)<;>cases (k==3)<;>cases (k==4)<;>rfl)
open Go.Ab.Fr renaming val->Jv,need->Jd,br->Jb
def cB (h:ap.den) (i:Int):Int:=(h.2.2.2.1.getD i.toNat ar.dflt).2.1
abbrev aw (h:ap.den):List ar.den:=h.2.2.2.1
noncomputable def XO:Cx:=cx [(148,GR)] []
def XP:CxOK prog XO:=aJ aG ⟨qc5,uT⟩ trivial
def qmz (x:aq [.d i64,.d i64,.ptr ap]):Fr (ae [i64]):=
 let a:=((aw x.2.2.1).length:Int);Jd (0<=x.1/\x.1<a) (Jd (0<=x.2.1/\x.2.1<a) (Jv ((GR.f (cB x.2.2.1 x.1,cB x.2.2.1 x.2.1,())).1,())))
def vn:Ct:=⟨[.d i64,.d i64,.ptr ap],[i64],λx=>(CE (cB x.2.2.1 x.1) (cB x.2.2.1 x.2.1),()),λx=>[0<=x.1/\x.1<((aw x.2.2.1).length:Int),0<=x.2.1/\x.2.1<((aw x.2.2.1).length:Int)]⟩
def Tb:aa prog 147 vn:=
 conv (aH XP f147 (fr:=qmz)) _ _ λ_ _ x _ _ hok=>
  ⟨⟨hok.1,hok.2,uT⟩,rfl⟩
def gU (n:Nat):List Int:=(List.range n).map λi:Nat=>(i:Int)
def qyi (n:Nat):gU (n+1)=gU n++[(n:Int)]:=by simp[gU,udz]
def KQ (n:Nat):(gU n).length=n:=by simp[gU]
def KR {n:Nat} {x:Int} (h:x∈gU n):0<=x/\x<n:=by
 simp only[gU,ue7,ud7] at h;obtain⟨i,hi,rfl⟩:=h;omega
noncomputable def XQ:Cx:=ib [(147,vn)] [] (oX (cx [(147,vn)] []).Γ 146 DN)
def XR:CxOK prog (cx [(147,vn)] []):=aJ aG ⟨Tb,uT⟩ trivial
def M5:CxOK prog XQ:=iI aG ⟨Tb,uT⟩ trivial (sX XR.ct zcb)
abbrev po:Pt:=⟨20,0,⟨[(7,.d i64),(8,.d i64)],[.x 1 54 ap,.r 1 1 0,.o 3 3 i64]⟩,⟨[],[.x 1 54 ap,.r 1 1 0,.o 3 3 i64]⟩,⟨[],[]⟩⟩
set_option maxRecDepth 100000 in
def Jo (x:po.M.X):Fr po.Out:=
 let n:=x.1.1; let k:=x.1.2.1; let h:=x.2.1; let l:=x.2.2.1
 Jb (decide (k<n))
  (Jd (l.length + [k].length<=maxLen/\(l.length + [k].length)*prog.types[3].bytes<=140737488355328) (Jv (Rd.next ((n,I6.wrap (k+1),()),(h,l++[k],())))))
  (Jv (Rd.out ((),(h,l,()))))
def zbk:ah prog (aC f105 0) po.M po Jo:=
 eH M5
set_option maxRecDepth 100000 in
def Sf:prog.types[3].bytes=8:=by kernel_rfl
structure InvOrd (n k:Int) (l:List Int):Prop where
 k0:0<=k
 kn:k<=n
 big:n<=1000000
 ll:l=gU k.toNat
def Np (x:po.M.X):Fr po.Out:=
 Jd (InvOrd x.1.1 x.1.2.1 x.2.2.1) (Jv (Rd.out ((),(x.2.1,gU x.1.1.toNat,()))))
def qqo (n k:Int) (h:ap.den) (l:List Int) (hinv:InvOrd n k l) (Q:po.Out->Prop) (hq:Q (Rd.out ((),(h,gU n.toNat,())))):(Jo ((n,k,()),(h,l,()))).satP λ
   |.next x'=>InvOrd x'.1.1 x'.1.2.1 x'.2.2.1/\(x'.1.1-x'.1.2.1).toNat<(n-k).toNat/\(Np x').satP Q
   |.out y=>Q (.out y)
   |.back z=>Q (.back z)
   |.pan p=>Q (.pan p):=by
 obtain⟨h0,h1,h2,h3⟩:=hinv;subst h3;dsimp only[Jo,Fr.satP,Ty.den,PT.den];rw[Sf];refine⟨λhi=>?_,λhi=>?_⟩
 ·have hlt:k<n:=ucv hi;have w:I6.wrap (k+1)=k+1:=IntWalk.i64_in _ (by omega);rw[w];have hI:InvOrd n (k+1) (gU k.toNat++[k]):=⟨by omega,by omega,h2,by rw[show(k+1).toNat=k.toNat+1 by omega,qyi,show((k.toNat:Nat):Int)=k by omega]⟩;refine⟨?_,hI,by omega,hI,hq⟩;simp only[KQ,uc7,udj,maxLen];omega
 ·have hge:¬ k<n:=ucf hi;rw[show n=k by omega] at hq;exact hq
def qr4:ah prog (.loop (aC f105 0)) po.M po Np:=by
 refine ah.loop (n:=20) (id:=0) zbk (inv:=λx=>InvOrd x.1.1 x.1.2.1 x.2.2.1) (μ:=λx=>(x.1.1-x.1.2.1).toNat) ?_ (λx Q h=>h.1);rintro⟨⟨n,k,_⟩,⟨h,l,_⟩⟩ hinv Q hq;exact qqo n k h l hinv Q hq.2
def K5 (h:ap.den):be.den:=(λx=>vn.f (x.1,x.2.1,h,()),λx=>aE (vn.ok (x.1,x.2.1,h,())))
noncomputable def QV (x:aq [.d ap]):Fr (ae [.sl i64]):=
 let n:Int:=((aw x.1).length:Int)
 Jd (InvOrd n 0 [])
 (Jd (((gU n.toNat).length:Int)<=4611686018427387903)
  (Jd (jI (K5 x.1) (gU n.toNat)) (Jv ((DN.f (gU n.toNat) (K5 x.1,())).1,()))))
def fk (h:ap.den) (x y:Int):Bool:=decide (cB h x<cB h y)
def bQ (h:ap.den):List Int:=bA (fk h) (gU (aw h).length)
def S7 (h:ap.den):aO (K5 h)=fk h:=by
 funext x y;show decide (CE (cB h x) (cB h y)<0)=decide (cB h x<cB h y);rw[udf];unfold CE;split
 ·simp[*]
 ·split<;>simp<;>omega
def Hc:Ct:=⟨[.d ap],[.sl i64],λx=>(bQ x.1,()),λx=>[((aw x.1).length:Int)<=1000000]⟩
def Tf:aa prog 105 Hc:=
 conv (bz M5 qr4 (fr:=QV) (ps:=[.d ap]) (rs:=[.sl i64])) _ _ λ_ _ x _ _ hok=>by
  obtain⟨h,rfl⟩:∃ h:ap.den,x=(h,()):=⟨x.1,rfl⟩;have hok':((aw h).length:Int)<=1000000:=hok;have e:((aw h).length:Int).toNat=(aw h).length:=rfl;dsimp only[QV,Fr.ok,Fr.get,DN];rw[e,S7,KQ];refine⟨⟨⟨ufb _,by omega,hok',rfl⟩,by omega,⟨λx hx y hy=>⟨KR hx,KR hy⟩,cB h,λx _ y _=>by rw[S7]; rfl⟩,uT⟩,rfl⟩
open Go.Ab.Fr renaming val->Jv,need->Jd,br->Jb
section
variable {key:Int->Int} {lt:Int->Int->Bool}
def zb8 {x:Int} {a b:List Int} (hl:cy lt key ((x::a)++b)) (sa:bS key (x::a)) (sb:∀ y∈b,key x<=key y):bA lt ((x::a)++b)=x::bA lt (a++b):=by
 have hl2:cy lt key (a++b):=hl.sub λz hz=>by simp at hz |-; exact .inr hz
 obtain⟨h1,h2⟩:=gX hl2
 symm
 refine kM hl (ub8.2 ⟨λy hy=>?_,h1⟩) ?_
 ·rcases udq.1 (oa.1 hy) with h|h
  ·exact(ub8.1 sa).1 y h
  ·exact sb y h
 ·have:=(aX.refl [x]).app h2;simpa using this
def zb9 {y:Int} {a b:List Int} (hl:cy lt key (a++(y::b))) (sb:bS key (y::b)) (sa:∀ x∈a,key y<key x):bA lt (a++(y::b))=y::bA lt (a++b):=by
 have hl2:cy lt key (a++b):=hl.sub λz hz=>by simp at hz |-; rcases hz with h|h<;>simp[h]
 obtain⟨h1,h2⟩:=gX hl2
 symm
 refine kM hl (ub8.2 ⟨λz hz=>?_,h1⟩) ?_
 ·rcases udq.1 (oa.1 hz) with h|h
  ·exact ues (sa z h)
  ·exact(ub8.1 sb).1 z h
 ·have e1:aX key ((a++[y])++b) (([y]++a)++b):=(aX.swap λu hu v hv=>by simp at hv; subst hv; have:=sa u hu; omega).app (aX.refl b);have e2:=(aX.refl [y]).app h2;have e3:aX key (a++(y::b)) ([y]++(a++b)):=by simpa using e1
  have:=e3.trans e2;simpa using this
def zca {a b:List Int} (hl:cy lt key (a++b)):bA lt (bA lt a++bA lt b)=bA lt (a++b):=by
 have ha:=hl.sub λz hz=>ubh _ hz;have hb:=hl.sub λz hz=>ua4 _ hz;have hs:cy lt key (bA lt a++bA lt b):=hl.sub λz hz=>by
  rcases udq.1 hz with h|h
  ·exact ubh _ (oa.1 h)
  ·exact ua4 _ (oa.1 h)
 obtain⟨h1,h2⟩:=gX hs;exact kM hl h1 (((gX ha).2.app (gX hb).2).trans h2)
end
def Aa (h:ap.den) (l:List Int):cy (fk h) (cB h) l:=λ_ _ _ _=>rfl
abbrev pn:Pt:=⟨70,0,⟨[(1,.d bE),(2,.d bE),(8,.d i64),(9,.d i64)],[.x 3 54 ap,.r 3 3 0,.o 7 3 i64]⟩,⟨[],[.o 7 3 i64]⟩,⟨[],[]⟩⟩
set_option maxRecDepth 100000 in
def Jn (x:pn.M.X):Fr pn.Out:=
 let a:List Int:=x.1.1; let b:List Int:=x.1.2.1; let i:Int:=x.1.2.2.1; let j:Int:=x.1.2.2.2.1; let h:ap.den:=x.2.1; let l:List Int:=x.2.2.1
 Jb (bif decide (i<(a.length:Int)) then true else decide (j<(b.length:Int)))
  (Jd (decide (i<(a.length:Int))=true->(j==(b.length:Int))=false->0<=i/\i<(a.length:Int))
   (Jd (decide (i<(a.length:Int))=true->(j==(b.length:Int))=false->0<=a.getD i.toNat i64.dflt/\a.getD i.toNat i64.dflt<((aw h).length:Int))
    (Jd (decide (i<(a.length:Int))=true->(j==(b.length:Int))=false->0<=j/\j<(b.length:Int))
     (Jd (decide (i<(a.length:Int))=true->(j==(b.length:Int))=false->0<=b.getD j.toNat i64.dflt/\b.getD j.toNat i64.dflt<((aw h).length:Int))
      (Jb (bif j==(b.length:Int) then true else bif decide (i<(a.length:Int)) then decide (cB h (a.getD i.toNat i64.dflt)<=cB h (b.getD j.toNat i64.dflt)) else false)
       (Jd (0<=i/\i<(a.length:Int))
        (Jd (l.length + [a.getD i.toNat i64.dflt].length<=maxLen/\(l.length + [a.getD i.toNat i64.dflt].length)*prog.types[3].bytes<=140737488355328)
         (Jv (Rd.next ((a,b,I6.wrap (i+1),j,()),(h,l++[a.getD i.toNat i64.dflt],()))))))
       (Jd (0<=j/\j<(b.length:Int))
        (Jd (l.length + [b.getD j.toNat i64.dflt].length<=maxLen/\(l.length + [b.getD j.toNat i64.dflt].length)*prog.types[3].bytes<=140737488355328)
         (Jv (Rd.next ((a,b,i,I6.wrap (j+1),()),(h,l++[b.getD j.toNat i64.dflt],())))))))))))
  (Jv (Rd.out ((),(l,()))))
def zbj:ah prog (aC f235 0) pn.M pn Jn:=
 eH eI
structure InvMrg (a b:List Int) (i j:Int) (h:ap.den) (l:List Int):Prop where
 i0:0<=i
 j0:0<=j
 ia:i<=a.length
 jb:j<=b.length
 room:(l.length:Int)+(a.length-i)+(b.length-j)<=1000000
 small:(a.length:Int)+b.length<=1000000
 inA:∀ x∈a,0<=x/\x<((aw h).length:Int)
 cE:∀ x∈b,0<=x/\x<((aw h).length:Int)
 sA:bS (cB h) a
 sB:bS (cB h) b
def Nn (x:pn.M.X):Fr pn.Out:=
 let a:List Int:=x.1.1; let b:List Int:=x.1.2.1; let i:Int:=x.1.2.2.1; let j:Int:=x.1.2.2.2.1; let h:ap.den:=x.2.1; let l:List Int:=x.2.2.1
 Jd (InvMrg a b i j h l) (Jv (Rd.out ((),(l++bA (fk h) (a.drop i.toNat++b.drop j.toNat),()))))
def qj {l:List Int} {i:Nat} (h:i<l.length):l.drop i=l.getD i 0::l.drop (i+1):=by
 simp[uap h]
def ER {key:Int->Int} {l:List Int} (h:bS key l) (i:Nat):bS key (l.drop i):=List.Pairwise.sublist (List.drop_sublist i l) h
def qqm (a b:List Int) (i j:Int) (h:ap.den) (l:List Int) (hinv:InvMrg a b i j h l) (Q:pn.Out->Prop)
  (hq:Q (Rd.out ((),(l++bA (fk h) (a.drop i.toNat++b.drop j.toNat),())))):(Jn ((a,b,i,j,()),(h,l,()))).satP λ
   |.next x'=>InvMrg x'.1.1 x'.1.2.1 x'.1.2.2.1 x'.1.2.2.2.1 x'.2.1 x'.2.2.1/\((List.length (α:=Int) x'.1.1:Int)-x'.1.2.2.1).toNat+((List.length (α:=Int) x'.1.2.1:Int)-x'.1.2.2.2.1).toNat<((a.length:Int)-i).toNat+((b.length:Int)-j).toNat/\(Nn x').satP Q
   |.out y=>Q (.out y)
   |.back z=>Q (.back z)
   |.pan p=>Q (.pan p):=by
 obtain⟨h0,h1,h2,h3,h4,h44,h5,h6,h7,h8⟩:=hinv;obtain⟨i',rfl⟩:∃ n:Nat,i=n:=⟨i.toNat,by omega⟩;obtain⟨j',rfl⟩:∃ n:Nat,j=n:=⟨j.toNat,by omega⟩;have hA:i'<a.length->a.getD i' 0∈a:=λh=>eh h;have hB:j'<b.length->b.getD j' 0∈b:=λh=>eh h;simp at hq;dsimp only[Jn,Fr.satP,PT.den];rw[Sf];simp only[uc7,udj];have takeA:i'<a.length->(j'<b.length->cB h (a.getD i' 0)<=cB h (b.getD j' 0)) ->
   InvMrg a b ((i'+1:Nat):Int) j' h (l++[a.getD i' 0])/\Q (Rd.out ((),(l++[a.getD i' 0]++bA (fk h) (a.drop (i'+1)++b.drop j'),()))):=λhi hle=>by
  refine⟨⟨by omega,by omega,by omega,h3,by simp; omega,h44,h5,h6,h7,h8⟩,?_⟩;have e:=zb8 (b:=b.drop j') (Aa _ _) (by rw[<- qj hi]; exact ER h7 i') (λy hy=>by
   have hj:j'<b.length:=by
    rcases ueo j' b.length with h|h
    ·exact h
    ·rw[ua0 h] at hy; simp at hy
   have hs:=ER h8 j';rw[qj hj] at hs hy;rcases ueg.1 hy with rfl|hy
   ·exact hle hj
   ·exact ue3 (hle hj) ((ub8.1 hs).1 y hy))
  rw[qj hi,e] at hq;simpa using hq
 have takeB:j'<b.length->(i'<a.length->¬ cB h (a.getD i' 0)<=cB h (b.getD j' 0)) ->
   InvMrg a b (i':Int) ((j'+1:Nat):Int) h (l++[b.getD j' 0])/\Q (Rd.out ((),(l++[b.getD j' 0]++bA (fk h) (a.drop i'++b.drop (j'+1)),()))):=λhj hlt=>by
  refine⟨⟨by omega,by omega,h2,by omega,by simp; omega,h44,h5,h6,h7,h8⟩,?_⟩;have e:=zb9 (a:=a.drop i') (Aa _ _) (by rw[<- qj hj]; exact ER h8 j') (λx hx=>by
   have hi:i'<a.length:=by
    rcases ueo i' a.length with h|h
    ·exact h
    ·rw[ua0 h] at hx; simp at hx
   have hs:=ER h7 i';rw[qj hi] at hs hx;rcases ueg.1 hx with rfl|hx
   ·omega
   ·have:=(ub8.1 hs).1 x hx;omega)
  rw[qj hj,e] at hq;simpa using hq
 have w1:i'<a.length->I6.wrap ((i':Int)+1)=(i'+1:Nat):=λh=>pD (by omega);have w2:j'<b.length->I6.wrap ((j':Int)+1)=(j'+1:Nat):=λh=>pD (by omega);by_cases hi:i'<a.length
 ·have di:decide ((i':Int)<(a.length:Int))=true:=ud8 (by omega);rw[di];by_cases hj:j'<b.length
  ·have dj:((j':Int)==(b.length:Int))=false:=by rw[ubu]; omega
   rw[dj];refine⟨λ_=>⟨λ_ _=>⟨by omega,by omega⟩,λ_ _=>h5 _ (hA hi),λ_ _=>⟨by omega,by omega⟩,λ_ _=>h6 _ (hB hj),λhc=>?_,λhc=>?_⟩,λhc=>by cases hc⟩
   ·have hle:=ucv hc;obtain⟨k1,k2⟩:=takeA hi (λ_=>hle);rw[w1 hi];refine⟨⟨by omega,by omega⟩,⟨by simp only[maxLen]; omega,by omega⟩,k1,by omega,k1,k2⟩
   ·have hle:=ucf hc;obtain⟨k1,k2⟩:=takeB hj (λ_=>hle);rw[w2 hj];refine⟨⟨by omega,by omega⟩,⟨by simp only[maxLen]; omega,by omega⟩,k1,by omega,k1,k2⟩
  ·have dj:((j':Int)==(b.length:Int))=true:=by rw[ufh]; omega
   rw[dj];refine⟨λ_=>⟨λ_ hc=>(by cases hc),λ_ hc=>(by cases hc),λ_ hc=>(by cases hc),λ_ hc=>(by cases hc),λ_=>?_,λhc=>by cases hc⟩,λhc=>by cases hc⟩;obtain⟨k1,k2⟩:=takeA hi (λh=>absurd h hj);rw[w1 hi];refine⟨⟨by omega,by omega⟩,⟨by simp only[maxLen]; omega,by omega⟩,k1,by omega,k1,k2⟩
 ·have di:decide ((i':Int)<(a.length:Int))=false:=udt (by omega);rw[di];by_cases hj:j'<b.length
  ·have dj:((j':Int)==(b.length:Int))=false:=by rw[ubu]; omega
   rw[dj];refine⟨λ_=>⟨λhc=>(by cases hc),λhc=>(by cases hc),λhc=>(by cases hc),λhc=>(by cases hc),λhc=>(by cases hc),λ_=>?_⟩,λhc=>?_⟩
   ·obtain⟨k1,k2⟩:=takeB hj (λh=>absurd h hi);rw[w2 hj];refine⟨⟨by omega,by omega⟩,⟨by simp only[maxLen]; omega,by omega⟩,k1,by omega,k1,k2⟩
   ·have:=ucf hc;omega
  ·have dj:decide ((j':Int)<(b.length:Int))=false:=udt (by omega);rw[dj];rw[ua0 (by omega),ua0 (by omega)] at hq;simpa[bA] using hq
def qr2:ah prog (.loop (aC f235 0)) pn.M pn Nn:=by
 refine ah.loop zbj (μ:=λx=>((List.length x.1.1:Int)-x.1.2.2.1).toNat+((List.length (α:=Int) x.1.2.1:Int)-x.1.2.2.2.1).toNat) ?_ (λx Q h=>h.1);rintro⟨⟨a,b,i,j,_⟩,⟨h,l,_⟩⟩ hinv Q hq;exact qqm a b i j h l hinv Q hq.2
def qmy (x:aq [.d ap,.d bE,.d bE]):Fr (ae [.sl i64]):=
 Jd (InvMrg x.2.1 x.2.2.1 0 0 x.1 []) (Jv ([]++bA (fk x.1) (x.2.1.drop (0:Int).toNat++x.2.2.1.drop (0:Int).toNat),()))
structure MrgOk (h:ap.den) (a b:List Int):Prop where
 inA:∀ x∈a,0<=x/\x<((aw h).length:Int)
 cE:∀ x∈b,0<=x/\x<((aw h).length:Int)
 sA:bS (cB h) a
 sB:bS (cB h) b
 room:(a.length:Int)+b.length<=1000000
def Ha:Ct:=⟨[.d ap,.d bE,.d bE],[.sl i64],λx=>(bA (fk x.1) (x.2.1++x.2.2.1),()),λx=>[MrgOk x.1 x.2.1 x.2.2.1]⟩
def qt5:aa prog 235 Ha:=
 conv (bz eI qr2 (fr:=qmy)) _ _ λ_ _ x _ _ hok=>by
  obtain⟨h,a,b,rfl⟩:∃ (h:ap.den) (a b:List Int),x=(h,a,b,()):=⟨x.1,x.2.1,x.2.2.1,rfl⟩;have hok':=hok;obtain⟨h1,h2,h3,h4,h5⟩:=hok';exact⟨⟨⟨ufb _,ufb _,by omega,by omega,by simp; omega,h5,h1,h2,h3,h4⟩,uT⟩,rfl⟩
def eR (a b:Nat):List Int:=(List.range' a (b-a)).map λi:Nat=>(i:Int)
def qyg {a m b:Nat} (h1:a<=m) (h2:m<=b):eR a m++eR m b=eR a b:=by
 unfold eR;rw[<- udu];congr 1;rw[show List.range' m (b-m)=List.range' (a+(m-a)) (b-m) by congr 1; omega,List.range'_append_1];congr 1;omega
def TO {a b:Nat} {x:Int} (h:x∈eR a b):(a:Int)<=x/\x<b:=by
 simp only[eR,ue7,ucu] at h;omega
def qyh (n:Nat):eR 0 n=gU n:=by simp[eR,gU,ubj]
def KP (a b:Nat):(eR a b).length=b-a:=by simp[eR]
structure OrdOk (n:Nat) (h:ap.den) (a b:Int):Prop where
 a0:0<=a
 ab:a<=b
 bl:b<=((aw h).length:Int)
 big:((aw h).length:Int)<=1000000
 size:b-a<n
def qd (n:Nat):Ct:=⟨[.d ap,.d i64,.d i64],[.sl i64],λx=>(bA (fk x.1) (eR x.2.1.toNat x.2.2.1.toNat),()),λx=>[OrdOk n x.1 x.2.1 x.2.2.1]⟩
noncomputable def M2 (n:Nat):Cx:=cx [(235,Ha),(228,qd n)] []
def qx (a b:Int):Int:=I6.wrap ((I6.wrap (a+b)).tdiv 2)
def zH (n:Nat) (x:aq [.d ap,.d i64,.d i64]):Fr (ae [.sl i64]):=
 let h:=x.1; let a:Int:=x.2.1; let b:Int:=x.2.2.1
 Jb (decide (I6.wrap (b-a)<1)) (Jv ([],()))
  (Jb (I6.wrap (b-a)==1) (Jv ([a],()))
   (Jd ((2:Int)≠0)
    (Jd (OrdOk n h a (qx a b))
     (Jd (OrdOk n h (qx a b) b)
      (Jd (MrgOk h ((qd n).f (h,a,qx a b,())).1 ((qd n).f (h,qx a b,b,())).1)
       (Jv ((Ha.f (h,((qd n).f (h,a,qx a b,())).1,((qd n).f (h,qx a b,b,())).1,())).1,())))))))
def qz3 (n:Nat) (x:aq [.d ap,.d i64,.d i64]):mw prog (M2 n) dM f228 [.d ap,.d i64,.d i64] [.sl i64] x=some (zH n x):=by kernel_rfl
def qwb (n:Nat) (h:ap.den) (a b:Int) (hok:OrdOk (n+1) h a b):(zH n (h,a,b,())).ok/\(zH n (h,a,b,())).get=(bA (fk h) (eR a.toNat b.toNat),()):=by
 obtain⟨h0,h1,h2,h3,h4⟩:=hok;obtain⟨a',rfl⟩:∃ n:Nat,a=n:=⟨a.toNat,by omega⟩;obtain⟨b',rfl⟩:∃ n:Nat,b=n:=⟨b.toNat,by omega⟩;have w1:I6.wrap ((b':Int)-a')=(b'-a':Nat):=xK (by omega) (by omega);have w2:qx a' b'=((a'+b')/2:Nat):=by
  unfold qx;rw[BO (by omega),Int.tdiv_eq_ediv_of_nonneg (by omega),IntWalk.i64_in _ (by omega)];omega
 dsimp only[zH];rw[w1,w2];simp;by_cases c1:b'-a'<1
 ·have hd:decide (((b'-a':Nat):Int)<1)=true:=ud8 (by omega);rw[hd];refine⟨⟨λ_=>uT,λhc=>by cases hc⟩,?_⟩;have:eR a' b'=[]:=uab (by rw[KP]; omega);rw[this];rfl
 ·have hd:decide (((b'-a':Nat):Int)<1)=false:=udt (by omega);rw[hd];by_cases c2:b'-a'=1
  ·have hd:(((b'-a':Nat):Int)==1)=true:=by rw[c2]; rfl
   rw[hd];refine⟨⟨λhc=>(by cases hc),λ_=>⟨λ_=>uT,λhc=>by cases hc⟩⟩,?_⟩;have:eR a' b'=[(a':Int)]:=by simp[eR,c2]
   rw[this];rfl
  ·have hd:(((b'-a':Nat):Int)==1)=false:=by rw[ubu]; omega
   rw[hd];have q1:OrdOk n h (a':Int) ((a'+b')/2:Nat):=⟨h0,by omega,by omega,h3,by omega⟩;have q2:OrdOk n h ((a'+b')/2:Nat) (b':Int):=⟨by omega,by omega,h2,h3,by omega⟩;have s1:=gX (l:=eR a' ((a'+b')/2)) (Aa h _);have s2:=gX (l:=eR ((a'+b')/2) b') (Aa h _);have q3:MrgOk h (bA (fk h) (eR a' ((a'+b')/2))) (bA (fk h) (eR ((a'+b')/2) b')):=
    ⟨λx hx=>(by have:=TO (oa.1 hx); omega),λx hx=>(by have:=TO (oa.1 hx); omega),s1.1,s2.1,by rw[mA,mA,KP,KP]; omega⟩
   refine⟨⟨λhc=>(by cases hc),λ_=>⟨λhc=>(by cases hc),λ_=>⟨by decide,q1,q2,q3,uT⟩⟩⟩,?_⟩;show(bA (fk h) (bA (fk h) (eR a' ((a'+b')/2))++bA (fk h) (eR ((a'+b')/2) b')),())=_;rw[zca (Aa h _),qyg (by omega) (by omega)]
def Te:(n:Nat)->aa prog 228 (qd n)
 |0=>by
  have hf:prog.funcs[228]? = some f228:=by kernel_rfl
  obtain⟨c,hb⟩:∃ c,f228.body=some c:=⟨_,rfl⟩;refine⟨enters hf hb (by kernel_rfl),λw F xs vs _ _ hok=>?_⟩;have h:OrdOk 0 xs.1 xs.2.1 xs.2.2.1:=hok;have h1:=h.ab;have h2:=h.size;omega
 |n+1=>by
  have hC:CxOK prog (M2 n):=aJ aG ⟨qt5,Te n,uT⟩ trivial;refine conv (mY hC (Λ:=dM) (fn:=f228) (fr:=zH n) (ps:=[.d ap,.d i64,.d i64]) (rs:=[.sl i64]) (aW [.d ap,.d i64,.d i64]) (by kernel_rfl) (λc E _=>bL c 0) (qz3 n)) _ _ λ_ _ x _ _ hok=>?_;obtain⟨h,a,b,rfl⟩:∃ (h:ap.den) (a b:Int),x=(h,a,b,()):=⟨x.1,x.2.1,x.2.2.1,rfl⟩;exact qwb n h a b hok
noncomputable def XI:Cx:=cx [(228,qd 1000001)] []
def XJ:CxOK prog XI:=aJ aG ⟨Te _,uT⟩ trivial
def Hd:Ct:=⟨[.d ap],[.sl i64],λx=>(bQ x.1,()),λx=>[((aw x.1).length:Int)<=1000000]⟩
def qm0 (x:aq [.d ap]):Fr (ae [.sl i64]):=
 Jd (OrdOk 1000001 x.1 0 ((aw x.1).length:Int)) (Jv (((qd 1000001).f (x.1,0,((aw x.1).length:Int),())).1,()))
def Tc:aa prog 217 Hd:=
 conv (aH XJ f217 (fr:=qm0)) _ _ λ_ _ x _ _ hok=>by
  obtain⟨h,rfl⟩:∃ h:ap.den,x=(h,()):=⟨x.1,rfl⟩;have hok':((aw h).length:Int)<=1000000:=hok;have ho:OrdOk 1000001 h 0 ((aw h).length:Int):=⟨ufb _,by omega,ufb _,hok',by omega⟩;refine⟨⟨ho,uT⟩,?_⟩;show(bA (fk h) (eR 0 (aw h).length),())=(bQ h,());rw[qyh];rfl
end Go.Proofs.YtgieagiaagoogaaGreat
namespace Go.Proofs.YtgieagiaagoogaaGreat
open Go Go.Ab Go.RowKit Go.Proofs Tryz
open Go.Ab.Fr renaming val->Jv,need->Jd,br->Jb
def jk (s:af.den) (c:ar.den):af.den:=
 if c.2.2.1=1 then (s.1,s.2.1,c.2.2.2.1,s.2.2.2.1,s.2.2.2.2.1,())
 else if c.2.2.1=2 then (s.1,s.2.1,s.2.2.1,c.2.2.2.2.1,s.2.2.2.2.1,())
 else if c.2.2.1=3 then (s.1,false,s.2.2.1,s.2.2.2.1,s.2.2.2.2.1,())
 else if c.2.2.1=4 then (s.1,true,s.2.2.1,s.2.2.2.1,s.2.2.2.2.1,())
 else s
def aQ (h:ap.den) (i:Int):ar.den:=(aw h).getD i.toNat ar.dflt
def fi (h:ap.den) (day:Int):List Int->af.den->af.den
 |[],s=>s
 |i::l,s=>fi h day l (if cB h i>day then s else jk s (aQ h i))
def ii (h:ap.den):af.den:=((0,0,()),true,h.2.2.1.2.1,h.2.2.1.2.2.1,0,())
abbrev pm:Pt:=⟨54,0,⟨[(1,.d bE),(2,.d i64),(8,.d i64)],[.x 3 54 ap,.r 3 3 0,.x 6 122 af,.r 6 6 0,.x 7 122 af,.r 7 7 0]⟩,
 ⟨[],[.x 6 122 af,.r 6 6 0,.x 7 122 af,.r 7 7 0]⟩,⟨[],[]⟩⟩
def Jj (x:pm.M.X):Fr pm.Out:=
 let l:List Int:=x.1.1; let day:Int:=x.1.2.1; let i:Int:=x.1.2.2.1; let h:ap.den:=x.2.1; let r:af.den:=x.2.2.1; let s:af.den:=x.2.2.2.1
 let c:ar.den:=aQ h (l.getD i.toNat i64.dflt)
 Jb (decide (i<(l.length:Int)))
  (Jd (0<=i/\i<(l.length:Int))
   (Jd (0<=l.getD i.toNat i64.dflt/\l.getD i.toNat i64.dflt<((aw h).length:Int))
    (Jb (decide (cB h (l.getD i.toNat i64.dflt)>day))
     (Jv (Rd.next ((l,day,I6.wrap (i+1),()),(h,r,s,()))))
     (Jb (c.2.2.1==1)
      (Jv (Rd.next ((l,day,I6.wrap (i+1),()),(h,r,(s.1,s.2.1,c.2.2.2.1,s.2.2.2.1,s.2.2.2.2.1,()),()))))
      (Jb (c.2.2.1==2)
       (Jv (Rd.next ((l,day,I6.wrap (i+1),()),(h,r,(s.1,s.2.1,s.2.2.1,c.2.2.2.2.1,s.2.2.2.2.1,()),()))))
       (Jb (c.2.2.1==3)
        (Jv (Rd.next ((l,day,I6.wrap (i+1),()),(h,r,(s.1,false,s.2.2.1,s.2.2.2.1,s.2.2.2.2.1,()),()))))
        (Jb (c.2.2.1==4)
         (Jv (Rd.next ((l,day,I6.wrap (i+1),()),(h,r,(s.1,true,s.2.2.1,s.2.2.2.1,s.2.2.2.2.1,()),()))))
         (Jv (Rd.next ((l,day,I6.wrap (i+1),()),(h,r,s,())))))))))))
  (Jv (Rd.out ((),(r,s,()))))
def zbg:ah prog (aC f218 0) pm.M pm Jj:=
 eH eI
structure InvHld (l:List Int) (i:Int) (h:ap.den):Prop where
 i0:0<=i
 il:i<=l.length
 big:(l.length:Int)<=9223372036854775807
 inl:∀ x∈l,0<=x/\x<((aw h).length:Int)
def Gf (x:pm.M.X):Fr pm.Out:=
 let l:List Int:=x.1.1; let day:Int:=x.1.2.1; let i:Int:=x.1.2.2.1; let h:ap.den:=x.2.1; let r:af.den:=x.2.2.1; let s:af.den:=x.2.2.2.1
 Jd (InvHld l i h) (Jv (Rd.out ((),(r,fi h day (l.drop i.toNat) s,()))))
def qqh (l:List Int) (day i:Int) (h:ap.den) (r s:af.den) (hinv:InvHld l i h) (Q:pm.Out->Prop)
  (hq:Q (Rd.out ((),(r,fi h day (l.drop i.toNat) s,())))):(Jj ((l,day,i,()),(h,r,s,()))).satP λ
   |.next x'=>InvHld x'.1.1 x'.1.2.2.1 x'.2.1/\((List.length (α:=Int) x'.1.1:Int)-x'.1.2.2.1).toNat<((l.length:Int)-i).toNat/\(Gf x').satP Q
   |.out y=>Q (.out y)
   |.back z=>Q (.back z)
   |.pan p=>Q (.pan p):=by
 obtain⟨h0,h1,h2,h3⟩:=hinv;obtain⟨i',rfl⟩:∃ n:Nat,i=n:=⟨i.toNat,by omega⟩;simp only[ucy] at hq;dsimp only[Jj,Fr.satP,Ty.den,PT.den];simp only[ucy];refine⟨λhi=>?_,λhi=>?_⟩
 ·have hlt:i'<l.length:=by have:(i':Int)<(l.length:Int):=ucv hi; omega
  have w:I6.wrap ((i':Int)+1)=(i'+1:Nat):=pD (by omega);rw[w];have hI:InvHld l ((i'+1:Nat):Int) h:=⟨by omega,by omega,h2,h3⟩;have hm:=h3 _ (eh (d:=(0:Int)) hlt);rw[qj hlt] at hq;simp only[fi] at hq;have hdone:∀ s',s'=(if cB h (l.getD i' 0)>day then s else jk s (aQ h (l.getD i' 0)))->InvHld l ((i'+1:Nat):Int) h/\((List.length (α:=Int) l:Int)-((i'+1:Nat):Int)).toNat<((l.length:Int)-(i':Int)).toNat /\
    (Gf ((l,day,((i'+1:Nat):Int),()),(h,r,s',()))).satP Q:=λs' hs=>⟨hI,by omega,hI,by subst hs; exact hq⟩
  refine⟨⟨by omega,by omega⟩,hm,λhc=>?_,λhc=>?_⟩
  ·have hc':cB h (l.getD i' 0)>day:=ucv hc;exact hdone s (by rw[if_pos hc'])
  ·have hc':¬ cB h (l.getD i' 0)>day:=ucf hc;rw[if_neg hc'] at hdone;unfold jk at hdone;refine⟨λk=>?_,λk=>⟨λk2=>?_,λk2=>⟨λk3=>?_,λk3=>⟨λk4=>?_,λk4=>?_⟩⟩⟩⟩
   ·have k':(aQ h (l.getD i' 0)).2.2.1=1:=eq_of_beq (α:=Int) k;exact hdone _ (by rw[if_pos k']; rfl)
   ·have k':¬ (aQ h (l.getD i' 0)).2.2.1=1:=ud2 (α:=Int) k;have k2':(aQ h (l.getD i' 0)).2.2.1=2:=eq_of_beq (α:=Int) k2;exact hdone _ (by rw[if_neg k',if_pos k2']; rfl)
   ·have k':¬ (aQ h (l.getD i' 0)).2.2.1=1:=ud2 (α:=Int) k;have k2':¬ (aQ h (l.getD i' 0)).2.2.1=2:=ud2 (α:=Int) k2;have k3':(aQ h (l.getD i' 0)).2.2.1=3:=eq_of_beq (α:=Int) k3;exact hdone _ (by rw[if_neg k',if_neg k2',if_pos k3'])
   ·have k':¬ (aQ h (l.getD i' 0)).2.2.1=1:=ud2 (α:=Int) k;have k2':¬ (aQ h (l.getD i' 0)).2.2.1=2:=ud2 (α:=Int) k2;have k3':¬ (aQ h (l.getD i' 0)).2.2.1=3:=ud2 (α:=Int) k3;have k4':(aQ h (l.getD i' 0)).2.2.1=4:=eq_of_beq (α:=Int) k4;exact hdone _ (by rw[if_neg k',if_neg k2',if_neg k3',if_pos k4'])
   ·have k':¬ (aQ h (l.getD i' 0)).2.2.1=1:=ud2 (α:=Int) k;have k2':¬ (aQ h (l.getD i' 0)).2.2.1=2:=ud2 (α:=Int) k2;have k3':¬ (aQ h (l.getD i' 0)).2.2.1=3:=ud2 (α:=Int) k3;have k4':¬ (aQ h (l.getD i' 0)).2.2.1=4:=ud2 (α:=Int) k4;exact hdone _ (by rw[if_neg k',if_neg k2',if_neg k3',if_neg k4'])
 ·have hge:¬ i'<l.length:=by have:¬ (i':Int)<(l.length:Int):=ucf hi; omega
  rw[ua0 (by omega)] at hq;exact hq
def qry:ah prog (.loop (aC f218 0)) pm.M pm Gf:=by
 refine ah.loop (n:=54) (id:=0) zbg (inv:=λx=>InvHld x.1.1 x.1.2.2.1 x.2.1) (μ:=λx=>((List.length (α:=Int) x.1.1:Int)-x.1.2.2.1).toNat) ?_ (λx Q h=>h.1);rintro⟨⟨l,day,i,_⟩,⟨h,r,s,_⟩⟩ hinv Q hq;exact qqh l day i h r s hinv Q hq.2
def qmt (x:aq [.d ap,.d bE,.d i64]):Fr (ae [af]):=
 Jd (InvHld x.2.1 0 x.1) (Jv (fi x.1 x.2.2.1 (x.2.1.drop (0:Int).toNat) (ii x.1),()))
def vj:Ct:=⟨[.d ap,.d bE,.d i64],[af],λx=>(fi x.1 x.2.2.1 x.2.1 (ii x.1),()),λx=>[∀ i∈x.2.1,0<=i/\i<((aw x.1).length:Int)]⟩
def qn5:aa prog 218 vj:=
 conv (bz eI qry (fr:=qmt) (ps:=[.d ap,.d bE,.d i64]) (rs:=[af])) _ _ λw F x vs hr hok=>by
  obtain⟨h,l,day,rfl⟩:∃ (h:ap.den) (l:List Int) (day:Int),x=(h,l,day,()):=⟨x.1,x.2.1,x.2.2.1,rfl⟩;obtain⟨_,_,_,_,v,vs',_,hv,_⟩:=hr;have hlen:(l.length:Int)<=9223372036854775807:=fw hv;exact⟨⟨⟨ufb _,by omega,hlen,hok⟩,uT⟩,rfl⟩
open Go.Ab.Fr renaming val->Jv,need->Jd,br->Jb
noncomputable def Xe:Cx:=cx [(115,qb),(219,qb),(122,hP),(121,kE),(43,eN),(168,eN)] []
def uy:CxOK prog Xe:=aJ aG ⟨RP,S2,KO,TN,sL,JS,uT⟩ trivial
abbrev nV:Pt:=⟨21,0,⟨[(10,.d i64),(9,.d i64),(8,.d bY),(1,.d i64)],[.x 4 122 af,.r 4 4 0]⟩,⟨[],[.x 4 122 af,.r 4 4 0]⟩,⟨[(5,.d .bool)],[.x 4 122 af,.r 4 4 0]⟩⟩
abbrev xr:Type:=aq [.d i64]×bW [.x 4 122 af,.r 4 4 0]
def uc (e:af.den) (s:xr):Fr (xr ⊕ nV.R.X):=
 Jb (eN.f (e.1,s.1.1,())).1 (Jv (.inr ((true,()),e,()))) (Jv (.inl s))
def rB (x:nV.M.X):Int×List af.den×xr:=(x.1.1,x.1.2.2.1,x.1.2.2.2,x.2)
def RC (x:nV.M.X):Prop:=x.1.2.1=(x.1.2.2.1.length:Int)
def qwv (s:xr):nV.E.X:=((),s.2.1,())
def qfk:xr:=(aW _,aZ _)
def za:nV.R.X:=(aW _,aZ _)
def qtv:ah prog (.loop (aC f57 0)) nV.M nV (FL uc rB RC qwv Rd.back qfk za):=
 ln uy (λ_ _=>.n .o) af.dflt (λx=>x.1.2.1) (λx s=>((I6.wrap (x.1.1+1),x.1.2.1,x.1.2.2.1,s.1),s.2)) (λ_ h=>h)
def tF (y:nV.M.X):xr ⊕ nV.R.X:=bc uc ((rB y).2.1.drop (rB y).1.toNat) (rB y).2.2
def qvt (y:nV.M.X):Prop:=d7 uc ((rB y).2.1.drop (rB y).1.toNat) (rB y).2.2
abbrev nN:Pt:=⟨27,0,⟨[(6,.d i64),(0,.d bY),(1,.d i64)],[.x 4 122 af,.r 4 4 0]⟩,⟨[],[.x 4 122 af,.r 4 4 0]⟩,⟨[(5,.d .bool)],[.x 4 122 af,.r 4 4 0]⟩⟩
abbrev xl:Type:=aq [.d i64]×bW [.x 4 122 af,.r 4 4 0]
def ua (e:af.den) (s:xl):Fr (xl ⊕ nN.R.X):=
 Jb (eN.f (e.1,s.1.1,())).1 (Jv (.inr ((true,()),e,()))) (Jv (.inl s))
def rx (x:nN.M.X):Int×List af.den×xl:=(x.1.1,x.1.2.1,x.1.2.2,x.2)
def R2 (x:nN.M.X):Prop:=True
def qwn (s:xl):nN.E.X:=((),s.2.1,())
def qfc:xl:=(aW _,aZ _)
def yZ:nN.R.X:=(aW _,aZ _)
def qtj:ah prog (.loop (aC f172 0)) nN.M nN (FL ua rx R2 qwn Rd.back qfc yZ):=
 ln uy (λ_ _=>.n (.d (.n .o) .o)) af.dflt (λx=>((x.1.2.1.length:Nat):Int)) (λx s=>((I6.wrap (x.1.1+1),x.1.2.1,s.1),s.2)) (λ_ _=>rfl)
def tD (y:nN.M.X):xl ⊕ nN.R.X:=bc ua ((rx y).2.1.drop (rx y).1.toNat) (rx y).2.2
def qvj (y:nN.M.X):Prop:=d7 ua ((rx y).2.1.drop (rx y).1.toNat) (rx y).2.2
abbrev nQ:Pt:=⟨47,0,⟨[(4,.d i64)],[.x 1 54 ap,.r 1 1 0]⟩,⟨[],[]⟩,⟨[(2,.d .bool)],[]⟩⟩
abbrev tR:Type:=aq []×bW [.x 1 54 ap,.r 1 1 0]
def AZ (e:ar.den) (s:tR):Fr (tR ⊕ nQ.R.X):=
 Jb (bif !(hP.f (e,())).1 then true else !(eN.f (s.2.1.2.2.1.1,e.2.1,())).1) (Jv (.inr ((false,()),()))) (Jv (.inl ((),s.2.1,())))
def rz (x:nQ.M.X):Int×List ar.den×tR:=(x.1.1,x.2.1.2.2.2.1,x.1.2,x.2)
def R5 (x:nQ.M.X):Prop:=True
def qwp (s:tR):nQ.E.X:=((),())
def qfe:tR:=(aW _,aZ _)
def HE:nQ.R.X:=(aW _,aZ _)
def qtm:ah prog (.loop (aC f215 0)) nQ.M nQ (FL AZ rz R5 qwp Rd.back qfe HE):=
 ln uy (λ_ _=>.n (.n .o)) ar.dflt (λx=>((x.2.1.2.2.2.1.length:Nat):Int)) (λx s=>((I6.wrap (x.1.1+1),s.1),s.2)) (λ_ _=>rfl)
def AE (y:nQ.M.X):tR ⊕ nQ.R.X:=bc AZ ((rz y).2.1.drop (rz y).1.toNat) (rz y).2.2
def qvk (y:nQ.M.X):Prop:=d7 AZ ((rz y).2.1.drop (rz y).1.toNat) (rz y).2.2
open Go.Ab.Fr renaming val->Jv,need->Jd,br->Jb
def qlh (x:aq [.d bY,.d i64]):Fr (ae [af,.bool]):=
 let a:=((0,((List.length x.1):Int),x.1,x.2.1,()),((0,0,()),false,(0,0,0,0,()),[],0,()),());let b:=ba za (tF a);Jd (InL (RC a) (rB a)) (Jd (qvt a) (Jb (bi (tF a)) (Jv (((0,0,()),false,(0,0,0,0,()),[],0,()),false,())) (Jv (b.2.1,b.1.1,()))))
def qli:aa prog 57 (aL [.d bY,.d i64] [af,.bool] qlh):=
 bz uy qtv
def qkv (x:aq [.d bY,.d i64]):Fr (ae [af,.bool]):=
 let a:=((0,x.1,x.2.1,()),((0,0,()),false,(0,0,0,0,()),[],0,()),());let b:=ba yZ (tD a);Jd (InL (R2 a) (rx a)) (Jd (qvj a) (Jb (bi (tD a)) (Jv (((0,0,()),false,(0,0,0,0,()),[],0,()),false,())) (Jv (b.2.1,b.1.1,()))))
def qkw:aa prog 172 (aL [.d bY,.d i64] [af,.bool] qkv):=
 bz uy qtj
def qkz (x:aq [.d ap]):Fr (ae [.bool]):=
 let a:=((0,()),x.1,());let b:=AE a;Jb (bif !(kE.f (x.1.2.2.1,())).1 then true else decide (((List.length x.1.2.2.2.1):Int)>2000)) (Jv (false,())) (Jd (InL (R5 a) (rz a)) (Jd (qvk a) (Jb (bi b) (Jv (true,())) (Jv ((ba HE b).1.1,())))))
def qk0:aa prog 215 (aL [.d ap] [.bool] qkz):=
 bz uy qtm
def gR:af.den:=((0,0,()),false,(0,0,0,0,()),[],0,())
def cu:List af.den->Int->af.den×Bool
 |[],_=>(gR,false)
 |s::r,d=>if cE s.1.1 s.1.2.1 d=true then (s,true) else cu r d
def oE:Ct:=⟨[.d bY,.d i64],[af,.bool],λx=>((cu x.1 x.2.1).1,(cu x.1 x.2.1).2,()),λ_=>[]⟩
def NM:(l:List af.den)->(d:Int)->(cu l d).2=false->(cu l d).1=gR
 |[],_,_=>rfl
 |s::r,d,h=>by
  unfold cu at h |-;by_cases hi:cE s.1.1 s.1.2.1 d=true
  ·rw[if_pos hi] at h;cases h
  ·rw[if_neg hi] at h |-;exact NM r d h
def qba (l:List af.den) (d:Int) (m:af.den):bc uc l ((d,()),(m,()))=if (cu l d).2=true then .inr ((true,()),((cu l d).1,())) else .inl ((d,()),(m,())):=by
 induction l with
 |nil=>rfl
 |cons e r ih=>
  by_cases h:cE e.1.1 e.1.2.1 d=true
  ·have hg:(uc e ((d,()),(m,()))).get = .inr ((true,()),(e,())):=if_pos h;simp only[bc,hg,cu,if_pos h,if_true]
  ·have hg:(uc e ((d,()),(m,()))).get = .inl ((d,()),(m,())):=if_neg h;simp only[bc,hg,cu,if_neg h];exact ih
def qa2 (l:List af.den) (d:Int) (m:af.den):bc ua l ((d,()),(m,()))=if (cu l d).2=true then .inr ((true,()),((cu l d).1,())) else .inl ((d,()),(m,())):=by
 induction l with
 |nil=>rfl
 |cons e r ih=>
  by_cases h:cE e.1.1 e.1.2.1 d=true
  ·have hg:(ua e ((d,()),(m,()))).get = .inr ((true,()),(e,())):=if_pos h;simp only[bc,hg,cu,if_pos h,if_true]
  ·have hg:(ua e ((d,()),(m,()))).get = .inl ((d,()),(m,())):=if_neg h;simp only[bc,hg,cu,if_neg h];exact ih
def NN (l:List af.den) (d:Int) {σ:Type} {a b:σ} {dr:aq [.d .bool]×af.den×Unit} :
  (if bi (if (cu l d).2=true then (.inr ((true,()),((cu l d).1,())):σ ⊕ (aq [.d .bool]×af.den×Unit)) else .inl a)=true then ((gR,false,()):af.den×Bool×Unit)
   else ((ba dr (if (cu l d).2=true then (.inr ((true,()),((cu l d).1,())):σ ⊕ (aq [.d .bool]×af.den×Unit)) else .inl a)).2.1,(ba dr (if (cu l d).2=true then (.inr ((true,()),((cu l d).1,())):σ ⊕ (aq [.d .bool]×af.den×Unit)) else .inl a)).1.1,()))=((cu l d).1,(cu l d).2,()):=by
 cases h:(cu l d).2 with
 |true=>rfl
 |false=>
  rw[NM l d h];rfl
def zb7:aa prog 57 oE:=
 conv qli _ _ (λw F x vs hr _=>by
  obtain⟨l,d,_⟩:=x;obtain⟨v,vs',rfl,hv,_⟩:=hr;have hlen:(l.length:Int)<=9223372036854775807:=fw hv;refine⟨⟨⟨rfl,ufb _,ub2 _,hlen⟩,iv (step:=uc) (λe s=>⟨λ_=>uT,λ_=>uT⟩) _ _,λ_=>uT,λ_=>uT⟩,?_⟩;have hres:tF ((0,(l.length:Int),l,d,()),(gR,()))=_:=qba l d gR;show(if bi (tF ((0,(l.length:Int),l,d,()),(gR,())))=true then ((gR,false,()):af.den×Bool×Unit) else ((ba za (tF ((0,(l.length:Int),l,d,()),(gR,())))).2.1,(ba za (tF ((0,(l.length:Int),l,d,()),(gR,())))).1.1,()))=((cu l d).1,(cu l d).2,());rw[hres];exact NN l d (b:=((d,()),(gR,()))))
def qyb:aa prog 172 oE:=
 conv qkw _ _ (λw F x vs hr _=>by
  obtain⟨l,d,_⟩:=x;obtain⟨v,vs',rfl,hv,_⟩:=hr;have hlen:(l.length:Int)<=9223372036854775807:=fw hv;refine⟨⟨⟨uT,ufb _,ub2 _,hlen⟩,iv (step:=ua) (λe s=>⟨λ_=>uT,λ_=>uT⟩) _ _,λ_=>uT,λ_=>uT⟩,?_⟩;have hres:tD ((0,l,d,()),(gR,()))=_:=qa2 l d gR;show(if bi (tD ((0,l,d,()),(gR,())))=true then ((gR,false,()):af.den×Bool×Unit) else ((ba yZ (tD ((0,l,d,()),(gR,())))).2.1,(ba yZ (tD ((0,l,d,()),(gR,())))).1.1,()))=((cu l d).1,(cu l d).2,());rw[hres];exact NN l d (b:=((d,()),(gR,()))))
open Go.Ab.Fr renaming val->Jv,need->Jd,br->Jb
def gq (h:ap.den):Bool:=(ft h.2.2.1&&decide (h.2.2.2.1.length<=2000))&&h.2.2.2.1.all λc=>dF c&&cE h.2.2.1.1.1 h.2.2.1.1.2.1 c.2.1
def vi:Ct:=⟨[.d ap],[.bool],λx=>(gq x.1,()),λ_=>[]⟩
def qnx (e:ar.den) (s:tR):(AZ e s).get=if (dF e&&cE s.2.1.2.2.1.1.1 s.2.1.2.2.1.1.2.1 e.2.1)=true then .inl s else .inr ((false,()),()):=by
 show(if (bif !(dF e) then true else !(cE s.2.1.2.2.1.1.1 s.2.1.2.2.1.1.2.1 e.2.1))=true then _ else _)=_;cases dF e<;>cases cE s.2.1.2.2.1.1.1 s.2.1.2.2.1.1.2.1 e.2.1<;>rfl
def NG {T σ:Type} (p:T->σ->Bool) (l:List T) (s:σ):lu p (λ_ s=>s) l s=l.all λe=>p e s:=by
 induction l with
 |nil=>rfl
 |cons e r ih=>simp only[lu,ueh]; rw[ih]
def qre (n:Nat):decide ((n:Int)>2000) = !decide (n<=2000):=by
 rw[udv];simp only[uct,ucs,uau];omega
def qyc:aa prog 215 vi:=
 conv qk0 _ _ (λw F x vs hr _=>by
  obtain⟨h,_⟩:=x;obtain⟨v,vs',rfl,hv,_⟩:=hr;have hwf:=aD.wf hv.2.2;have hlen:(h.2.2.2.1.length:Int)<=9223372036854775807:=np hwf.2.2.2.1.1;refine⟨⟨λ_=>uT,λ_=>⟨⟨uT,ufb _,ub2 _,hlen⟩,iv (step:=AZ) (λe s=>⟨λ_=>uT,λ_=>uT⟩) _ _,λ_=>uT,λ_=>uT⟩⟩,?_⟩;have hres:=lz (f:=λ_ s=>s) qnx h.2.2.2.1 ((),(h,()));rw[NG] at hres;have hres':AE ((0,()),(h,()))=if (h.2.2.2.1.all λc=>dF c&&cE h.2.2.1.1.1 h.2.2.1.1.2.1 c.2.1)=true then .inl _ else .inr _:=hres
  show(if (bif !(ft h.2.2.1) then true else decide ((h.2.2.2.1.length:Int)>2000))=true then ((false,()):Bool×Unit) else if bi (AE ((0,()),(h,())))=true then (true,()) else ((ba HE (AE ((0,()),(h,())))).1.1,()))=(gq h,());rw[hres',qre];unfold gq;cases ft h.2.2.1<;>cases decide (h.2.2.2.1.length<=2000)<;>cases (h.2.2.2.1.all λc=>dF c&&cE h.2.2.1.1.1 h.2.2.1.1.2.1 c.2.1)<;>rfl)
open Go.Ab.Fr renaming val->Jv,need->Jd,br->Jb
abbrev eJ:Type:=Bool×cj.den×List ak.den
def cA (s:af.den):eJ:=(s.2.1,s.2.2.1,s.2.2.2.1)
def qzm {a b:cj.den}:wY a b=true↔a=b:=by
 obtain⟨a1,a2,a3,a4,_⟩:=a;constructor
 ·intro h;simp only[wY,uc9,ufh] at h;obtain⟨h1,h2,h3,h4,_⟩:=h;rw[h1,h2,h3,h4]
 ·intro h;cases h;simp[wY]
def D7 {a b:af.den}:jv a b=true↔cA a=cA b:=by
 unfold jv cA;simp only[uc9,ufh,qzm,xa,uee]
def cz (st:Int->eJ) (b:Int):Int->List af.den->Prop
 |a,[]=>a=b
 |a,s::l=>s.1.1=a/\a<s.1.2.1/\s.2.2.2.2.1=(0:Int)/\(∀ d,a<=d->d<s.1.2.1->cA s=st d)/\(∀ t∈l.head?,cA s≠cA t)/\cz st b s.1.2.1 l
def cz.le {st:Int->eJ} {b:Int}:{a:Int} -> {l:List af.den}->cz st b a l->a<=b
 |a,[],h=>ue4 h
 |a,s::l,h=>ue3 (ues h.2.1) (cz.le h.2.2.2.2.2)
def cz.at_ {st:Int->eJ} {b:Int} {s:af.den} {l:List af.den} {a:Int} (h:cz st b a (s::l)):cA s=st a:=h.2.2.2.1 a (ufb a) h.2.1
def zb5 {s t:af.den} (h1:s.1.1=t.1.1) (h2:s.1.2.1=t.1.2.1) (h3:cA s=cA t) (h4:s.2.2.2.2.1=t.2.2.2.2.1):s=t:=by
 obtain⟨⟨a,b,_⟩,o,r,c,y,_⟩:=s;obtain⟨⟨a',b',_⟩,o',r',c',y',_⟩:=t;have e:=h3;have e1:a=a':=h1;have e2:b=b':=h2;have e4:y=y':=h4;cases e;rw[e1,e2,e4]
def W7 {st:Int->eJ} {b:Int}:{a:Int} -> {l m:List af.den}->cz st b a l->cz st b a m->l=m
 |a,[],[],_,_=>rfl
 |a,[],t::m,h,k=>by
  have h0:=h;have h2:=cz.le k.2.2.2.2.2;have h1:=k.2.1;exact absurd (Int.lt_of_lt_of_le h1 h2) (by rw[h0]; exact uem _)
 |a,s::l,[],h,k=>by
  have h0:=k;have h2:=cz.le h.2.2.2.2.2;have h1:=h.2.1;exact absurd (Int.lt_of_lt_of_le h1 h2) (by rw[h0]; exact uem _)
 |a,s::l,t::m,h,k=>by
  have hc:=h.at_.trans k.at_.symm;have key:∀ {s t:af.den} {l m:List af.den},cz st b a (s::l)->cz st b a (t::m)->cA s=cA t->¬ s.1.2.1<t.1.2.1:=by
   intro s t l m h k hc hlt;cases l with
   |nil=>
    have h1:=h.2.2.2.2.2;have h2:=cz.le k.2.2.2.2.2;rw[h1] at hlt;exact absurd (Int.lt_of_lt_of_le hlt h2) (uem _)
   |cons x l=>
    have h1:=h.2.2.2.2.1 x (by simp);have h2:=cz.at_ h.2.2.2.2.2;have h3:=k.2.2.2.1 s.1.2.1 (ues h.2.1) hlt;exact h1 (hc.trans (h3.trans h2.symm))
  have h1:=key h k hc;have h2:=key k h hc.symm;have he:=Int.le_antisymm (ufl.1 h2) (ufl.1 h1);have hst:=zb5 (h.1.trans k.1.symm) he hc (h.2.2.1.trans k.2.2.1.symm);subst hst;rw[W7 h.2.2.2.2.2 k.2.2.2.2.2]
def j7:List af.den->af.den->List af.den
 |[],s=>[s]
 |[x],s=>if jv x s=true then [((x.1.1,s.1.2.1,()),x.2)] else [x,s]
 |x::y::r,s=>x::j7 (y::r) s
def qxz (s:af.den):(y:af.den)->(r:List af.den)->∃ y' r',j7 (y::r) s=y'::r'/\cA y'=cA y
 |y,[]=>by
  unfold j7;split
  ·exact⟨_,_,rfl,rfl⟩
  ·exact⟨_,_,rfl,rfl⟩
 |y,z::r=>⟨y,_,rfl,rfl⟩
def cz.push {st:Int->eJ} {m n:Int} {s:af.den} (hs:s.1.1=m/\s.1.2.1=n/\s.2.2.2.2.1=(0:Int)) (hmn:m<n) (hst:∀ d,m<=d->d<n->cA s=st d):{a:Int} -> {l:List af.den}->cz st m a l->cz st n a (j7 l s)
 |a,[],h=>by
  have h0:=h;subst h0;refine⟨hs.1,by rw[hs.2.1]; exact hmn,hs.2.2,λd h1 h2=>hst d h1 (by rw[hs.2.1] at h2; exact h2),λt ht=>(by cases ht),hs.2.1⟩
 |a,[x],h=>by
  have hx:=h.2.2.2.2.2;unfold j7;by_cases hh:jv x s=true
  ·rw[if_pos hh];have hc:=D7.1 hh;refine⟨h.1,?_,h.2.2.1,λd h1 h2=>?_,λt ht=>(by cases ht),?_⟩
   ·show a<s.1.2.1;rw[hs.2.1];have h1:=h.2.1;rw[hx] at h1;exact ue0 h1 hmn
   ·have h2':d<n:=by
     have:d<s.1.2.1:=h2;rw[hs.2.1] at this;exact this
    by_cases hd:d<m
    ·exact h.2.2.2.1 d h1 (by rw[hx]; exact hd)
    ·exact hc.trans (hst d (ufl.1 hd) h2')
   ·exact hs.2.1
  ·rw[if_neg hh];have hc:=λe=>hh (D7.2 e);refine⟨h.1,h.2.1,h.2.2.1,h.2.2.2.1,λt ht=>?_,?_⟩
   ·simp at ht;subst ht;exact hc
   ·rw[hx];exact⟨hs.1,by rw[hs.2.1]; exact hmn,hs.2.2,λd h1 h2=>hst d h1 (by rw[hs.2.1] at h2; exact h2),λt ht=>(by cases ht),hs.2.1⟩
 |a,x::y::r,h=>by
  refine⟨h.1,h.2.1,h.2.2.1,h.2.2.2.1,λt ht=>?_,cz.push hs hmn hst h.2.2.2.2.2⟩;obtain⟨y',r',e,hc⟩:=qxz s y r;rw[e] at ht;simp at ht;subst ht;rw[hc];exact h.2.2.2.2.1 y (by simp)
def vJ (k:eJ) (c:ar.den):eJ:=
 if c.2.2.1=1 then (k.1,c.2.2.2.1,k.2.2) else if c.2.2.1=2 then (k.1,k.2.1,c.2.2.2.2.1) else if c.2.2.1=3 then (false,k.2) else if c.2.2.1=4 then (true,k.2) else k
def OP (s:af.den) (c:ar.den):cA (jk s c)=vJ (cA s) c:=by
 unfold jk vJ;split
 ·rfl
 ·split
  ·rfl
  ·split
   ·rfl
   ·split<;>rfl
def ej (d:Int):List ar.den->eJ->eJ
 |[],k=>k
 |c::l,k=>ej d l (if c.2.1>d then k else vJ k c)
def JM (d:Int) (k:eJ) (m:List ar.den):(l:List ar.den)->(k:eJ)->ej d (l++m) k=ej d m (ej d l k)
 |[],k=>rfl
 |c::l,k=>JM d k m l _
def RO {d:Int}:{l:List ar.den}->(∀ c∈l,c.2.1>d)->(k:eJ)->ej d l k=k
 |[],_,_=>rfl
 |c::l,h,k=>by
  unfold ej;rw[if_pos (h c (by simp))];exact RO (λx hx=>h x (by simp[hx])) k
def zR {d d':Int}:{l:List ar.den}->(∀ c∈l,c.2.1<=d)->(∀ c∈l,c.2.1<=d')->(k:eJ)->ej d l k=ej d' l k
 |[],_,_,_=>rfl
 |c::l,h,h',k=>by
  unfold ej;rw[if_neg (ufl.2 (h c (by simp))),if_neg (ufl.2 (h' c (by simp)))];exact zR (λx hx=>h x (by simp[hx])) (λx hx=>h' x (by simp[hx])) _
def RL (h:ap.den) (d:Int):(l:List Int)->(s:af.den)->cA (fi h d l s)=ej d (l.map (aQ h)) (cA s)
 |[],s=>rfl
 |i::l,s=>by
  unfold fi;rw[RL h d l];simp only[uei,ej];congr 1;show cA (if cB h i>d then s else jk s (aQ h i))=if cB h i>d then cA s else vJ (cA s) (aQ h i)
  split
  ·rfl
  ·exact OP _ _
def gE (h:ap.den):List ar.den:=(bQ h).map (aQ h)
def kp (h:ap.den) (d:Int):eJ:=ej d (gE h) (true,h.2.2.1.2.1,h.2.2.1.2.2.1)
def jm (now:af.den) (out:List af.den) (day:Int):List af.den:=
 if now.1.1=day then out else j7 out ((now.1.1,day,()),now.2)
def kQ:List ar.den->af.den->List af.den->af.den×List af.den
 |[],now,out=>(now,out)
 |c::l,now,out=>kQ l (jk ((c.2.1,now.1.2.1,()),now.2) c) (jm now out c.2.1)
def Ku (h:ap.den):af.den:=((h.2.2.1.1.1,0,()),true,h.2.2.1.2.1,h.2.2.1.2.2.1,0,())
def ez (h:ap.den):List af.den:=jm (kQ (gE h) (Ku h) []).1 (kQ (gE h) (Ku h) []).2 h.2.2.1.1.2.1
def PD (s:af.den) (c:ar.den):(jk s c).1=s.1/\(jk s c).2.2.2.2.1=s.2.2.2.2.1:=by
 unfold jk;split
 ·exact⟨rfl,rfl⟩
 ·split
  ·exact⟨rfl,rfl⟩
  ·split
   ·exact⟨rfl,rfl⟩
   ·split<;>exact⟨rfl,rfl⟩
def PU {st:Int->eJ} {a n:Int} {now:af.den} {out:List af.den} (h:cz st now.1.1 a out) (hle:now.1.1<=n) (hy:now.2.2.2.2.1=(0:Int)) (hst:∀ d,now.1.1<=d->d<n->cA now=st d):cz st n a (jm now out n):=by
 unfold jm;by_cases he:now.1.1=n
 ·rw[if_pos he,<- he];exact h
 ·rw[if_neg he];have hlt:=Int.lt_iff_le_and_ne.2 ⟨hle,he⟩;exact cz.push (s:=((now.1.1,n,()),now.2)) ⟨rfl,rfl,hy⟩ hlt hst h
def Rn {all:List ar.den} {k0:eJ} {a b:Int} (hb:∀ c∈all,c.2.1<=b):(l p:List ar.den)->p++l=all->l.Pairwise (λx y=>x.2.1<=y.2.1)->(now:af.den)->(out:List af.den)->(∀ c∈p,c.2.1<=now.1.1)->(∀ c∈l,now.1.1<=c.2.1) ->
  now.1.1<=b->now.2.2.2.2.1=(0:Int)->cA now=ej now.1.1 p k0->cz (λd=>ej d all k0) now.1.1 a out ->
  cz (λd=>ej d all k0) b a (jm (kQ l now out).1 (kQ l now out).2 b)
 |[],p,hall,_,now,out,hp,_,hnb,hy,hc,hr=>by
  rw[udp] at hall;subst hall;show cz (λd=>ej d p k0) b a (jm now out b);refine PU hr hnb hy λd h1 h2=>?_;rw[hc];exact zR hp (λc h=>ue3 (hp c h) h1) k0
 |c::l,p,hall,hs,now,out,hp,hl,hnb,hy,hc,hr=>by
  rw[ub8] at hs;have hce:=hl c (by simp);have hr':cz (λd=>ej d all k0) c.2.1 a (jm now out c.2.1):=by
   refine PU hr hce hy λd h1 h2=>?_;rw[hc];rw[<- hall,JM d k0,RO (l:=c::l) (λx hx=>?_)]
   ·exact zR hp (λc h=>ue3 (hp c h) h1) k0
   ·rcases ueg.1 hx with rfl|hx
    ·exact h2
    ·exact Int.lt_of_lt_of_le h2 (hs.1 x hx)
  have hd:=PD ((c.2.1,now.1.2.1,()),now.2) c;have hf:(jk ((c.2.1,now.1.2.1,()),now.2) c).1.1=c.2.1:=by rw[hd.1]
  refine Rn hb l (p++[c]) (by simp[hall]) hs.2 _ _ (λx hx=>?_) (λx hx=>?_) ?_ ?_ ?_ ?_
  ·rw[hf];rcases udq.1 hx with hx|hx
   ·exact ue3 (hp x hx) hce
   ·simp at hx;subst hx;exact ufb _
  ·rw[hf]; exact hs.1 x hx
  ·rw[hf]; exact hb c (by rw[<- hall]; simp)
  ·rw[hd.2]; exact hy
  ·rw[hf,OP,JM _ k0];show vJ (cA now) c=ej c.2.1 [c] (ej c.2.1 p k0);simp only[ej];rw[if_neg (uem _),hc,zR hp (λx h=>ue3 (hp x h) hce)]
  ·rw[hf]; exact hr'
open Go.Ab.Fr renaming val->Jv,need->Jd,br->Jb
abbrev nO:Pt:=⟨68,0,⟨[(5,.d i64)],[.x 2 54 ap,.r 2 2 0,.x 3 24 aP,.r 3 3 0]⟩,⟨[],[.x 3 24 aP,.r 3 3 0]⟩,⟨[(4,.d .bool)],[]⟩⟩
abbrev tP:Type:=aq []×bW [.x 2 54 ap,.r 2 2 0,.x 3 24 aP,.r 3 3 0]
def ub (e:ar.den) (s:tP):Fr (tP ⊕ nO.R.X):=
 Jb (decide (((List.length e.2.2.2.2.1):Int)>50)) (Jv (.inr ((false,()),()))) (Jv (.inl ((),s.2.1,(s.2.2.1.1,()),())))
def jD (x:nO.M.X):Int×List ar.den×tP:=(x.1.1,x.2.1.2.2.2.1,x.1.2,x.2)
def R3 (x:nO.M.X):Prop:=True
def nw (s:tP):nO.E.X:=((),(s.2.2.1.1,()),())
def mS:tP:=(aW _,aZ _)
def HC:nO.R.X:=(aW _,aZ _)
def qtk:ah prog (.loop (aC f32 0)) nO.M nO (FL ub jD R3 nw Rd.back mS HC):=
 ln eI (λ_ _=>.n .o) ar.dflt (λx=>((x.2.1.2.2.2.1.length:Nat):Int)) (λx s=>((I6.wrap (x.1.1+1),s.1),s.2)) (λ_ _=>rfl)
def j9 (y:nO.M.X):tP ⊕ nO.R.X:=bc ub ((jD y).2.1.drop (jD y).1.toNat) (jD y).2.2
def SX (y:nO.M.X):Prop:=d7 ub ((jD y).2.1.drop (jD y).1.toNat) (jD y).2.2
abbrev nP:Pt:=⟨68,2,⟨[(6,.d i64)],[.x 3 24 aP,.r 3 3 0]⟩,⟨[],[]⟩,⟨[(4,.d .bool)],[]⟩⟩
abbrev tQ:Type:=aq []×bW [.x 3 24 aP,.r 3 3 0]
def AY (e:az.den) (s:tQ):Fr (tQ ⊕ nP.R.X):=
 Jb (bif bif decide (((List.length e.2.2.1):Int)>200) then true else decide (((List.length e.2.2.2.1):Int)>200) then true else decide (((List.length e.2.2.2.2.1):Int)>200)) (Jv (.inr ((false,()),()))) (Jv (.inl ((),(s.2.1.1,()),())))
def ry (x:nP.M.X):Int×List az.den×tQ:=(x.1.1,x.2.1.1,x.1.2,x.2)
def R4 (x:nP.M.X):Prop:=True
def qwo (s:tQ):nP.E.X:=((),())
def qfd:tQ:=(aW _,aZ _)
def HD:nP.R.X:=(aW _,aZ _)
def qtl:ah prog (.loop (aC f32 1)) nP.M nP (FL AY ry R4 qwo Rd.back qfd HD):=
 ln eI (λ_ _=>.n .o) az.dflt (λx=>((x.2.1.1.length:Nat):Int)) (λx s=>((I6.wrap (x.1.1+1),s.1),s.2)) (λ_ _=>rfl)
def AD (y:nP.M.X):tQ ⊕ nP.R.X:=bc AY ((ry y).2.1.drop (ry y).1.toNat) (ry y).2.2
def SY (y:nP.M.X):Prop:=d7 AY ((ry y).2.1.drop (ry y).1.toNat) (ry y).2.2
open Go.Ab.Fr renaming val->Jv,need->Jd,br->Jb
def qkx (x:aq [.d ap,.d aP]):Fr (ae [.bool]):=
 let a:=((0,()),x.1,(x.2.1.1,()),());let g:=j9 a;let c:=((0,()),((nw (cZ mS g)).2.1.1,()),());let b:=AD ((0,()),((nw (cZ mS (bc ub (List.drop (jD a).1.toNat (jD a).2.1) (jD a).2.2))).2.1.1,()),());Jb (bif bif decide (((List.length x.1.2.2.2.1):Int)>60) then true else decide (((List.length x.2.1.1):Int)>100) then true else decide (((List.length x.1.2.2.1.2.2.1):Int)>50)) (Jv (false,())) (Jd (InL (R3 a) (jD a)) (Jd (SX a) (Jb (bi g) (Jd (InL (R4 c) (ry c)) (Jd (SY c) (Jb (bi b) (Jv (true,())) (Jv ((ba HD b).1.1,()))))) (Jv ((ba HC g).1.1,())))))
def qky:aa prog 32 (aL [.d ap,.d aP] [.bool] qkx):=
 zr eI qtk qtl
open Go.Ab.Fr renaming val->Jv,need->Jd,br->Jb
def qt (c:ar.den):Bool:=decide (c.2.2.2.2.1.length<=50)
def sC (v:az.den):Bool:=decide (v.2.2.1.length<=200)&&(decide (v.2.2.2.1.length<=200)&&decide (v.2.2.2.2.1.length<=200))
def oR (h:ap.den) (t:aP.den):Bool:=(decide (h.2.2.2.1.length<=60)&&(decide (t.1.length<=100)&&decide (h.2.2.1.2.2.1.length<=50)))&&(h.2.2.2.1.all qt&&t.1.all sC)
def Co:Ct:=⟨[.d ap,.d aP],[.bool],λx=>(oR x.1 x.2.1,()),λ_=>[]⟩
def sI (n:Nat) (k:Nat):decide ((n:Int)>(k:Int)) = !decide (n<=k):=by
 rw[udv];simp only[uct,ucs,uau];omega
def qhj (e:ar.den) (s:tP):(ub e s).get=if qt e=true then .inl s else .inr ((false,()),()):=by
 show(if decide ((e.2.2.2.2.1.length:Int)>(50:Nat))=true then _ else _)=_;rw[sI];unfold qt;cases decide (e.2.2.2.2.1.length<=50)<;>rfl
def qnh (e:az.den) (s:tQ):(AY e s).get=if sC e=true then .inl s else .inr ((false,()),()):=by
 show(if (bif bif decide ((e.2.2.1.length:Int)>(200:Nat)) then true else decide ((e.2.2.2.1.length:Int)>(200:Nat)) then true else decide ((e.2.2.2.2.1.length:Int)>(200:Nat)))=true then _ else _)=_;rw[sI,sI,sI];unfold sC;cases decide (e.2.2.1.length<=200)<;>cases decide (e.2.2.2.1.length<=200)<;>cases decide (e.2.2.2.2.1.length<=200)<;>rfl
def PS {T σ:Type} (l:List T) (s:σ):kL (λ_ s=>s) l s=s:=by
 induction l with
 |nil=>rfl
 |cons e r ih=>exact ih
def qhy:aa prog 32 Co:=
 conv qky _ _ (λw F x vs hr _=>by
  obtain⟨h,t,_⟩:=x;obtain⟨v,vs',rfl,hv,v2,vs2,rfl,hv2,_⟩:=hr;have hwf:=aD.wf hv.2.2;have hwf2:=aD.wf hv2.2.2;have hlen:(h.2.2.2.1.length:Int)<=9223372036854775807:=np hwf.2.2.2.1.1;have hlen2:(t.1.length:Int)<=9223372036854775807:=np hwf2.1.1;have hres:=lz (p:=λe _=>qt e) (f:=λ_ s=>s) qhj h.2.2.2.1 ((),(h,(t,())));rw[BR,PS] at hres;have hres':j9 ((0,()),(h,(t,())))=if h.2.2.2.1.all qt=true then .inl ((),(h,(t,()))) else .inr ((false,()),()):=hres
  have hres2:=lz (p:=λe _=>sC e) (f:=λ_ s=>s) qnh t.1 ((),(t,()));rw[BR,PS] at hres2;have hres2':AD ((0,()),(t,()))=if t.1.all sC=true then .inl ((),(t,())) else .inr ((false,()),()):=hres2
  have ho:∀ s,SX s:=λs=>iv (step:=ub) (λe s=>⟨λ_=>uT,λ_=>uT⟩) _ _;have ho1:∀ s,SY s:=λs=>iv (step:=AY) (λe s=>⟨λ_=>uT,λ_=>uT⟩) _ _;have hcond:(bif bif decide ((h.2.2.2.1.length:Int)>(60:Nat)) then true else decide ((t.1.length:Int)>(100:Nat)) then true else decide ((h.2.2.1.2.2.1.length:Int)>(50:Nat))) = !(decide (h.2.2.2.1.length<=60)&&(decide (t.1.length<=100)&&decide (h.2.2.1.2.2.1.length<=50))):=by
   rw[sI,sI,sI];cases decide (h.2.2.2.1.length<=60)<;>cases decide (t.1.length<=100)<;>cases decide (h.2.2.1.2.2.1.length<=50)<;>rfl
  have hin2:bi (j9 ((0,()),(h,(t,()))))=true->(nw (cZ mS (j9 ((0,()),(h,(t,())))))).2.1=t:=by
   rw[hres'];cases h.2.2.2.1.all qt with
   |true=>exact λ_=>rfl
   |false=>exact λhh=>(by cases hh)
  have hlen3:bi (j9 ((0,()),(h,(t,()))))=true->(((nw (cZ mS (j9 ((0,()),(h,(t,())))))).2.1.1.length:Int))<=9223372036854775807:=λhh=>by
   rw[hin2 hh];exact hlen2
  refine⟨⟨λ_=>uT,λ_=>⟨⟨uT,ufb _,ub2 _,hlen⟩,ho _,λhh=>⟨⟨uT,ufb _,ub2 _,hlen3 hh⟩,ho1 _,λ_=>uT,λ_=>uT⟩,λ_=>uT⟩⟩,?_⟩;show(if (bif bif decide ((h.2.2.2.1.length:Int)>(60:Nat)) then true else decide ((t.1.length:Int)>(100:Nat)) then true else decide ((h.2.2.1.2.2.1.length:Int)>(50:Nat)))=true then ((false,()):Bool×Unit) else
   if bi (j9 ((0,()),(h,(t,()))))=true then (if bi (AD ((0,()),((nw (cZ mS (j9 ((0,()),(h,(t,())))))).2.1,())))=true then (true,()) else ((ba HD (AD ((0,()),((nw (cZ mS (j9 ((0,()),(h,(t,())))))).2.1,())))).1.1,()))
   else ((ba HC (j9 ((0,()),(h,(t,()))))).1.1,()))=(oR h t,())
  rw[hcond];unfold oR;by_cases hall:h.2.2.2.1.all qt=true
  ·rw[if_pos hall] at hres';rw[hin2 (by rw[hres']; rfl),hres',hres2',hall];cases (decide (h.2.2.2.1.length<=60)&&(decide (t.1.length<=100)&&decide (h.2.2.1.2.2.1.length<=50)))<;>cases t.1.all sC<;>rfl
  ·have hall':h.2.2.2.1.all qt=false:=by simpa using hall
   rw[if_neg hall] at hres';rw[hres',hall'];cases (decide (h.2.2.2.1.length<=60)&&(decide (t.1.length<=100)&&decide (h.2.2.1.2.2.1.length<=50)))<;>rfl)
open Go.Ab.Fr renaming val->Jv,need->Jd,br->Jb
abbrev mf:Pt:=⟨26,0,⟨[(5,.d i64),(0,.d bE),(4,.d i64)],[]⟩,⟨[(4,.d i64)],[]⟩,⟨[(2,.d i64),(3,.d .bool)],[]⟩⟩
abbrev tN:Type:=aq [.d i64]×bW []
def tX (e:i64.den) (s:tN):Fr (tN ⊕ mf.R.X):=
 Jb (decide (e>I6.wrap (4000000000000000000-s.1.1))) (Jv (.inr ((0,false,()),()))) (Jv (.inl ((I6.wrap (s.1.1+e),()),())))
def rq (x:mf.M.X):Int×List i64.den×tN:=(x.1.1,x.1.2.1,x.1.2.2,x.2)
def Rz (x:mf.M.X):Prop:=True
def KA (s:tN):mf.E.X:=((s.1.1,()),())
def HJ:tN:=(aW _,aZ _)
def yY:mf.R.X:=(aW _,aZ _)
def qtd:ah prog (.loop (aC f230 0)) mf.M mf (FL tX rq Rz KA Rd.back HJ yY):=
 ln eI (λ_ _=>.n (.d .o (.n .o))) i64.dflt (λx=>((x.1.2.1.length:Nat):Int)) (λx s=>((I6.wrap (x.1.1+1),x.1.2.1,s.1),s.2)) (λ_ _=>rfl)
def pq (y:mf.M.X):tN ⊕ mf.R.X:=bc tX ((rq y).2.1.drop (rq y).1.toNat) (rq y).2.2
def qvd (y:mf.M.X):Prop:=d7 tX ((rq y).2.1.drop (rq y).1.toNat) (rq y).2.2
def qx9 (l:List Int) (n:Int) (hn:0<=n/\n<=4000000000000000000) (hl:∀ e∈l,0<=e/\e<=9223372036854775807) :
  bc tX l ((n,()),())=if n+l.sum<=4000000000000000000 then .inl ((n+l.sum,()),()) else .inr ((0,false,()),()):=by
 induction l generalizing n with
 |nil=>
  have:n+([]:List Int).sum=n:=by simp
  rw[this,if_pos hn.2];rfl
 |cons e r ih=>
  have he:=hl e uca;have hr:∀ x∈r,0<=x/\x<=9223372036854775807:=λx hx=>hl x (ubg _ hx);have hs:0<=r.sum:=by
   clear ih hl
   induction r with
   |nil=>simp
   |cons x r ih=>
    have h1:=hr x uca;have h2:=ih (λy hy=>hr y (ubg _ hy));simp only[List.sum_cons];omega
  have hw:I6.wrap (4000000000000000000-n)=4000000000000000000-n:=cD (by omega);rw[List.sum_cons];by_cases h:e>4000000000000000000-n
  ·have hg:(tX e ((n,()),())).get = .inr ((0,false,()),()):=by
    show(if decide (e>I6.wrap (4000000000000000000-n))=true then _ else _)=_;rw[hw,if_pos (ud8 h)];rfl
   simp only[bc,hg];rw[if_neg (by omega)]
  ·have hw2:I6.wrap (n+e)=n+e:=cD (by omega);have hg:(tX e ((n,()),())).get = .inl ((n+e,()),()):=by
    show(if decide (e>I6.wrap (4000000000000000000-n))=true then _ else (.inl ((I6.wrap (n+e),()),()):tN ⊕ mf.R.X))=_;rw[hw,if_neg (by simpa using h),hw2]
   simp only[bc,hg];rw[ih (n+e) (by omega) hr,show n+e+r.sum=n+(e+r.sum) by omega]
open Go.Ab.Fr renaming val->Jv,need->Jd,br->Jb
def qkf (x:aq [.d bE]):Fr (ae [i64,.bool]):=
 let a:=((0,x.1,0,()),());let b:=pq a;let c:=ba yY b;Jd (InL (Rz a) (rq a)) (Jd (qvd a) (Jb (bi b) (Jv ((KA (cZ HJ b)).1.1,true,())) (Jv (c.1.1,c.1.2.1,()))))
def qkg:aa prog 230 (aL [.d bE] [i64,.bool] qkf):=
 bz eI qtd
def oq (l:List Int):Int×Bool:=if l.sum<=4000000000000000000 then (l.sum,true) else (0,false)
def Cy:Ct:=⟨[.d bE],[i64,.bool],λx=>((oq x.1).1,(oq x.1).2,()),λx=>[∀ e∈x.1,(0:Int)<=e]⟩
def zcw:aa prog 230 Cy:=
 conv qkg _ _ (λw F x vs hr hok=>by
  obtain⟨l,_⟩:=x;obtain⟨v,vs',rfl,hv,_⟩:=hr;have hlen:(l.length:Int)<=9223372036854775807:=fw hv;have hwf:=aD.wf (t:=bE) hv.2.2;have hok':∀ e∈l,(0:Int)<=e:=hok;have hb:∀ e∈l,(0:Int)<=e/\e<=9223372036854775807:=λe he=>by
   obtain⟨i,hi,rfl⟩:=List.mem_iff_getElem.1 he;exact⟨hok' _ he,(JN (hwf.2 i _ (uap hi))).2⟩
  refine⟨⟨⟨uT,ufb _,ub2 _,hlen⟩,iv (step:=tX) (λe s=>⟨λ_=>uT,λ_=>uT⟩) _ _,λ_=>uT,λ_=>uT⟩,?_⟩;have hres:pq ((0,l,0,()),())=_:=qx9 l 0 ⟨ufb _,by decide⟩ hb;rw[Int.zero_add] at hres;show(if bi (pq ((0,l,0,()),()))=true then (((KA (cZ HJ (pq ((0,l,0,()),())))).1.1,true,()):Int×Bool×Unit) else ((ba yY (pq ((0,l,0,()),()))).1.1,(ba yY (pq ((0,l,0,()),()))).1.2.1,()))=((oq l).1,(oq l).2,());rw[hres];unfold oq;by_cases h:l.sum<=4000000000000000000
  ·rw[if_pos h,if_pos h];rfl
  ·rw[if_neg h,if_neg h];rfl)
open Go.Ab.Fr renaming val->Jv,need->Jd,br->Jb
def gi (age:Int):List aS.den->Int->Int
 |[],d=>d
 |b::r,d=>if b.1<age then gi age r d else b.2.1
def NR (age:Int) (x:aS.den) (d:Int):(l:List aS.den)->gi age (l++[x]) d=gi age l (if x.1<age then d else x.2.1)
 |[]=>rfl
 |b::r=>by
  simp only[uc2,gi];rw[NR age x d r]
abbrev pi:Pt:=⟨27,0,⟨[(0,.d (.sl aS)),(1,.d i64),(5,.d i64),(6,.d i64)],[]⟩,⟨[(5,.d i64)],[]⟩,⟨[],[]⟩⟩
def Je (x:pi.M.X):Fr pi.Out:=
 let c:=x.1.2;let a:=c.2.2.1;let b:=x.1.1.getD a.toNat aS.dflt;Jb (decide (a>=0))
  (Jd (0<=a/\a<x.1.1.length)
   (Jb (decide (b.1>=c.1))
    (Jd (0<=a/\a<x.1.1.length)
     (Jv (Rd.next ((x.1.1,c.1,b.2.1,I6.wrap (a-1),()),()))))
    (Jv (Rd.next ((x.1.1,c.1,c.2.1,I6.wrap (a-1),()),())))))
  (Jv (Rd.out ((c.2.1,()),())))
def zbd:ah prog (aC f237 0) pi.M pi Je:=
 eH eI
structure InBd (l:List aS.den) (i:Int):Prop where
 lo : -1<=i
 hi:i<l.length
 big:(l.length:Int)<=9223372036854775807
def Ng (x:pi.M.X):Fr pi.Out:=
 Jd (InBd x.1.1 x.1.2.2.2.1) (Jv (Rd.out ((gi x.1.2.1 (x.1.1.take (x.1.2.2.2.1+1).toNat) x.1.2.2.1,()),())))
def qp9 (l:List aS.den) (age d i:Int) (hinv:InBd l i) (Q:pi.Out->Prop) (hq:Q (Rd.out ((gi age (l.take (i+1).toNat) d,()),()))) :
  (Je ((l,age,d,i,()),())).satP λ
   |.next x'=>InBd x'.1.1 x'.1.2.2.2.1/\(x'.1.2.2.2.1+1).toNat<(i+1).toNat/\(Ng x').satP Q
   |.out y=>Q (.out y)
   |.back z=>Q (.back z)
   |.pan p=>Q (.pan p):=by
 obtain⟨h1,h2,h3⟩:=hinv;refine⟨λhi=>?_,λhi=>?_⟩
 ·have hi':i>=0:=ucv hi;obtain⟨k,rfl⟩:∃ k:Nat,i=k:=⟨i.toNat,by omega⟩;have hl:k<l.length:=by omega
  have hw:I6.wrap ((k:Int)-1)=k-1:=IntWalk.i64_in _ (by omega);have g1:l.getD (k:Int).toNat aS.dflt=l[k]:=by
   rw[show(k:Int).toNat=k by omega,uah,uap hl]; rfl
  have ht:l.take ((k:Int)+1).toNat=l.take k++[l[k]]:=by
   rw[show((k:Int)+1).toNat=k+1 by omega];exact(uas hl).symm
  have hk:((k:Int)-1+1).toNat=k:=by omega
  rw[ht,NR] at hq;dsimp only[Je,Fr.satP];rw[hw,g1];have hI:InBd l ((k:Int)-1):=⟨by omega,by omega,h3⟩;have hμ:((k:Int)-1+1).toNat<((k:Int)+1).toNat:=by omega
  have hn:0<=(k:Int)/\(k:Int)<l.length:=⟨by omega,by omega⟩;refine⟨hn,λhc=>⟨hn,?_⟩,λhc=>?_⟩
  ·have hc':¬ l[k].1<age:=ufl.2 (ucv hc);rw[if_neg hc'] at hq;exact⟨hI,hμ,hI,by rw[hk]; exact hq⟩
  ·have hc':l[k].1<age:=ufk.1 (ucf hc);rw[if_pos hc'] at hq;exact⟨hI,hμ,hI,by rw[hk]; exact hq⟩
 ·have hi':¬ i>=0:=ucf hi;have e:(i+1).toNat=0:=by omega
  rw[e] at hq;exact hq
def qrq:ah prog (.loop (aC f237 0)) pi.M pi Ng:=by
 refine ah.loop (n:=27) (id:=0) zbd (inv:=λx=>InBd x.1.1 x.1.2.2.2.1) (μ:=λx=>(x.1.2.2.2.1+1).toNat) ?_ (λx Q h=>h.1);rintro⟨⟨l,age,d,i,_⟩,_⟩ hinv Q hq;exact qp9 l age d i hinv Q hq.2
def Cf:Ct:=⟨[.d (.sl aS),.d i64],[i64],λx=>(gi x.2.1 x.1 10000,()),λ_=>[]⟩
def qbh:aa prog 237 Cf:=
 conv (bz eI qrq (ps:=[.d (.sl aS),.d i64]) (rs:=[i64]) (fr:=λx=>Jd (InBd x.1 (I6.wrap (x.1.length-1))) (Jv (gi x.2.1 (x.1.take (I6.wrap (x.1.length-1)+1).toNat) 10000,())))) _ _ (λw F x vs hr _=>by
  obtain⟨l,age,_⟩:=x;obtain⟨v,vs',rfl,hv,_⟩:=hr;have hlen:(l.length:Int)<=9223372036854775807:=fw hv;have hw:I6.wrap ((l.length:Int)-1)=l.length-1:=IntWalk.i64_in _ (by omega);have ht:l.take ((l.length:Int)-1+1).toNat=l:=ua1 (by omega);refine⟨⟨?_,uT⟩,?_⟩
  ·show InBd l (I6.wrap ((l.length:Int)-1));rw[hw];exact⟨by omega,by omega,hlen⟩
  ·show(gi age (l.take (I6.wrap ((l.length:Int)-1)+1).toNat) 10000,())=(gi age l 10000,());rw[hw,ht])
open Go.Ab.Fr renaming val->Jv,need->Jd,br->Jb
def ur {α:Type}:Fr α->Fr α
 |.br true x _=>ur x
 |.br false _ y=>ur y
 |.need p x=>.need p (ur x)
 |.val v=>.val v
def Fy {α:Type}:{f:Fr α}->(ur f).ok->f.ok/\f.get=(ur f).get
 |.br true x _,h=>by
  have:=Fy (f:=x) h;exact⟨⟨λ_=>this.1,λhb=>(by cases hb)⟩,this.2⟩
 |.br false _ y,h=>by
  have:=Fy (f:=y) h;exact⟨⟨λhb=>(by cases hb),λ_=>this.1⟩,this.2⟩
 |.need _ x,h=>by
  have:=Fy h.2;exact⟨⟨h.1,this.1⟩,this.2⟩
 |.val _,_=>⟨uT,rfl⟩
def zft {α:Type} {f g:Fr α} (h:ur f=g) (hg:g.ok):f.ok/\f.get=g.get:=by
 subst h;exact Fy hg
def cg {P:Program} {f:FuncId} {ps:List PT} {rs:List Ty} {fr:aq ps->Fr (ae rs)} (h:aa P f (aL ps rs fr)) (g:aq ps->ae rs) (ok:aq ps->List Prop)
  (hg:∀ w F xs vs,dX P w F ps xs vs->aE (ok xs)->(fr xs).ok/\(fr xs).get=g xs):aa P f ⟨ps,rs,g,ok⟩:=
 conv h g ok hg
noncomputable def QH (x:aq [.d u64]):Fr (ae [i64]):=(mw prog (cx [] []) dM f224 [.d u64] [i64] x).getD (Jd False (Jv (0,())))
def qmf:ur (QH (10000,()))=Jd (¬ (8:Int)<0) (Jd (0<=(39:Int)/\(39:Int)<((256:Nat):Int)) (Jv (14,()))):=by kernel_rfl
def GX:Ct:=⟨[.d u64],[i64],λ_=>(14,()),λx=>[x.1=10000]⟩
def qrf:aa prog 224 GX:=
 cg (aH (aJ (cs:=[]) (ps:=[]) aG trivial trivial) f224) _ _
  (λw F x vs _ hok=>by
   obtain⟨n,_⟩:=x;have hn:=hok;subst hn;exact zft qmf ⟨by decide,⟨by decide,by decide⟩,uT⟩)
def Ow:Ct:=⟨[.d u64],[i64],λ_=>(50,()),λx=>[x.1=10000]⟩
def qt1:aa prog 207 Ow:=
 conv (aH (aJ (cs:=[(224,GX)]) (ps:=[]) aG ⟨qrf,uT⟩ trivial) f207 (fr:=λx=>Jd (x.1=10000) (Jv (I6.wrap (64-(GX.f (x.1,())).1),()))) (ps:=[.d u64])) _ _
  (λw F x vs _ hok=>⟨⟨hok,uT⟩,rfl⟩)
abbrev dU:PT:=.d u64
def uG:LS:=⟨[(2,dU),(8,dU),(9,dU),(10,dU),(11,dU),(13,dU),(14,dU),(15,dU),(16,dU)],[]⟩
def uH:LS:=⟨[(2,dU),(8,dU),(9,dU),(10,dU),(13,dU),(14,dU),(15,dU),(16,dU),(17,dU),(18,dU)],[]⟩
def Et:Pt:=⟨135,0,uG,uG,⟨[],[]⟩⟩
def Eu:Pt:=⟨135,2,uH,uH,⟨[],[]⟩⟩
def more (q yn r u:Int):Bool:=bif decide (q>=4294967296) then true else decide (IntKind.u64.wrap (q*yn)>IntKind.u64.wrap (IntKind.u64.wrap (4294967296*r)+u))
def fD0 (x:uG.X):Fr Et.Out:=
 match x with
 |((y,s,a,b,c,d,e,q,r,_),_)=>Jb (more q b r d)
  (Jb (decide (IntKind.u64.wrap (r+a)>=4294967296))
   (Jv (Rd.out ((y,s,a,b,c,d,e,IntKind.u64.wrap (q-1),IntKind.u64.wrap (r+a),()),())))
   (Jv (Rd.next ((y,s,a,b,c,d,e,IntKind.u64.wrap (q-1),IntKind.u64.wrap (r+a),()),()))))
  (Jv (Rd.out ((y,s,a,b,c,d,e,q,r,()),())))
def fD2 (x:uH.X):Fr Eu.Out:=
 match x with
 |((y,s,a,b,d,e,q,r,u,v,_),_)=>Jb (more v b r e)
  (Jb (decide (IntKind.u64.wrap (r+a)>=4294967296))
   (Jv (Rd.out ((y,s,a,b,d,e,q,IntKind.u64.wrap (r+a),u,IntKind.u64.wrap (v-1),()),())))
   (Jv (Rd.next ((y,s,a,b,d,e,q,IntKind.u64.wrap (r+a),u,IntKind.u64.wrap (v-1),()),()))))
  (Jv (Rd.out ((y,s,a,b,d,e,q,r,u,v,()),())))
def ZB (x:uG.X):Fr Et.Out:=Jd (more x.1.2.2.2.2.2.2.2.1 x.1.2.2.2.1 x.1.2.2.2.2.2.2.2.2.1 x.1.2.2.2.2.2.1=false) (Jv (.out x))
def ZC (x:uH.X):Fr Eu.Out:=Jd (more x.1.2.2.2.2.2.2.2.2.2.1 x.1.2.2.2.1 x.1.2.2.2.2.2.2.2.1 x.1.2.2.2.2.2.1=false) (Jv (.out x))
noncomputable def CD:Cx:=cx [(207,Ow)] []
def FI:CxOK prog CD:=aJ aG ⟨qt1,uT⟩ trivial
def zat:ah prog (aC f190 0) uG Et fD0:=ah.of_run FI (bs:=0) rfl rfl rfl (λ_=>bL _ 0) (λx=>by kernel_rfl)
def zau:ah prog (aC f190 1) uH Eu fD2:=ah.of_run FI (bs:=0) rfl rfl rfl (λ_=>bL _ 0) (λx=>by kernel_rfl)
def qgl:ah prog (.loop (aC f190 0)) uG Et ZB:=
 ah.loop zat (μ:=λ_=>0)
  (by
   rintro⟨⟨y,s,a,b,c,d,e,q,r,_⟩,_⟩ hinv Q hq;exact⟨λh=>(by rw[show more q b r d=false from hinv] at h; cases h),λ_=>hq.2⟩)
  (λx Q h=>h.1)
def qgm:ah prog (.loop (aC f190 1)) uH Eu ZC:=
 ah.loop zau (μ:=λ_=>0)
  (by
   rintro⟨⟨y,s,a,b,d,e,q,r,u,v,_⟩,_⟩ hinv Q hq;exact⟨λh=>(by rw[show more v b r e=false from hinv] at h; cases h),λ_=>hq.2⟩)
  (λx Q h=>h.1)
abbrev wU (n:Int):Int:=IntKind.u64.wrap n
def dt (a:Int):Int:=wU (a*2 ^ min (wU 50).toNat IntKind.u64.bits)
def ie (hi lo:Int):Int:=wU ((BitVec.ofInt IntKind.u64.bits (dt hi) ||| BitVec.ofInt IntKind.u64.bits (lo.fdiv (2 ^ min (wU (64-wU 50)).toNat IntKind.u64.bits))).toNat:Int)
def dQ (u y:Int):Int:=wU (u.tdiv (dK (dt y)))
def dR (u y:Int):Int:=wU (u-wU (dQ u y*dK (dt y)))
def kI (hi lo y:Int):Int:=wU (wU (wU (ie hi lo*4294967296)+dK (dt lo))-wU (dQ (ie hi lo) y*dt y))
def IJ (hi lo y:Int):Fr (ae [u64,u64]):=
 let k:=¬ (32:Int)<0;let h:=gc (dt y);let g:=dK (dt y)≠0;let d:=dt lo;let c:=ie hi lo;let b:=¬ wU 50<0;let a:=kI hi lo y;Jd (y=10000) (Jd b (Jd k (Jd b (Jd (¬ wU (64-wU 50)<0) (Jd b (Jd k
  (Jd g
   (Jd (more (dQ c y) h (dR c y) (dK d)=false)
    (Jd g
     (Jd (more (dQ a y) h (dR a y) (gc d)=false)
      (Jd b
       (Jv (wU (wU (dQ c y*4294967296)+dQ a y),
        (wU (wU (wU (kI hi lo y*4294967296)+gc d)-wU (dQ a y*dt y))).fdiv (2 ^ min (wU 50).toNat IntKind.u64.bits),())))))))))))))
def vY (x:aq [dU,dU,dU]):Fr (ae [u64,u64]):=
 let a:=x.2.2.1;Jb (a==0) (Jd False (Jv (0,0,())))
  (Jb (decide (a<=x.1)) (Jd False (Jv (0,0,())))
   (Jb (x.1==0) (Jd (a≠0) (Jd (a≠0) (Jv (IntKind.u64.wrap (x.2.1.tdiv a),x.2.1.tmod a,()))))
    (IJ x.1 x.2.1 a)))
def ax {α:Type} {b:Bool} {x y:Fr α} {v:α} (hb:b=false) (h:y.ok/\y.get=v):(Jb b x y).ok/\(Jb b x y).get=v:=by
 subst hb;exact⟨⟨λh=>(by cases h),λ_=>h.1⟩,h.2⟩
def ay {α:Type} {b:Bool} {x y:Fr α} {v:α} (hb:b=true) (h:x.ok/\x.get=v):(Jb b x y).ok/\(Jb b x y).get=v:=by
 subst hb;exact⟨⟨λ_=>h.1,λh=>(by cases h)⟩,h.2⟩
def au {α:Type} {p:Prop} {x:Fr α} {v:α} (hp:p) (h:x.ok/\x.get=v):(Jd p x).ok/\(Jd p x).get=v:=⟨⟨hp,h.1⟩,h.2⟩
def qf5:aa prog 190 (aL [dU,dU,dU] [u64,u64] vY):=
 zr FI qgl qgm
def UR {a:Int}:dt a=wU (a*1125899906842624):=by
 have e1:wU 50=50:=by decide
 have e2:min (50:Int).toNat IntKind.u64.bits=50:=by decide
 unfold dt;rfl
def qv9 {a b:Int} (h1:0<=a) (h2:0<=b) (h3:b<1125899906842624) (h4:a*1125899906842624<18446744073709551616) :
  wU ((BitVec.ofInt IntKind.u64.bits (a*1125899906842624) ||| BitVec.ofInt IntKind.u64.bits b).toNat:Int)=a*1125899906842624+b:=by
 obtain⟨m,rfl⟩:∃ m:Nat,a=m:=⟨a.toNat,by omega⟩;obtain⟨n,rfl⟩:∃ n:Nat,b=n:=⟨b.toNat,by omega⟩;have e1:(BitVec.ofInt IntKind.u64.bits ((m:Int)*1125899906842624)).toNat=m*1125899906842624:=by
  show(((m:Int)*1125899906842624)%((2 ^ 64:Nat):Int)).toNat=m*1125899906842624;omega
 have e2:(BitVec.ofInt IntKind.u64.bits (n:Int)).toNat=n:=by
  show((n:Int)%((2 ^ 64:Nat):Int)).toNat=n;omega
 have e3:(m*1125899906842624 ||| n)=m*1125899906842624+n:=by
  have:=Nat.shiftLeft_add_eq_or_of_lt (i:=50) (b:=n) (by omega) m;rw[Nat.shiftLeft_eq] at this;have e:(2:Nat) ^ 50=1125899906842624:=by decide
  exact this.symm
 rw[BitVec.toNat_or,e1,e2,e3];show IntKind.u64.wrap _=_;rw[dn (by omega)];omega
def qf2 {hi lo q1 q0 un32 un10 un1 un0 r1 un21:Int} (h1:0<=hi/\hi<10000) (h2:0<=lo/\lo<=18446744073709551615)
  (e32:un32=hi*1125899906842624+lo/16384) (e10:un10=lo*1125899906842624%18446744073709551616) (e1:un1=un10/4294967296) (e0:un0=un10%4294967296)
  (eq1:q1=un32/2621440000) (er:r1=un32-q1*2621440000) (e21:un21=r1*4294967296+un1) (eq0:q0=un21/2621440000) :
  un0=0/\0<=un1/\un1<4294967296/\0<=q1/\q1<4294967296/\0<=r1/\r1<2621440000/\0<=q0/\q0<4294967296/\q1*4294967296+q0=(hi*18446744073709551616+lo)/10000/\(un21-q0*2621440000)*4294967296/1125899906842624=(hi*18446744073709551616+lo)%10000:=by
 have a1:un1=(lo%16384)*262144:=by omega
 have a0:un0=0:=by omega
 have a2:0<=un1/\un1<4294967296:=by omega
 have b1:0<=q1/\q1<4294967296:=by omega
 have b2:0<=r1/\r1<2621440000:=by omega
 have b3:0<=q0/\q0<4294967296:=by omega
 refine⟨a0,a2.1,a2.2,b1.1,b1.2,b2.1,b2.2,b3.1,b3.2,?_,?_⟩
 ·omega
 ·omega
def SF {q r u:Int} (h1:0<=q/\q<4294967296):more q 0 r u=false:=by
 unfold more;have e1:decide (q>=4294967296)=false:=by simp; omega
 rw[e1,Int.mul_zero];have e2:IntKind.u64.wrap 0=0:=by decide
 have:0<=IntKind.u64.wrap (IntKind.u64.wrap (4294967296*r)+u):=by
  rw[IntKind.wrap_u64];omega
 simp;omega
def PF {u:Int} (h:0<=u/\u<18446744073709551616):wU (u.tdiv 2621440000)=u/2621440000:=by
 rw[Int.tdiv_eq_ediv_of_nonneg h.1];exact dn (by omega)
def g1L {q1 q0:Int} (h1:0<=q1/\q1<4294967296) (h0:0<=q0/\q0<4294967296):wU (wU (q1*4294967296)+q0)=q1*4294967296+q0:=by
 rw[show wU (q1*4294967296)=q1*4294967296 from dn (by omega)];exact dn (by omega)
def g2L {u q0:Int} (hq:q0=u/2621440000) (hu:0<=u/\u<18446744073709551616):wU (wU (wU (u*4294967296)+0)-wU (q0*11258999068426240000))=(u-q0*2621440000)*4294967296:=by
 simp only[IntKind.wrap_u64];omega
def qgv {u q1 u1:Int} (h:0<=u-q1*2621440000/\u-q1*2621440000<2621440000) (h1:0<=u1/\u1<4294967296):wU (wU (wU (u*4294967296)+u1)-wU (q1*11258999068426240000))=(u-q1*2621440000)*4294967296+u1:=by
 simp only[IntKind.wrap_u64];omega
def zei {r u1:Int} (h:0<=r/\r<2621440000) (h1:0<=u1/\u1<4294967296):0<=r*4294967296+u1/\r*4294967296+u1<18446744073709551616:=by omega
def zej {hi lo:Int} (h1:0<=hi/\hi<10000) (h2:0<=lo/\lo<=18446744073709551615):0<=hi*1125899906842624+lo/16384/\hi*1125899906842624+lo/16384<18446744073709551616:=by omega
def qf1 {hi lo:Int} (h0:hi≠0) (h1:0<=hi/\hi<10000) (h2:0<=lo/\lo<=18446744073709551615) :
  (vY (hi,lo,10000,())).ok/\(vY (hi,lo,10000,())).get=((hi*18446744073709551616+lo)/10000,(hi*18446744073709551616+lo)%10000,()):=by
 have ey:dt 10000=11258999068426240000:=by decide
 have ey1:dK (dt 10000)=2621440000:=by decide
 have ey0:gc (dt 10000)=0:=by decide
 have es:dt hi=hi*1125899906842624:=by rw[UR]; exact dn (by omega)
 have eu:ie hi lo=hi*1125899906842624+lo/16384:=by
  unfold ie;have e1:lo.fdiv (2 ^ min (wU (64-wU 50)).toNat IntKind.u64.bits)=lo/16384:=by
   have:(2:Int) ^ min (wU (64-wU 50)).toNat IntKind.u64.bits=16384:=by decide
   rw[this,uag _ (by decide)]
  rw[e1,es];exact qv9 (by omega) (by omega) (by omega) (by omega)
 have el:dt lo=lo*1125899906842624%18446744073709551616:=by rw[UR]; exact IntKind.wrap_u64 _
 have hs:0<=dt lo/\dt lo<=18446744073709551615:=by rw[el]; omega
 have eU1:dK (dt lo)=dt lo/4294967296:=RI;have eU0:=DM hs;have eq1:dQ (ie hi lo) 10000=ie hi lo/2621440000:=by
  unfold dQ;rw[ey1,eu];exact PF (zej h1 h2)
 obtain⟨k0,k1,k2,k3,k4,k5,k6,k7,k8,k9,k10⟩:=qf2 h1 h2 eu el eU1 eU0 eq1 rfl rfl rfl;have e21:kI hi lo 10000=(ie hi lo-dQ (ie hi lo) 10000*2621440000)*4294967296+dK (dt lo):=by
  unfold kI;exact qgv ⟨k5,k6⟩ ⟨k1,k2⟩
 have b21:=zei ⟨k5,k6⟩ ⟨k1,k2⟩;rw[<- e21] at k7 k8 k9 k10 b21;have eq0:dQ (kI hi lo 10000) 10000=kI hi lo 10000/2621440000:=by
  unfold dQ;exact PF b21
 rw[<- eq0] at k7 k8 k9 k10;have g1:wU (wU (dQ (ie hi lo) 10000*4294967296)+dQ (kI hi lo 10000) 10000)=(hi*18446744073709551616+lo)/10000:=by
  rw[<- k9];exact g1L ⟨k3,k4⟩ ⟨k7,k8⟩
 have g2:(wU (wU (wU (kI hi lo 10000*4294967296)+gc (dt lo))-wU (dQ (kI hi lo 10000) 10000*dt 10000))).fdiv (2 ^ min (wU 50).toNat IntKind.u64.bits)=(hi*18446744073709551616+lo)%10000:=by
  have e50:(2:Int) ^ min (wU 50).toNat IntKind.u64.bits=1125899906842624:=by decide
  rw[e50,ey,k0,uag _ (by decide),<- k10,g2L eq0 b21]
 have hge:¬ (10000:Int)<=hi:=by omega
 have h0':(hi==0)=false:=by simpa using h0
 refine ax rfl (ax (udt hge) (ax h0' ?_));refine au rfl (au (by decide) (au (by decide) (au (by decide) (au (by decide) (au (by decide) (au (by decide) (au ?_ (au ?_ (au ?_ (au ?_ (au (by decide) ⟨uT,?_⟩)))))))))))
 ·rw[ey1]; decide
 ·rw[ey0]; exact SF ⟨k3,k4⟩
 ·rw[ey1]; decide
 ·rw[ey0]; exact SF ⟨k7,k8⟩
 ·exact ufw g1 (ufw g2 rfl)
def Cm:Ct:=⟨[dU,dU,dU],[u64,u64],λx=>((x.1*18446744073709551616+x.2.1)/x.2.2.1,(x.1*18446744073709551616+x.2.1)%x.2.2.1,()),λx=>[(x.1=0/\0<x.2.2.1)\/(x.2.2.1=10000/\x.1<10000)]⟩
def qfz {lo y:Int} (b2:0<=lo/\lo<=18446744073709551615) (hy:0<y):(vY (0,lo,y,())).ok/\(vY (0,lo,y,())).get=((0*18446744073709551616+lo)/y,(0*18446744073709551616+lo)%y,()):=by
 rw[Int.zero_mul,Int.zero_add];have e1:(y==0)=false:=by simp; omega
 have e2:¬ y<=(0:Int):=by omega
 have e3:y≠0:=by omega
 refine ax e1 (ax (udt e2) (ay rfl (au e3 (au e3 ⟨uT,?_⟩))));exact ufw (IntWalk.u64_quo lo y ⟨b2.1,b2.2,by omega⟩) (ufw (IntWalk.rem_in lo y b2.1) rfl)
def qf0 : aa prog 190 Cm :=
  cg qf5 _ _ (λw F x vs hr hok => by
    obtain⟨hi, lo, y, _⟩ := x
    obtain⟨v1, vs1, rfl, h1, v2, vs2, rfl, h2, v3, vs3, rfl, h3, _⟩ := hr
    have b1 := Bm h1
    have b2 := Bm h2
    have hok' : (hi = 0 /\ 0 < y) \/ (y = 10000 /\ hi < 10000) := hok
    have hcase : (hi = 0 /\ 0 < y) \/ (hi ≠ 0 /\ y = 10000 /\ hi < 10000) := by
      by_cases hz : hi = 0
      · exact .inl ⟨hz, by rcases hok' with h | h
                           · exact h.2
                           · rw[h.1]; decide⟩
      · rcases hok' with h | h
        · exact absurd h.1 hz
        · exact .inr ⟨hz, h⟩
    rcases hcase with ⟨rfl, hy⟩ | ⟨h0, rfl, hlt⟩
    · exact qfz b2 hy
    · exact qf1 h0 ⟨b1.1, hlt⟩ b2)
open Go.Ab.Fr renaming val->Jv,need->Jd,br->Jb
def UL:Code->Code
 |.seq _ (.scope c)=>c
 |_=>.skip
def RJ:Code->Code
 |.seq a _=>a
 |_=>.skip
noncomputable def BT:Code:=(f161.body.map UL).getD .skip
noncomputable def NQ:Code:=(f161.body.map RJ).getD .skip
noncomputable def NS:Code:=(findLabel BT 0).getD .skip
def pN:LS:=⟨[(0,.d (.sl aS)),(1,.d i64)],[]⟩
def tk:Pt:=⟨20,0,pN,⟨[],[]⟩,⟨[(4,.d i64)],[]⟩⟩
def Ih (x:pN.X):Fr tk.Out:=
 match x with
 |((l,a,_),_)=>Jb ((l.length:Int)==0) (Jv (Rd.back ((10000,()),())))
  (Jd (0<=(0:Int)/\(0:Int)<l.length)
   (Jb (decide ((l.getD (Int.toNat 0) aS.dflt).1<a))
    (Jd (0<=(some (1:Int)).getD 0/\(some (1:Int)).getD 0<=(none:Option Int).getD l.length/\(none:Option Int).getD l.length<=l.length)
     (Jv (Rd.next ((List.take ((none:Option Int).getD l.length-(some (1:Int)).getD 0).toNat (List.drop ((some (1:Int)).getD 0).toNat l),a,()),()))))
    (Jd (0<=(0:Int)/\(0:Int)<l.length) (Jv (Rd.back (((l.getD (Int.toNat 0) aS.dflt).2.1,()),()))))))
def Gc (x:pN.X):Fr tk.Out:=Jv (.back ((gi x.1.2.1 x.1.1 10000,()),()))
def zan:g7 prog 0 BT pN tk Ih:=g7.of_run eI (bs:=0) rfl rfl rfl (λ_=>bL _ 0) (λx=>by kernel_rfl)
def zao:g7 prog 0 NS pN tk Ih:=g7.of_run eI (bs:=0) rfl rfl rfl (λ_=>bL _ 0) (λx=>by kernel_rfl)
def qbj (l:List aS.den) (a:Int) (Q:tk.Out->Prop) (hq:Q (.back ((gi a l 10000,()),()))) :
  (Ih ((l,a,()),())).satP λ
   |.next x'=>True/\x'.1.1.length<l.length/\(Gc x').satP Q
   |.out y=>Q (.out y)
   |.back z=>Q (.back z)
   |.pan p=>Q (.pan p):=by
 cases l with
 |nil=>exact⟨λ_=>hq,λh=>by cases h⟩
 |cons b r=>
  have h0:(0:Int)<((b::r).length:Int):=by simp only[uc7]; omega
  have h1:(((b::r).length:Int)==0)=false:=by simp; omega
  refine⟨λh=>(by rw[h1] at h; cases h),λ_=>⟨⟨ufb 0,h0⟩,λh=>⟨⟨by decide,?_,ufb _⟩,uT,?_,?_⟩,λh=>⟨⟨ufb 0,h0⟩,?_⟩⟩⟩
  ·show(1:Int)<=((b::r).length:Int);omega
  ·show(List.take (((b::r).length:Int)-1).toNat r).length<(b::r).length;rw[uc3];simp only[uc7];omega
  ·show Q (.back ((gi a (List.take (((b::r).length:Int)-1).toNat r) 10000,()),()));have e:List.take (((b::r).length:Int)-1).toNat r=r:=ua1 (by simp);have hc:b.1<a:=ucv h;rw[e];have:gi a (b::r) 10000=gi a r 10000:=if_pos hc;rw[<- this];exact hq
  ·have hc:¬ b.1<a:=ucf h;have:gi a (b::r) 10000=b.2.1:=if_neg hc;rw[this] at hq;exact hq
def qbl:ah prog (.scope BT) pN tk Gc:=
 g7.scope (n:=20) (id:=0) (N:=pN) (rest:=NS) (by kernel_rfl) zan zao (inv:=λ_=>True) (μ:=λx=>x.1.1.length)
  (by
   rintro⟨⟨l,a,_⟩,_⟩ _ Q hq;exact qbj l a Q hq)
  (λ_ _ _=>uT)
def qbm:aa prog 161 Cf:=
 cg (Rl (run:=ug (cU prog o5 0 dM NQ 0) (tk.han o5.Γ pN Gc)) (fn:=f161) (c:=.seq NQ (.scope BT)) (ps:=[.d (.sl aS),.d i64]) (rs:=[i64])
  (fr:=λx=>Jv (gi x.2.1 x.1 10000,())) ([],0,()) (by kernel_rfl) (by kernel_rfl)
  (λE=>Bk (vD eI (bL _ 0)) (ah.run eI rfl qbl)) (λx=>by kernel_rfl)) _ _ (λ_ _ _ _ _ _=>⟨uT,rfl⟩)
open Go.Ab.Fr renaming val->Jv,need->Jd,br->Jb
abbrev j5:Pt:=⟨29,0,⟨[(6,.d i64),(1,.d i64)],[.x 2 24 aP,.r 2 2 0,.x 4 132 az,.r 4 4 0]⟩,⟨[],[.x 4 132 az,.r 4 4 0]⟩,⟨[(5,.d i64)],[.x 4 132 az,.r 4 4 0]⟩⟩
def QX (x:j5.M.X):Fr j5.Out:=
 let b:=((List.length x.2.1.1):Int);let a:=List.getD x.2.1.1 (Int.toNat x.1.1) az.dflt;Jb (decide (x.1.1>=0)) (Jd (0<=x.1.1/\x.1.1<b) (Jb (decide (a.1<=x.1.2.1)) (Jd (0<=x.1.1/\x.1.1<b) (Jv (Rd.back ((0,()),a,())))) (Jv (Rd.next ((I6.wrap (x.1.1-1),x.1.2.1,()),(x.2.1.1,()),x.2.2.1,()))))) (Jv (Rd.out ((),x.2.2.1,())))
def zbn:ah prog (aC f216 0) j5.M j5 QX:=
 eH eI
abbrev xj:Type:=aq [.d i64]×bW [.x 2 24 aP,.r 2 2 0,.x 4 132 az,.r 4 4 0]
def og (e:az.den) (s:xj):Fr (xj ⊕ j5.R.X):=
 Jb (decide (e.1<=s.1.1)) (Jv (.inr ((0,()),e,()))) (Jv (.inl ((s.1.1,()),(s.2.1.1,()),s.2.2.1,())))
def mE (x:j5.M.X):Int×List az.den×xj:=(x.1.1,x.2.1.1,x.1.2,x.2)
def D4 (x:j5.M.X):Prop:=True
def Tl (s:xj):j5.E.X:=((),s.2.2.1,())
def P3:xj:=(aW _,aZ _)
def vG:j5.R.X:=(aW _,aZ _)
def qtf:ah prog (.loop (aC f216 0)) j5.M j5 (FD og mE D4 Tl Rd.back P3 vG):=by
 refine zfq zbn og mE D4 Tl Rd.back P3 vG ?_ ?_
 ·rintro⟨⟨i,s⟩,m⟩ hg h0 h1 hb e he Q h;have h0:0<=i:=h0;have h1:i<(m.1.1.length:Int):=h1;have hb:(m.1.1.length:Int)<=9223372036854775807:=hb;have hd:m.1.1.getD i.toNat az.dflt=e:=J3 he;have hw:=KM h0 h1 hb;dsimp only[mE,og,QX,Fr.satP] at h |-;simp only[hd,hw] at h |-;refine⟨λ_=>?_,λhn=>absurd h0 (ucf hn)⟩
  repeat' first
   |exact h
   |exact⟨h0,h1⟩
   |exact λ_=>⟨h0,h1⟩
   |exact h _ rfl trivial
   |refine⟨?_,?_⟩
   |(intro (hc:_=true); replace h:=h.1 hc)
   |(intro (hc:_=false); replace h:=h.2 hc)
 ·rintro⟨⟨i,s⟩,m⟩ hg h1 Q h;exact⟨λhn=>absurd (ucv hn) h1,λ_=>h⟩
def tC (y:j5.M.X):xj ⊕ j5.R.X:=bc og ((mE y).2.1.take ((mE y).1+1).toNat).reverse (mE y).2.2
def qvf (y:j5.M.X):Prop:=d7 og ((mE y).2.1.take ((mE y).1+1).toNat).reverse (mE y).2.2
open Go.Ab.Fr renaming val->Jv,need->Jd,br->Jb
def qkj (x:aq [.d aP,.d i64]):Fr (ae [az,i64]):=
 let a:=((I6.wrap (((List.length x.1.1):Int)-1),x.2.1,()),(x.1.1,()),(0,(0,0,0,0,()),[],[],[],0,()),());let b:=ba vG (tC a);Jd (InD (D4 a) (mE a)) (Jd (qvf a) (Jb (bi (tC a)) (Jv ((0,(0,0,0,0,()),[],[],[],0,()),7,())) (Jv (b.2.1,b.1.1,()))))
def qkk:aa prog 216 (aL [.d aP,.d i64] [az,i64] qkj):=
 bz eI qtf
def iT:az.den:=(0,(0,0,0,0,()),[],[],[],0,())
def bB (day:Int):List az.den->az.den×Int
 |[]=>(iT,7)
 |v::r=>if v.1<=day then (v,0) else bB day r
def yH:Ct:=⟨[.d aP,.d i64],[az,i64],λx=>((bB x.2.1 x.1.1.reverse).1,(bB x.2.1 x.1.1.reverse).2,()),λ_=>[]⟩
def Wh (day:Int):(l:List az.den)->(bB day l).2≠0->bB day l=(iT,7)
 |[],_=>rfl
 |v::r,h=>by
  unfold bB at h |-;by_cases hv:v.1<=day
  ·rw[if_pos hv] at h;exact absurd rfl h
  ·rw[if_neg hv] at h |-;exact Wh day r h
def zey (day:Int) (l:List az.den) (t:aP.den) (m:az.den):bc og l ((day,()),(t,(m,())))=if (bB day l).2=0 then .inr ((0,()),((bB day l).1,())) else .inl ((day,()),(t,(m,()))):=by
 induction l with
 |nil=>rfl
 |cons e r ih=>
  by_cases h:e.1<=day
  ·have hg:(og e ((day,()),(t,(m,())))).get = .inr ((0,()),(e,())):=if_pos (ud8 h);simp only[bc,hg,bB,if_pos h,if_true]
  ·have hg:(og e ((day,()),(t,(m,())))).get = .inl ((day,()),(t,(m,()))):=if_neg (by simpa using h);simp only[bc,hg,bB,if_neg h];exact ih
def qyq:aa prog 216 yH:=
 conv qkk _ _ (λw F x vs hr _=>by
  obtain⟨t,day,_⟩:=x;obtain⟨v,vs',rfl,hv,_⟩:=hr;have hwf:=aD.wf hv.2.2;have hlen:(t.1.length:Int)<=9223372036854775807:=np hwf.1.1;have hw:I6.wrap ((t.1.length:Int)-1)=t.1.length-1:=IntWalk.i64_in _ (by omega);have ht:t.1.take ((t.1.length:Int)-1+1).toNat=t.1:=ua1 (by omega);have hin:InD (D4 ((I6.wrap ((t.1.length:Int)-1),day,()),(t,(iT,())))) (mE ((I6.wrap ((t.1.length:Int)-1),day,()),(t,(iT,())))):=by
   rw[hw];exact⟨uT,(show(-1:Int)<=(t.1.length:Int)-1 by omega),(show(t.1.length:Int)-1<(t.1.length:Int) by omega),hlen⟩
  refine⟨⟨hin,iv (step:=og) (λe s=>⟨λ_=>uT,λ_=>uT⟩) _ _,λ_=>uT,λ_=>uT⟩,?_⟩;have hres:tC ((I6.wrap ((t.1.length:Int)-1),day,()),(t,(iT,())))=if (bB day t.1.reverse).2=0 then .inr ((0,()),((bB day t.1.reverse).1,())) else .inl ((day,()),(t,(iT,()))):=by
   have:=zey day (t.1.take ((t.1.length:Int)-1+1).toNat).reverse t iT;rw[ht] at this;rw[<- this,hw];show bc og (t.1.take ((t.1.length:Int)-1+1).toNat).reverse _=_;rw[ht];rfl
  show(if bi (tC ((I6.wrap ((t.1.length:Int)-1),day,()),(t,(iT,()))))=true then ((iT,7,()):az.den×Int×Unit) else ((ba vG (tC ((I6.wrap ((t.1.length:Int)-1),day,()),(t,(iT,()))))).2.1,(ba vG (tC ((I6.wrap ((t.1.length:Int)-1),day,()),(t,(iT,()))))).1.1,()))=((bB day t.1.reverse).1,(bB day t.1.reverse).2,());rw[hres];by_cases h:(bB day t.1.reverse).2=0
  ·rw[if_pos h,h];rfl
  ·rw[if_neg h,Wh _ _ h];rfl)
end Go.Proofs.YtgieagiaagoogaaGreat
