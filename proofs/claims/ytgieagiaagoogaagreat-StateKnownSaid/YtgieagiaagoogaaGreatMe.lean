/-
  Parts of the proof, one behind the other: I2, I3, I4, I5, I6, I7, I8, H2, H3, H4, H5, H6, H7, H8, H9, I9, I10, I11, H10, H11, H12, I28, H13, H14, H15, H18, I14, I16, H20, I17.
-/
import Derived.Test.YtgieagiaagoogaaGreatMd
namespace Go.Proofs.YtgieagiaagoogaaGreat
open Go Go.Ab Go.RowKit Go.Proofs
abbrev qej:Pt:=⟨53,0,⟨[(1,.d i64),(2,.d i64),(3,zh),(8,.d i64)],[.al 10000 0,.o 0 3 i64]⟩,⟨[],[.al 10000 0,.o 0 3 i64]⟩,⟨[],[]⟩⟩
noncomputable def ygb:Nat->St->Option Tr:=fun _=>qei.han CI0.Γ qei.M zql
def zco (x:qej.M.X):Fr qej.Out:=
 let a:=x.1.1; let b:=x.1.2.1; let g:=x.1.2.2.1; let i:=x.1.2.2.2.1; let l:=x.2.1
 Fr.br (decide (i < b))
  (Fr.need (InvInsI a i (g.1,g.2) l) (Fr.val (Rd.next ((a,b,(g.1,g.2),IntKind.i64.wrap (i+1),()),(wc (qz (g.1,g.2)) 0 a.toNat i.toNat l,())))))
  (Fr.val (Rd.out ((),(l,()))))
theorem yco {E:Env}:jt Tryz.prog E ygb (qo Tryz.f202 0) 0:=
 ycn (b:=zct) (by kernel_rfl) (by kernel_rfl) (qe.han vq rfl ycs)
theorem yd3:qe Tryz.prog (qo Tryz.f202 0) qej.M qej zco:=
 qe.of_run vq (bs:=0) (Λ:=ygb) rfl rfl rfl (fun E=>yco) (fun x=>by kernel_rfl)
theorem qxd {lt:Int->Int->Bool} {a:Nat}:(j:Nat) -> {l:List Int}->j < l.length->∀ x ∈ wc lt 0 a j l,x ∈ l
 |0,_,_,_,h=>h
 |j+1,l,hj,x,h=>by
  simp only [wc] at h
  split at h
  ·cases hc:lt (l.getD (j+1) 0) (l.getD j 0) with
   |true=>
    rw [hc] at h
    exact zfa hj (by omega) (qxd j (by rw [kx]; omega) x h)
   |false=>
    rw [hc] at h
    exact h
  ·exact h
theorem qkc {lt:Int->Int->Bool} {a:Nat}:(j:Nat) -> {l:List Int}->(wc lt 0 a j l).length=l.length
 |0,_=>rfl
 |j+1,l=>by
  simp only [wc]
  split
  ·cases lt (l.getD (j+1) 0) (l.getD j 0) with
   |true=>rw [cond_true,qkc j,kx]
   |false=>rfl
  ·rfl
structure InvInsO (a b i:Int) (g:zh.den) (l:List Int):Prop where
 a0:0<=a
 ai:a < i
 bl:b<=l.length
 il:i<=9223372036854775807
 big:(l.length:Int)<=9223372036854775807
 dom:qhr g l
def zqm (x:qej.M.X):Fr qej.Out:=
 Fr.need (InvInsO x.1.1 x.1.2.1 x.1.2.2.2.1 x.1.2.2.1 x.2.1) (Fr.val (Rd.out ((),(qed (qz x.1.2.2.1) 0 x.1.1.toNat (x.1.2.1 - x.1.2.2.2.1).toNat x.1.2.2.2.1.toNat x.2.1,()))))
theorem yiq (a b i:Int) (g:zh.den) (l:List Int) (hinv:InvInsO a b i g l) (Q:qej.Out->Prop)
  (hq:Q (Rd.out ((),(qed (qz g) 0 a.toNat (b - i).toNat i.toNat l,())))):(zco ((a,b,g,i,()),(l,()))).satP fun
   |.next x'=>InvInsO x'.1.1 x'.1.2.1 x'.1.2.2.2.1 x'.1.2.2.1 x'.2.1/\(x'.1.2.1 - x'.1.2.2.2.1).toNat < (b - i).toNat/\(zqm x').satP Q
   |.out y=>Q (.out y)
   |.back z=>Q (.back z)
   |.pan p=>Q (.pan p):=by
 obtain ⟨h0,h1,h2,h3,h4,h5⟩:=hinv
 dsimp only [zco,Fr.satP,Ty.den,PT.den]
 refine ⟨fun hi=>?_,fun hi=>?_⟩
 ·have hlt:i < b:=of_decide_eq_true hi
  have hw:IntKind.i64.wrap (i+1)=i+1:=IntWalk.i64_in _ (by omega)
  have hI:InvInsO a b (i+1) g (wc (qz g) 0 a.toNat i.toNat l):=⟨h0,by omega,by rw [qkc]; exact h2,by omega,by rw [qkc]; exact h4,h5.sub fun x hx=>qxd _ (by omega) x hx⟩
  refine ⟨⟨h0,by omega,by omega,h4,h5⟩,?_⟩
  rw [hw]
  refine ⟨hI,by omega,hI,?_⟩
  have e1:(b - i).toNat=(b - (i+1)).toNat+1:=by omega
  have e2:(i+1).toNat=i.toNat+1:=by omega
  rw [e1] at hq
  simp only [qed] at hq
  dsimp only
  rw [e2]
  exact hq
 ·have hge:¬ i < b:=of_decide_eq_false hi
  have e1:(b - i).toNat=0:=by omega
  rw [e1] at hq
  exact hq
theorem yct:qe Tryz.prog (.loop (qo Tryz.f202 0)) qej.M qej zqm:=by
 refine qe.loop (n:=53) (id:=0) yd3 (inv:=fun x=>InvInsO x.1.1 x.1.2.1 x.1.2.2.2.1 x.1.2.2.1 x.2.1) (μ:=fun x=>(x.1.2.1 - x.1.2.2.2.1).toNat) ?_ (fun x Q h=>h.1)
 rintro ⟨⟨a,b,g,i,_⟩,⟨l,_⟩⟩ hinv Q hq
 exact yiq a b i g l hinv Q hq.2
noncomputable def yqj:Nat->St->Option Tr:=fun _=>qej.han CI0.Γ qej.M zqm
def qgl (g:zh.den) (l:List Int):Prop:=qhr g l/\∃ key:Int->Int,LtK (qz g) key l
theorem qgl.sub {g:zh.den} {l s:List Int} (h:qgl g l) (hs:∀ x ∈ s,x ∈ l):qgl g s:=by
 obtain ⟨h1,key,h2⟩:=h
 exact ⟨h1.sub hs,key,h2.sub hs⟩
noncomputable def qke:Mt:=⟨3,i64,[.d i64,.d i64,zh],[],fun l x=>(zi (qz x.2.2.1) x.1.toNat x.2.1.toNat l,()),fun l x=>[0<=x.1,x.1<=x.2.1,x.2.1<=l.length,(l.length:Int)<=4611686018427387903,qgl x.2.2.1 l]⟩
def zd9 (l:List Int) (x:qm [.d i64,.d i64,zh]):Fr (List Int × qi []):=
 Fr.need (InvInsO x.1 x.2.1 (IntKind.i64.wrap (x.1+1)) (x.2.2.1.1,x.2.2.1.2) l)
  (Fr.val (qed (qz (x.2.2.1.1,x.2.2.1.2)) 0 x.1.toNat (x.2.1 - IntKind.i64.wrap (x.1+1)).toNat (IntKind.i64.wrap (x.1+1)).toNat l,()))
theorem zxc:SoundMt Tryz.prog 202 qke:=
 qqx (qkf vq (Λ:=yqj) (fn:=Tryz.f202) (fr:=zd9) (e:=3) (T:=i64) (ps:=[.d i64,.d i64,zh]) (rs:=[]) (0,0,(fun _=>(0,()),fun _=>True),()) (by kernel_rfl) rfl rfl
  (fun c E hc=>yz hc (by kernel_rfl) (b:=qo Tryz.f202 0) (by kernel_rfl) (qe.han vq rfl yct)) (fun l x=>by kernel_rfl)) _ _ fun w F l xs vs _ _ _ hok=>by
  obtain ⟨a,b,g,rfl⟩:∃ (a b:Int) (g:zh.den),xs=(a,b,g,()):=⟨xs.1,xs.2.1,xs.2.2.1,rfl⟩
  have hok':(0:Int)<=a/\(a:Int)<=b/\(b:Int)<=(List.length (α:=Int) l:Int)/\(List.length (α:=Int) l:Int)<=4611686018427387903/\qgl g l:=hok
  obtain ⟨h1,h2,h3,hlen,h4,key,h5⟩:=hok'
  have hw:IntKind.i64.wrap (a+1)=a+1:=IntWalk.i64_in _ (by omega)
  dsimp only [zd9,Fr.ok,Fr.get,Ty.den,PT.den]
  rw [hw]
  refine ⟨⟨⟨h1,by omega,h3,by omega,by omega,h4⟩,trivial⟩,?_⟩
  have:=zku (key:=key) (lt:=qz g) (d:=(0:Int)) (a:=a.toNat) (b:=b.toNat) (l:=l) (by omega) (by omega) h5
  show (qed (qz g) 0 a.toNat (b - (a+1)).toNat (a+1).toNat l,())=(zi (qz g) a.toNat b.toNat l,())
  rw [← this,show (b - (a+1)).toNat=b.toNat - (a.toNat+1) by omega,show (a+1).toNat=a.toNat+1 by omega]
abbrev qgc:Pt:=⟨38,0,⟨[(1,.d i64),(2,.d i64),(3,.d i64),(10,.d i64)],[.al 10000 0,.o 0 3 i64]⟩,⟨[],[.al 10000 0,.o 0 3 i64]⟩,⟨[],[]⟩⟩
def zkg (x:qgc.M.X):Fr qgc.Out:=
 let a:=x.1.1; let b:=x.1.2.1; let n:=x.1.2.2.1; let i:=x.1.2.2.2.1; let l:=x.2.1
 Fr.br (decide (i < n))
  (Fr.need (0<=IntKind.i64.wrap (b+i)/\IntKind.i64.wrap (b+i) < l.length)
   (Fr.need ((IntKind.i64.wrap (b+i)).toNat < l.length)
    (Fr.need (0<=IntKind.i64.wrap (a+i)/\IntKind.i64.wrap (a+i) < l.length)
     (Fr.need ((IntKind.i64.wrap (a+i)).toNat < l.length)
      (Fr.need (0<=IntKind.i64.wrap (a+i)/\IntKind.i64.wrap (a+i) < l.length)
       (Fr.need ((IntKind.i64.wrap (a+i)).toNat < l.length)
        (Fr.need (0<=IntKind.i64.wrap (b+i)/\IntKind.i64.wrap (b+i) < (l.set (IntKind.i64.wrap (a+i)).toNat (l.getD (IntKind.i64.wrap (b+i)).toNat i64.dflt)).length)
         (Fr.need ((IntKind.i64.wrap (b+i)).toNat < (l.set (IntKind.i64.wrap (a+i)).toNat (l.getD (IntKind.i64.wrap (b+i)).toNat i64.dflt)).length)
          (Fr.val (Rd.next ((a,b,n,IntKind.i64.wrap (i+1),()),
           ((l.set (IntKind.i64.wrap (a+i)).toNat (l.getD (IntKind.i64.wrap (b+i)).toNat i64.dflt)).set (IntKind.i64.wrap (b+i)).toNat (l.getD (IntKind.i64.wrap (a+i)).toNat i64.dflt),()))))))))))))
  (Fr.val (Rd.out ((),(l,()))))
theorem yjv:qe Tryz.prog (qo Tryz.f231 0) qgc.M qgc zkg:=
 qe.of_run vq (bs:=0) (Λ:=qp) rfl rfl rfl (fun E=>qd _ 0) (fun x=>by kernel_rfl)
structure InvSwp (a b n i:Int) (l:List Int):Prop where
 a0:0<=a
 b0:0<=b
 i0:0<=i
 al:a+n<=l.length
 bl:b+n<=l.length
 big:(l.length:Int)<=9223372036854775807
def zz7 (x:qgc.M.X):Fr qgc.Out:=
 Fr.need (InvSwp x.1.1 x.1.2.1 x.1.2.2.1 x.1.2.2.2.1 x.2.1) (Fr.val (Rd.out ((),(qar 0 (x.1.2.2.1 - x.1.2.2.2.1).toNat (x.1.1+x.1.2.2.2.1).toNat (x.1.2.1+x.1.2.2.2.1).toNat x.2.1,()))))
theorem ynd (a b n i:Int) (l:List Int) (hinv:InvSwp a b n i l) (Q:qgc.Out->Prop)
  (hq:Q (Rd.out ((),(qar 0 (n - i).toNat (a+i).toNat (b+i).toNat l,())))):(zkg ((a,b,n,i,()),(l,()))).satP fun
   |.next x'=>InvSwp x'.1.1 x'.1.2.1 x'.1.2.2.1 x'.1.2.2.2.1 x'.2.1/\(x'.1.2.2.1 - x'.1.2.2.2.1).toNat < (n - i).toNat/\(zz7 x').satP Q
   |.out y=>Q (.out y)
   |.back z=>Q (.back z)
   |.pan p=>Q (.pan p):=by
 obtain ⟨h0,h1,h2,h3,h4,h5⟩:=hinv
 dsimp only [zkg,Fr.satP,Ty.den,PT.den]
 refine ⟨fun hi=>?_,fun hi=>?_⟩
 ·have hlt:i < n:=of_decide_eq_true hi
  have w1:IntKind.i64.wrap (b+i)=b+i:=IntWalk.i64_in _ (by omega)
  have w2:IntKind.i64.wrap (a+i)=a+i:=IntWalk.i64_in _ (by omega)
  have w3:IntKind.i64.wrap (i+1)=i+1:=IntWalk.i64_in _ (by omega)
  rw [w1,w2,w3]
  simp only [List.length_set]
  refine ⟨⟨by omega,by omega⟩,by omega,⟨by omega,by omega⟩,by omega,⟨by omega,by omega⟩,by omega,⟨by omega,by omega⟩,by omega,?_⟩
  have hI:InvSwp a b n (i+1) (qb6 l 0 (a+i).toNat (b+i).toNat):=⟨h0,h1,by omega,by rw [kx]; omega,by rw [kx]; omega,by rw [kx]; omega⟩
  refine ⟨hI,by omega,hI,?_⟩
  rw [show (n - i).toNat=(n - (i+1)).toNat+1 by omega] at hq
  simp only [qar] at hq
  dsimp only
  rw [show (a+(i+1)).toNat=(a+i).toNat+1 by omega,show (b+(i+1)).toNat=(b+i).toNat+1 by omega]
  exact hq
 ·have hge:¬ i < n:=of_decide_eq_false hi
  rw [show (n - i).toNat=0 by omega] at hq
  exact hq
theorem yi1:qe Tryz.prog (.loop (qo Tryz.f231 0)) qgc.M qgc zz7:=by
 refine qe.loop (n:=38) (id:=0) yjv (inv:=fun x=>InvSwp x.1.1 x.1.2.1 x.1.2.2.1 x.1.2.2.2.1 x.2.1) (μ:=fun x=>(x.1.2.2.1 - x.1.2.2.2.1).toNat) ?_ (fun x Q h=>h.1)
 rintro ⟨⟨a,b,n,i,_⟩,⟨l,_⟩⟩ hinv Q hq
 exact ynd a b n i l hinv Q hq.2
noncomputable def yr3:Nat->St->Option Tr:=fun _=>qgc.han CI0.Γ qgc.M zz7
noncomputable def qsm:Mt:=⟨3,i64,[.d i64,.d i64,.d i64,zh],[],fun l x=>(qar 0 x.2.2.1.toNat x.1.toNat x.2.1.toNat l,()),fun l x=>[0<=x.1,0<=x.2.1,x.1+x.2.2.1<=l.length,x.2.1+x.2.2.1<=l.length]⟩
def yh4 (l:List Int) (x:qm [.d i64,.d i64,.d i64,zh]):Fr (List Int × qi []):=
 Fr.need (InvSwp x.1 x.2.1 x.2.2.1 0 l) (Fr.val (qar 0 (x.2.2.1 - 0).toNat (x.1+0).toNat (x.2.1+0).toNat l,()))
theorem yj4:SoundMt Tryz.prog 231 qsm:=
 qqx (qkf vq (Λ:=yr3) (fn:=Tryz.f231) (fr:=yh4) (e:=3) (T:=i64) (ps:=[.d i64,.d i64,.d i64,zh]) (rs:=[]) (0,0,0,(fun _=>(0,()),fun _=>True),()) (by kernel_rfl) rfl rfl
  (fun c E hc=>yz hc (by kernel_rfl) (b:=qo Tryz.f231 0) (by kernel_rfl) (qe.han vq rfl yi1)) (fun l x=>by kernel_rfl)) _ _ fun w F l xs vs _ hlen _ hok=>by
  obtain ⟨a,b,n,g,rfl⟩:∃ (a b n:Int) (g:zh.den),xs=(a,b,n,g,()):=⟨xs.1,xs.2.1,xs.2.2.1,xs.2.2.2.1,rfl⟩
  have hok':(0:Int)<=a/\(0:Int)<=b/\(a:Int)+n<=(List.length (α:=Int) l:Int)/\(b:Int)+n<=(List.length (α:=Int) l:Int):=hok
  obtain ⟨h1,h2,h3,h4⟩:=hok'
  have hlen:List.length (α:=Int) l<=maxLen:=hlen
  simp only [maxLen] at hlen
  refine ⟨⟨⟨h1,h2,Int.le_refl _,h3,h4,by omega⟩,trivial⟩,?_⟩
  show (qar 0 (n - 0).toNat (a+0).toNat (b+0).toNat l,())=(qar 0 n.toNat a.toNat b.toNat l,())
  rw [Int.sub_zero,Int.add_zero,Int.add_zero]
theorem qme {Q:Nat->Bool}:(f f' i j:Nat)->j - i<=f->j - i<=f'->bsG Q f i j=bsG Q f' i j
 |0,0,_,_,_,_=>rfl
 |0,f'+1,i,j,h,_=>by simp only [bsG]; rw [if_neg (by omega)]
 |f+1,0,i,j,_,h=>by simp only [bsG]; rw [if_neg (by omega)]
 |f+1,f'+1,i,j,h,h'=>by
  simp only [bsG]
  split
  ·cases Q ((i+j) / 2) with
   |true=>exact qme f f' _ _ (by omega) (by omega)
   |false=>exact qme f f' _ _ (by omega) (by omega)
  ·rfl
theorem qxs {Q:Nat->Bool} {i j:Nat} (h:i < j):bsG Q (j - i) i j=bif Q ((i+j) / 2) then bsG Q (j - ((i+j) / 2+1)) ((i+j) / 2+1) j else bsG Q ((i+j) / 2 - i) i ((i+j) / 2):=by
 obtain ⟨f,hf⟩:∃ f,j - i=f+1:=⟨j - i - 1,by omega⟩
 rw [hf]
 simp only [bsG]
 rw [if_pos h]
 cases Q ((i+j) / 2) with
 |true=>exact qme _ _ _ _ (by omega) (by omega)
 |false=>exact qme _ _ _ _ (by omega) (by omega)
theorem qk5 {α:Type} {d:α} {m:Nat}:(f f' i j:Nat)->(l:List α)->0 < i->0 < j->i+j<=f->i+j<=f'->qbt d m f i j l=qbt d m f' i j l
 |0,_,i,j,_,_,_,_,_=>by omega
 |f+1,0,i,j,_,_,_,_,_=>by omega
 |f+1,f'+1,i,j,l,h1,h2,h3,h4=>by
  simp only [qbt]
  split
  ·rfl
  ·split
   ·exact qk5 f f' _ _ _ (by omega) (by omega) (by omega) (by omega)
   ·exact qk5 f f' _ _ _ (by omega) (by omega) (by omega) (by omega)
noncomputable def CI1:Cx:=cxK [] [] (mtK (cx [] []).Γ 231 qsm)
theorem zhg:CxOK Tryz.prog CI1:=qcz qv trivial trivial (qnx vq.ct yj4)
abbrev qgb:Pt:=⟨58,0,⟨[(2,.d i64),(4,zh),(10,.d i64),(11,.d i64)],[.al 10000 0,.o 0 3 i64]⟩,⟨[(2,.d i64),(4,zh),(10,.d i64)],[.al 10000 0,.o 0 3 i64]⟩,⟨[],[]⟩⟩
noncomputable def zkd (x:qgb.M.X):Fr qgb.Out:=
 let m:=x.1.1; let g:=x.1.2.1; let i:=x.1.2.2.1; let j:=x.1.2.2.2.1; let l:=x.2.1
 Fr.br (i != j)
  (Fr.br (decide (i > j))
   (Fr.need (0<=IntKind.i64.wrap (m - i))
    (Fr.need (0<=m)
     (Fr.need (IntKind.i64.wrap (m - i)+j<=(l.length:Int))
      (Fr.need (m+j<=(l.length:Int))
       (Fr.val (Rd.next ((m,(g.1,g.2),IntKind.i64.wrap (i - j),j,()),((qsm.f l (IntKind.i64.wrap (m - i),m,j,(g.1,g.2),())).1,()))))))))
   (Fr.need (0<=IntKind.i64.wrap (m - i))
    (Fr.need (0<=IntKind.i64.wrap (IntKind.i64.wrap (m+j) - i))
     (Fr.need (IntKind.i64.wrap (m - i)+i<=(l.length:Int))
      (Fr.need (IntKind.i64.wrap (IntKind.i64.wrap (m+j) - i)+i<=(l.length:Int))
       (Fr.val (Rd.next ((m,(g.1,g.2),i,IntKind.i64.wrap (j - i),()),((qsm.f l (IntKind.i64.wrap (m - i),IntKind.i64.wrap (IntKind.i64.wrap (m+j) - i),i,(g.1,g.2),())).1,())))))))))
  (Fr.val (Rd.out ((m,(g.1,g.2),i,()),(l,()))))
theorem yjt:qe Tryz.prog (qo Tryz.f222 0) qgb.M qgb zkd:=
 qe.of_run zhg (bs:=0) (Λ:=qp) rfl rfl rfl (fun E=>qd _ 0) (fun x=>by kernel_rfl)
theorem qc7:(n a b:Nat)->(l:List Int)->(qar 0 n a b l).length=l.length
 |0,_,_,_=>rfl
 |n+1,a,b,l=>by simp only [qar]; rw [qc7 n,kx]
structure InvRot (m i j:Int) (l:List Int):Prop where
 i0:0 < i
 j0:0 < j
 im:i<=m
 ml:m+j<=l.length
 big:(l.length:Int)<=4611686018427387903
def zz5 (x:qgb.M.X):Fr qgb.Out:=
 Fr.need (InvRot x.1.1 x.1.2.2.1 x.1.2.2.2.1 x.2.1) (Fr.val (Rd.out ((x.1.1,x.1.2.1,((qbt 0 x.1.1.toNat (x.1.2.2.1.toNat+x.1.2.2.2.1.toNat) x.1.2.2.1.toNat x.1.2.2.2.1.toNat x.2.1).1:Nat),()),
  ((qbt 0 x.1.1.toNat (x.1.2.2.1.toNat+x.1.2.2.2.1.toNat) x.1.2.2.1.toNat x.1.2.2.2.1.toNat x.2.1).2,()))))
theorem ynb (m i j:Int) (g:zh.den) (l:List Int) (hinv:InvRot m i j l) (Q:qgb.Out->Prop)
  (hq:Q (Rd.out ((m,g,((qbt 0 m.toNat (i.toNat+j.toNat) i.toNat j.toNat l).1:Nat),()),((qbt 0 m.toNat (i.toNat+j.toNat) i.toNat j.toNat l).2,())))):(zkd ((m,g,i,j,()),(l,()))).satP fun
   |.next x'=>InvRot x'.1.1 x'.1.2.2.1 x'.1.2.2.2.1 x'.2.1/\x'.1.2.2.1.toNat+x'.1.2.2.2.1.toNat < i.toNat+j.toNat/\(zz5 x').satP Q
   |.out y=>Q (.out y)
   |.back z=>Q (.back z)
   |.pan p=>Q (.pan p):=by
 obtain ⟨h0,h1,h2,h3,h4⟩:=hinv
 obtain ⟨f,hf⟩:∃ f,i.toNat+j.toNat=f+1:=⟨i.toNat+j.toNat - 1,by omega⟩
 have w1:IntKind.i64.wrap (m - i)=m - i:=IntWalk.i64_in _ (by omega)
 have w2:IntKind.i64.wrap (i - j)=i - j:=IntWalk.i64_in _ (by omega)
 have w3:IntKind.i64.wrap (m+j)=m+j:=IntWalk.i64_in _ (by omega)
 have w4:IntKind.i64.wrap (m+j - i)=m+j - i:=IntWalk.i64_in _ (by omega)
 have w5:IntKind.i64.wrap (j - i)=j - i:=IntWalk.i64_in _ (by omega)
 dsimp only [zkd,Fr.satP,Ty.den,PT.den,qsm]
 rw [w1,w2,w3,w4,w5]
 rw [hf] at hq
 simp only [qbt] at hq
 refine ⟨fun hc=>⟨fun hd=>?_,fun hd=>?_⟩,fun hc=>?_⟩
 ·have hgt:i > j:=of_decide_eq_true hd
  rw [if_neg (by omega),if_pos (by omega)] at hq
  have hI:InvRot m (i - j) j (qar 0 j.toNat (m - i).toNat m.toNat l):=⟨by omega,h1,by omega,by rw [qc7]; omega,by rw [qc7]; omega⟩
  refine ⟨by omega,by omega,by omega,by omega,hI,by omega,hI,?_⟩
  dsimp only [Ty.den,PT.den]
  rw [qk5 _ f (i - j).toNat j.toNat _ (by omega) (by omega) (Nat.le_refl _) (by omega),show (i - j).toNat=i.toNat - j.toNat by omega,show (m - i).toNat=m.toNat - i.toNat by omega]
  exact hq
 ·have hle:¬ i > j:=of_decide_eq_false hd
  have hne:i ≠ j:=by simpa using hc
  rw [if_neg (by omega),if_neg (by omega)] at hq
  have hI:InvRot m i (j - i) (qar 0 i.toNat (m - i).toNat (m+j - i).toNat l):=⟨h0,by omega,h2,by rw [qc7]; omega,by rw [qc7]; omega⟩
  refine ⟨by omega,by omega,by omega,by omega,hI,by omega,hI,?_⟩
  dsimp only [Ty.den,PT.den]
  rw [qk5 _ f i.toNat (j - i).toNat _ (by omega) (by omega) (Nat.le_refl _) (by omega),show (j - i).toNat=j.toNat - i.toNat by omega,show (m - i).toNat=m.toNat - i.toNat by omega,show (m+j - i).toNat=m.toNat+j.toNat - i.toNat by omega]
  exact hq
 ·have heq:i=j:=by simpa using hc
  rw [if_pos (by omega)] at hq
  have:((i.toNat:Nat):Int)=i:=by omega
  rw [this] at hq
  exact hq
theorem yiz:qe Tryz.prog (.loop (qo Tryz.f222 0)) qgb.M qgb zz5:=by
 refine qe.loop (n:=58) (id:=0) yjt (inv:=fun x=>InvRot x.1.1 x.1.2.2.1 x.1.2.2.2.1 x.2.1) (μ:=fun x=>x.1.2.2.1.toNat+x.1.2.2.2.1.toNat) ?_ (fun x Q h=>h.1)
 rintro ⟨⟨m,g,i,j,_⟩,⟨l,_⟩⟩ hinv Q hq
 exact ynb m i j g l hinv Q hq.2
noncomputable def yr1:Nat->St->Option Tr:=fun _=>qgb.han CI1.Γ qgb.M zz5
theorem qs7 {m:Nat}:(f i j:Nat)->(l:List Int)->0 < i->0 < j->i+j<=f->0 < (qbt 0 m f i j l).1/\(qbt 0 m f i j l).1<=i/\(qbt 0 m f i j l).1<=j/\(qbt 0 m f i j l).2.length=l.length
 |0,i,j,l,_,_,_=>by omega
 |f+1,i,j,l,h1,h2,h3=>by
  simp only [qbt]
  split
  ·exact ⟨h1,Nat.le_refl _,by omega,rfl⟩
  ·split
   ·have:=qs7 (m:=m) f (i - j) j (qar 0 j (m - i) m l) (by omega) h2 (by omega)
    rw [qc7] at this
    omega
   ·have:=qs7 (m:=m) f i (j - i) (qar 0 i (m - i) (m+j - i) l) h1 (by omega) (by omega)
    rw [qc7] at this
    omega
noncomputable def ycv:Mt:=⟨3,i64,[.d i64,.d i64,.d i64,zh],[],fun l x=>(qu9 0 x.1.toNat x.2.1.toNat x.2.2.1.toNat l,()),fun l x=>[0<=x.1,x.1 < x.2.1,x.2.1 < x.2.2.1,x.2.2.1<=l.length,(l.length:Int)<=4611686018427387903]⟩
def roI (m i j:Int) (l:List Int):Int:=((qbt 0 m.toNat (i.toNat+j.toNat) i.toNat j.toNat l).1:Nat)
def roL (m i j:Int) (l:List Int):List Int:=(qbt 0 m.toNat (i.toNat+j.toNat) i.toNat j.toNat l).2
noncomputable def zea (l:List Int) (x:qm [.d i64,.d i64,.d i64,zh]):Fr (List Int × qi []):=
 let a:=x.1; let m:=x.2.1; let b:=x.2.2.1; let g:=x.2.2.2.1
 let i:=roI m (IntKind.i64.wrap (m - a)) (IntKind.i64.wrap (b - m)) l
 let r:=roL m (IntKind.i64.wrap (m - a)) (IntKind.i64.wrap (b - m)) l
 Fr.need (InvRot m (IntKind.i64.wrap (m - a)) (IntKind.i64.wrap (b - m)) l)
 (Fr.need (0<=IntKind.i64.wrap (m - i))
  (Fr.need (0<=m)
   (Fr.need (IntKind.i64.wrap (m - i)+i<=(r.length:Int))
    (Fr.need (m+i<=(r.length:Int))
     (Fr.val ((qsm.f r (IntKind.i64.wrap (m - i),m,i,(g.1,g.2),())).1,()))))))
theorem zyh:SoundMt Tryz.prog 222 ycv:=
 qqx (qkf zhg (Λ:=yr1) (fn:=Tryz.f222) (fr:=zea) (e:=3) (T:=i64) (ps:=[.d i64,.d i64,.d i64,zh]) (rs:=[]) (0,0,0,(fun _=>(0,()),fun _=>True),()) (by kernel_rfl) rfl rfl
  (fun c E hc=>yz hc (by kernel_rfl) (b:=qo Tryz.f222 0) (by kernel_rfl) (qe.han zhg rfl yiz)) (fun l x=>by kernel_rfl)) _ _ fun w F l xs vs _ _ _ hok=>by
  obtain ⟨a,m,b,g,rfl⟩:∃ (a m b:Int) (g:zh.den),xs=(a,m,b,g,()):=⟨xs.1,xs.2.1,xs.2.2.1,xs.2.2.2.1,rfl⟩
  have hok':(0:Int)<=a/\(a:Int) < m/\(m:Int) < b/\(b:Int)<=(List.length (α:=Int) l:Int)/\(List.length (α:=Int) l:Int)<=4611686018427387903:=hok
  obtain ⟨h1,h2,h3,h4,h5⟩:=hok'
  have w1:IntKind.i64.wrap (m - a)=m - a:=IntWalk.i64_in _ (by omega)
  have w2:IntKind.i64.wrap (b - m)=b - m:=IntWalk.i64_in _ (by omega)
  have hf:=qs7 (m:=m.toNat) ((m - a).toNat+(b - m).toNat) (m - a).toNat (b - m).toNat l (by omega) (by omega) (Nat.le_refl _)
  dsimp only [zea,Fr.ok,Fr.get,Ty.den,PT.den,qsm,roI,roL]
  rw [w1,w2]
  have e1:qu9 0 a.toNat m.toNat b.toNat l=qar 0 (qbt 0 m.toNat ((m - a).toNat+(b - m).toNat) (m - a).toNat (b - m).toNat l).1 (m.toNat - (qbt 0 m.toNat ((m - a).toNat+(b - m).toNat) (m - a).toNat (b - m).toNat l).1) m.toNat (qbt 0 m.toNat ((m - a).toNat+(b - m).toNat) (m - a).toNat (b - m).toNat l).2:=by
   unfold qu9
   rw [show b.toNat - a.toNat=(m - a).toNat+(b - m).toNat by omega,show m.toNat - a.toNat=(m - a).toNat by omega,show b.toNat - m.toNat=(b - m).toNat by omega]
  generalize qbt 0 m.toNat ((m - a).toNat+(b - m).toNat) (m - a).toNat (b - m).toNat l=r at hf e1 ⊢
  have w3:IntKind.i64.wrap (m - (r.1:Int))=m - r.1:=IntWalk.i64_in _ (by omega)
  rw [w3]
  refine ⟨⟨⟨by omega,by omega,by omega,by omega,h5⟩,by omega,by omega,by omega,by omega,trivial⟩,?_⟩
  show (qar 0 (r.1:Int).toNat (m - r.1).toNat m.toNat r.2,())=(qu9 0 a.toNat m.toNat b.toNat l,())
  rw [e1,show (r.1:Int).toNat=r.1 by omega,show (m - (r.1:Int)).toNat=m.toNat - r.1 by omega]
def wa (i j:Int):Int:=IntKind.i64.wrap ((IntKind.u64.wrap (IntKind.i64.wrap (i+j))).fdiv (2 ^ min (Int.toNat 1) IntKind.u64.bits))
theorem qso {i j:Nat} (h:i+j<=9223372036854775807):wa (i:Int) j=((i+j) / 2:Nat):=yb6 h
abbrev qjr:Pt:=⟨220,0,⟨[(1,.d i64),(4,zh),(10,.d i64),(11,.d i64)],[.al 10000 0,.o 0 3 i64]⟩,⟨[(1,.d i64),(10,.d i64)],[.al 10000 0,.o 0 3 i64]⟩,⟨[],[]⟩⟩
def zsn (x:qjr.M.X):Fr qjr.Out:=
 let c:=x.1.1; let g:=x.1.2.1; let i:=x.1.2.2.1; let j:=x.1.2.2.2.1; let l:=x.2.1
 Fr.br (decide (i < j))
  (Fr.need (¬(1:Int) < 0)
   (Fr.need (0<=wa i j/\wa i j < (l.length:Int))
    (Fr.need ((wa i j).toNat < l.length)
     (Fr.need (0<=c/\c < (l.length:Int))
      (Fr.need ((c).toNat < l.length)
       (Fr.need (g.2 (l.getD (wa i j).toNat i64.dflt,l.getD c.toNat i64.dflt,()))
        (Fr.br (decide ((g.1 (l.getD (wa i j).toNat i64.dflt,l.getD c.toNat i64.dflt,())).1 < 0))
         (Fr.val (Rd.next ((c,(g.1,g.2),IntKind.i64.wrap (wa i j+1),j,()),(l,()))))
         (Fr.val (Rd.next ((c,(g.1,g.2),i,wa i j,()),(l,())))))))))))
  (Fr.val (Rd.out ((c,i,()),(l,()))))
theorem yoe:qe Tryz.prog (qo Tryz.f203 0) qjr.M qjr zsn:=
 qe.of_run vq (bs:=0) (Λ:=qp) rfl rfl rfl (fun E=>qd _ 0) (fun x=>by kernel_rfl)
structure InvS0 (c i j:Int) (g:zh.den) (l:List Int):Prop where
 c0:0<=c
 cl:c < l.length
 i0:0<=i
 ij:i<=j
 jl:j<=l.length
 big:(l.length:Int)<=4611686018427387903
 dom:qhr g l
def FS0 (x:qjr.M.X):Fr qjr.Out:=
 let c:=x.1.1; let g:=x.1.2.1; let i:=x.1.2.2.1; let j:=x.1.2.2.2.1; let l:=x.2.1
 Fr.need (InvS0 c i j g l) (Fr.val (Rd.out ((c,(bsG (fun h=>qz g (l.getD h 0) (l.getD c.toNat 0)) (j.toNat - i.toNat) i.toNat j.toNat:Nat),()),(l,()))))
theorem ypt (c i j:Int) (g:zh.den) (l:List Int) (hinv:InvS0 c i j g l) (Q:qjr.Out->Prop)
  (hq:Q (Rd.out ((c,(bsG (fun h=>qz g (l.getD h 0) (l.getD c.toNat 0)) (j.toNat - i.toNat) i.toNat j.toNat:Nat),()),(l,())))):(zsn ((c,g,i,j,()),(l,()))).satP fun
   |.next x'=>InvS0 x'.1.1 x'.1.2.2.1 x'.1.2.2.2.1 x'.1.2.1 x'.2.1/\(x'.1.2.2.2.1 - x'.1.2.2.1).toNat < (j - i).toNat/\(FS0 x').satP Q
   |.out y=>Q (.out y)
   |.back z=>Q (.back z)
   |.pan p=>Q (.pan p):=by
 obtain ⟨h0,h1,h2,h3,h4,hb,hd⟩:=hinv
 obtain ⟨i',rfl⟩:∃ n:Nat,i=n:=⟨i.toNat,by omega⟩
 obtain ⟨j',rfl⟩:∃ n:Nat,j=n:=⟨j.toNat,by omega⟩
 obtain ⟨c',rfl⟩:∃ n:Nat,c=n:=⟨c.toNat,by omega⟩
 have hm:wa (i':Int) j'=((i'+j') / 2:Nat):=qso (by omega)
 have hw:IntKind.i64.wrap ((((i'+j') / 2:Nat):Int)+1)=((i'+j') / 2+1:Nat):=qoe (by omega)
 dsimp only [zsn,Fr.satP,Ty.den,PT.den]
 rw [hm,hw]
 simp only [Int.toNat_natCast] at hq ⊢
 refine ⟨fun hi=>?_,fun hi=>?_⟩
 ·have hlt:i' < j':=by have:(i':Int) < j':=of_decide_eq_true hi; omega
  rw [qxs hlt] at hq
  have hml:(i'+j') / 2 < l.length:=by omega
  have hcl:c' < l.length:=by omega
  refine ⟨by omega,⟨by omega,by omega⟩,by omega,⟨by omega,by omega⟩,by omega,hd _ (vo hml) _ (vo hcl),fun hc=>?_,fun hc=>?_⟩
  ·have hc':(qz g (l.getD ((i'+j') / 2) 0) (l.getD c' 0))=true:=hc
   rw [hc'] at hq
   have hI:InvS0 (c':Int) ((i'+j') / 2+1:Nat) j' g l:=⟨h0,h1,by omega,by omega,by omega,hb,hd⟩
   exact ⟨hI,by omega,hI,hq⟩
  ·have hc':(qz g (l.getD ((i'+j') / 2) 0) (l.getD c' 0))=false:=hc
   rw [hc'] at hq
   have hI:InvS0 (c':Int) i' ((i'+j') / 2:Nat) g l:=⟨h0,h1,by omega,by omega,by omega,hb,hd⟩
   exact ⟨hI,by omega,hI,hq⟩
 ·have hge:¬ i' < j':=by have:¬ (i':Int) < j':=of_decide_eq_false hi; omega
  rw [show j' - i'=0 by omega] at hq
  exact hq
theorem ynk:qe Tryz.prog (.loop (qo Tryz.f203 0)) qjr.M qjr FS0:=by
 refine qe.loop (n:=220) (id:=0) yoe (inv:=fun x=>InvS0 x.1.1 x.1.2.2.1 x.1.2.2.2.1 x.1.2.1 x.2.1) (μ:=fun x=>(x.1.2.2.2.1 - x.1.2.2.1).toNat) ?_ (fun x Q h=>h.1)
 rintro ⟨⟨c,g,i,j,_⟩,⟨l,_⟩⟩ hinv Q hq
 exact ypt c i j g l hinv Q hq.2
abbrev qjt:Pt:=⟨220,4,⟨[(2,.d i64),(4,zh),(14,.d i64),(15,.d i64)],[.al 10000 0,.o 0 3 i64]⟩,⟨[(2,.d i64),(14,.d i64)],[.al 10000 0,.o 0 3 i64]⟩,⟨[],[]⟩⟩
def zsp (x:qjt.M.X):Fr qjt.Out:=
 let c:=x.1.1; let g:=x.1.2.1; let i:=x.1.2.2.1; let j:=x.1.2.2.2.1; let l:=x.2.1
 Fr.br (decide (i < j))
  (Fr.need (¬(1:Int) < 0)
   (Fr.need (0<=c/\c < (l.length:Int))
    (Fr.need ((c).toNat < l.length)
     (Fr.need (0<=wa i j/\wa i j < (l.length:Int))
      (Fr.need ((wa i j).toNat < l.length)
       (Fr.need (g.2 (l.getD c.toNat i64.dflt,l.getD (wa i j).toNat i64.dflt,()))
        (Fr.br (!decide ((g.1 (l.getD c.toNat i64.dflt,l.getD (wa i j).toNat i64.dflt,())).1 < 0))
         (Fr.val (Rd.next ((c,(g.1,g.2),IntKind.i64.wrap (wa i j+1),j,()),(l,()))))
         (Fr.val (Rd.next ((c,(g.1,g.2),i,wa i j,()),(l,())))))))))))
  (Fr.val (Rd.out ((c,i,()),(l,()))))
theorem yog:qe Tryz.prog (qo Tryz.f203 2) qjt.M qjt zsp:=
 qe.of_run vq (bs:=0) (Λ:=qp) rfl rfl rfl (fun E=>qd _ 0) (fun x=>by kernel_rfl)
structure InvS2 (c i j:Int) (g:zh.den) (l:List Int):Prop where
 c0:0<=c
 cl:c < l.length
 i0:0<=i
 ij:i<=j
 jl:j<=l.length
 big:(l.length:Int)<=4611686018427387903
 dom:qhr g l
def FS2 (x:qjt.M.X):Fr qjt.Out:=
 let c:=x.1.1; let g:=x.1.2.1; let i:=x.1.2.2.1; let j:=x.1.2.2.2.1; let l:=x.2.1
 Fr.need (InvS2 c i j g l) (Fr.val (Rd.out ((c,(bsG (fun h=>!qz g (l.getD c.toNat 0) (l.getD h 0)) (j.toNat - i.toNat) i.toNat j.toNat:Nat),()),(l,()))))
theorem ypv (c i j:Int) (g:zh.den) (l:List Int) (hinv:InvS2 c i j g l) (Q:qjt.Out->Prop)
  (hq:Q (Rd.out ((c,(bsG (fun h=>!qz g (l.getD c.toNat 0) (l.getD h 0)) (j.toNat - i.toNat) i.toNat j.toNat:Nat),()),(l,())))):(zsp ((c,g,i,j,()),(l,()))).satP fun
   |.next x'=>InvS2 x'.1.1 x'.1.2.2.1 x'.1.2.2.2.1 x'.1.2.1 x'.2.1/\(x'.1.2.2.2.1 - x'.1.2.2.1).toNat < (j - i).toNat/\(FS2 x').satP Q
   |.out y=>Q (.out y)
   |.back z=>Q (.back z)
   |.pan p=>Q (.pan p):=by
 obtain ⟨h0,h1,h2,h3,h4,hb,hd⟩:=hinv
 obtain ⟨i',rfl⟩:∃ n:Nat,i=n:=⟨i.toNat,by omega⟩
 obtain ⟨j',rfl⟩:∃ n:Nat,j=n:=⟨j.toNat,by omega⟩
 obtain ⟨c',rfl⟩:∃ n:Nat,c=n:=⟨c.toNat,by omega⟩
 have hm:wa (i':Int) j'=((i'+j') / 2:Nat):=qso (by omega)
 have hw:IntKind.i64.wrap ((((i'+j') / 2:Nat):Int)+1)=((i'+j') / 2+1:Nat):=qoe (by omega)
 dsimp only [zsp,Fr.satP,Ty.den,PT.den]
 rw [hm,hw]
 simp only [Int.toNat_natCast] at hq ⊢
 refine ⟨fun hi=>?_,fun hi=>?_⟩
 ·have hlt:i' < j':=by have:(i':Int) < j':=of_decide_eq_true hi; omega
  rw [qxs hlt] at hq
  have hml:(i'+j') / 2 < l.length:=by omega
  have hcl:c' < l.length:=by omega
  refine ⟨by omega,⟨by omega,by omega⟩,by omega,⟨by omega,by omega⟩,by omega,hd _ (vo hcl) _ (vo hml),fun hc=>?_,fun hc=>?_⟩
  ·have hc':(!qz g (l.getD c' 0) (l.getD ((i'+j') / 2) 0))=true:=hc
   rw [hc'] at hq
   have hI:InvS2 (c':Int) ((i'+j') / 2+1:Nat) j' g l:=⟨h0,h1,by omega,by omega,by omega,hb,hd⟩
   exact ⟨hI,by omega,hI,hq⟩
  ·have hc':(!qz g (l.getD c' 0) (l.getD ((i'+j') / 2) 0))=false:=hc
   rw [hc'] at hq
   have hI:InvS2 (c':Int) i' ((i'+j') / 2:Nat) g l:=⟨h0,h1,by omega,by omega,by omega,hb,hd⟩
   exact ⟨hI,by omega,hI,hq⟩
 ·have hge:¬ i' < j':=by have:¬ (i':Int) < j':=of_decide_eq_false hi; omega
  rw [show j' - i'=0 by omega] at hq
  exact hq
theorem ynm:qe Tryz.prog (.loop (qo Tryz.f203 2)) qjt.M qjt FS2:=by
 refine qe.loop (n:=220) (id:=4) yog (inv:=fun x=>InvS2 x.1.1 x.1.2.2.1 x.1.2.2.2.1 x.1.2.1 x.2.1) (μ:=fun x=>(x.1.2.2.2.1 - x.1.2.2.1).toNat) ?_ (fun x Q h=>h.1)
 rintro ⟨⟨c,g,i,j,_⟩,⟨l,_⟩⟩ hinv Q hq
 exact ypv c i j g l hinv Q hq.2
abbrev qjv:Pt:=⟨220,8,⟨[(1,.d i64),(2,.d i64),(3,.d i64),(4,zh),(18,.d i64),(19,.d i64),(20,.d i64),(21,.d i64),(22,.d i64)],[.al 10000 0,.o 0 3 i64]⟩,⟨[(1,.d i64),(2,.d i64),(3,.d i64),(4,zh),(18,.d i64),(19,.d i64),(20,.d i64)],[.al 10000 0,.o 0 3 i64]⟩,⟨[],[]⟩⟩
def zsr (x:qjv.M.X):Fr qjv.Out:=
 let a:=x.1.1; let m:=x.1.2.1; let b:=x.1.2.2.1; let g:=x.1.2.2.2.1; let mid:=x.1.2.2.2.2.1; let n:=x.1.2.2.2.2.2.1; let i:=x.1.2.2.2.2.2.2.1; let j:=x.1.2.2.2.2.2.2.2.1; let p:=x.1.2.2.2.2.2.2.2.2.1; let l:=x.2.1
 Fr.br (decide (i < j))
  (Fr.need (¬(1:Int) < 0)
   (Fr.need (0<=IntKind.i64.wrap (p - wa i j)/\IntKind.i64.wrap (p - wa i j) < (l.length:Int))
    (Fr.need ((IntKind.i64.wrap (p - wa i j)).toNat < l.length)
     (Fr.need (0<=wa i j/\wa i j < (l.length:Int))
      (Fr.need ((wa i j).toNat < l.length)
       (Fr.need (g.2 (l.getD (IntKind.i64.wrap (p - wa i j)).toNat i64.dflt,l.getD (wa i j).toNat i64.dflt,()))
        (Fr.br (!decide ((g.1 (l.getD (IntKind.i64.wrap (p - wa i j)).toNat i64.dflt,l.getD (wa i j).toNat i64.dflt,())).1 < 0))
         (Fr.val (Rd.next ((a,m,b,(g.1,g.2),mid,n,IntKind.i64.wrap (wa i j+1),j,p,()),(l,()))))
         (Fr.val (Rd.next ((a,m,b,(g.1,g.2),mid,n,i,wa i j,p,()),(l,())))))))))))
  (Fr.val (Rd.out ((a,m,b,(g.1,g.2),mid,n,i,()),(l,()))))
theorem yoi:qe Tryz.prog (qo Tryz.f203 4) qjv.M qjv zsr:=
 qe.of_run vq (bs:=0) (Λ:=qp) rfl rfl rfl (fun E=>qd _ 0) (fun x=>by kernel_rfl)
structure InvS4 (p i j:Int) (g:zh.den) (l:List Int):Prop where
 p0:0<=p
 pl:p < i+l.length
 pj:j<=p+1
 i0:0<=i
 ij:i<=j
 jl:j<=l.length
 big:(l.length:Int)<=4611686018427387903
 dom:qhr g l
def FS4 (x:qjv.M.X):Fr qjv.Out:=
 let a:=x.1.1; let m:=x.1.2.1; let b:=x.1.2.2.1; let g:=x.1.2.2.2.1; let mid:=x.1.2.2.2.2.1; let n:=x.1.2.2.2.2.2.1; let i:=x.1.2.2.2.2.2.2.1; let j:=x.1.2.2.2.2.2.2.2.1; let p:=x.1.2.2.2.2.2.2.2.2.1; let l:=x.2.1
 Fr.need (InvS4 p i j g l) (Fr.val (Rd.out ((a,m,b,g,mid,n,(bsG (fun h=>!qz g (l.getD (p.toNat - h) 0) (l.getD h 0)) (j.toNat - i.toNat) i.toNat j.toNat:Nat),()),(l,()))))
theorem ypx (a m b mid n p i j:Int) (g:zh.den) (l:List Int) (hinv:InvS4 p i j g l) (Q:qjv.Out->Prop)
  (hq:Q (Rd.out ((a,m,b,g,mid,n,(bsG (fun h=>!qz g (l.getD (p.toNat - h) 0) (l.getD h 0)) (j.toNat - i.toNat) i.toNat j.toNat:Nat),()),(l,())))):(zsr ((a,m,b,g,mid,n,i,j,p,()),(l,()))).satP fun
   |.next x'=>InvS4 x'.1.2.2.2.2.2.2.2.2.1 x'.1.2.2.2.2.2.2.1 x'.1.2.2.2.2.2.2.2.1 x'.1.2.2.2.1 x'.2.1/\(x'.1.2.2.2.2.2.2.2.1 - x'.1.2.2.2.2.2.2.1).toNat < (j - i).toNat/\(FS4 x').satP Q
   |.out y=>Q (.out y)
   |.back z=>Q (.back z)
   |.pan p=>Q (.pan p):=by
 obtain ⟨h00,h0,h1,h2,h3,h4,hb,hd⟩:=hinv
 obtain ⟨i',rfl⟩:∃ n:Nat,i=n:=⟨i.toNat,by omega⟩
 obtain ⟨j',rfl⟩:∃ n:Nat,j=n:=⟨j.toNat,by omega⟩
 obtain ⟨p',rfl⟩:∃ n:Nat,p=n:=⟨p.toNat,by omega⟩
 have hm:wa (i':Int) j'=((i'+j') / 2:Nat):=qso (by omega)
 have hw:IntKind.i64.wrap ((((i'+j') / 2:Nat):Int)+1)=((i'+j') / 2+1:Nat):=qoe (by omega)
 dsimp only [zsr,Fr.satP,Ty.den,PT.den]
 rw [hm,hw]
 have hp:(i' < j')->IntKind.i64.wrap ((p':Int) - (((i'+j') / 2:Nat):Int))=(p' - (i'+j') / 2:Nat):=fun h=>qrg (by omega) (by omega)
 simp only [Int.toNat_natCast] at hq ⊢
 refine ⟨fun hi=>?_,fun hi=>?_⟩
 ·have hlt:i' < j':=by have:(i':Int) < j':=of_decide_eq_true hi; omega
  rw [qxs hlt] at hq
  rw [hp hlt]
  simp only [Int.toNat_natCast]
  have hml:p' - (i'+j') / 2 < l.length:=by omega
  have hcl:(i'+j') / 2 < l.length:=by omega
  refine ⟨by omega,⟨by omega,by omega⟩,by omega,⟨by omega,by omega⟩,by omega,hd _ (vo hml) _ (vo hcl),fun hc=>?_,fun hc=>?_⟩
  ·have hc':(!qz g (l.getD (p' - (i'+j') / 2) 0) (l.getD ((i'+j') / 2) 0))=true:=hc
   rw [hc'] at hq
   have hI:InvS4 (p':Int) ((i'+j') / 2+1:Nat) j' g l:=⟨h00,by omega,by omega,by omega,by omega,by omega,hb,hd⟩
   exact ⟨hI,by omega,hI,hq⟩
  ·have hc':(!qz g (l.getD (p' - (i'+j') / 2) 0) (l.getD ((i'+j') / 2) 0))=false:=hc
   rw [hc'] at hq
   have hI:InvS4 (p':Int) i' ((i'+j') / 2:Nat) g l:=⟨h00,by omega,by omega,by omega,by omega,by omega,hb,hd⟩
   exact ⟨hI,by omega,hI,hq⟩
 ·have hge:¬ i' < j':=by have:¬ (i':Int) < j':=of_decide_eq_false hi; omega
  rw [show j' - i'=0 by omega] at hq
  exact hq
theorem yno:qe Tryz.prog (.loop (qo Tryz.f203 4)) qjv.M qjv FS4:=by
 refine qe.loop (n:=220) (id:=8) yoi (inv:=fun x=>InvS4 x.1.2.2.2.2.2.2.2.2.1 x.1.2.2.2.2.2.2.1 x.1.2.2.2.2.2.2.2.1 x.1.2.2.2.1 x.2.1) (μ:=fun x=>(x.1.2.2.2.2.2.2.2.1 - x.1.2.2.2.2.2.2.1).toNat) ?_ (fun x Q h=>h.1)
 rintro ⟨⟨a,m,b,g,mid,n,i,j,p,_⟩,⟨l,_⟩⟩ hinv Q hq
 exact ypx a m b mid n p i j g l hinv Q hq.2
abbrev qjs:Pt:=⟨220,2,⟨[(10,.d i64),(13,.d i64)],[.al 10000 0,.o 0 3 i64]⟩,⟨[],[.al 10000 0,.o 0 3 i64]⟩,⟨[],[]⟩⟩
def zso (x:qjs.M.X):Fr qjs.Out:=
 let i:=x.1.1; let k:=x.1.2.1; let l:=x.2.1
 Fr.br (decide (k < IntKind.i64.wrap (i - 1)))
  (Fr.need (0<=IntKind.i64.wrap (k+1)/\IntKind.i64.wrap (k+1) < (l.length:Int))
   (Fr.need ((IntKind.i64.wrap (k+1)).toNat < l.length)
    (Fr.need (0<=k/\k < (l.length:Int))
     (Fr.need (k.toNat < l.length)
      (Fr.need (0<=k/\k < (l.length:Int))
       (Fr.need (k.toNat < l.length)
        (Fr.need (0<=IntKind.i64.wrap (k+1)/\IntKind.i64.wrap (k+1) < ((l.set k.toNat (l.getD (IntKind.i64.wrap (k+1)).toNat i64.dflt)).length:Int))
         (Fr.need ((IntKind.i64.wrap (k+1)).toNat < (l.set k.toNat (l.getD (IntKind.i64.wrap (k+1)).toNat i64.dflt)).length)
          (Fr.val (Rd.next ((i,IntKind.i64.wrap (k+1),()),((l.set k.toNat (l.getD (IntKind.i64.wrap (k+1)).toNat i64.dflt)).set (IntKind.i64.wrap (k+1)).toNat (l.getD k.toNat i64.dflt),()))))))))))))
  (Fr.val (Rd.out ((),(l,()))))
theorem yof:qe Tryz.prog (qo Tryz.f203 1) qjs.M qjs zso:=
 qe.of_run vq (bs:=0) (Λ:=qp) rfl rfl rfl (fun E=>qd _ 0) (fun x=>by kernel_rfl)
structure InvS1 (i k:Int) (l:List Int):Prop where
 k0:0<=k
 i0:0<=i
 il:i<=l.length
 big:(l.length:Int)<=4611686018427387903
def FS1 (x:qjs.M.X):Fr qjs.Out:=
 let i:=x.1.1; let k:=x.1.2.1; let l:=x.2.1
 Fr.need (InvS1 i k l) (Fr.val (Rd.out ((),(upS 0 (i - 1 - k).toNat k.toNat l,()))))
theorem ypu (i k:Int) (l:List Int) (hinv:InvS1 i k l) (Q:qjs.Out->Prop) (hq:Q (Rd.out ((),(upS 0 (i - 1 - k).toNat k.toNat l,())))):(zso ((i,k,()),(l,()))).satP fun
   |.next x'=>InvS1 x'.1.1 x'.1.2.1 x'.2.1/\(x'.1.1 - 1 - x'.1.2.1).toNat < (i - 1 - k).toNat/\(FS1 x').satP Q
   |.out y=>Q (.out y)
   |.back z=>Q (.back z)
   |.pan p=>Q (.pan p):=by
 obtain ⟨h0,h1,h2,h3⟩:=hinv
 have w1:IntKind.i64.wrap (i - 1)=i - 1:=IntWalk.i64_in _ (by omega)
 dsimp only [zso,Fr.satP,Ty.den,PT.den]
 rw [w1]
 simp only [List.length_set]
 refine ⟨fun hc=>?_,fun hc=>?_⟩
 ·have hlt:k < i - 1:=of_decide_eq_true hc
  have w2:IntKind.i64.wrap (k+1)=k+1:=IntWalk.i64_in _ (by omega)
  rw [w2]
  have hI:InvS1 i (k+1) (qb6 l 0 k.toNat (k+1).toNat):=⟨by omega,by omega,by rw [kx]; omega,by rw [kx]; omega⟩
  refine ⟨⟨by omega,by omega⟩,by omega,⟨by omega,by omega⟩,by omega,⟨by omega,by omega⟩,by omega,⟨by omega,by omega⟩,by omega,hI,by omega,hI,?_⟩
  rw [show (i - 1 - k).toNat=(i - 1 - (k+1)).toNat+1 by omega] at hq
  simp only [upS] at hq
  dsimp only [Ty.den,PT.den]
  rw [show k.toNat+1=(k+1).toNat by omega] at hq
  exact hq
 ·have hge:¬ k < i - 1:=of_decide_eq_false hc
  rw [show (i - 1 - k).toNat=0 by omega] at hq
  exact hq
theorem ynl:qe Tryz.prog (.loop (qo Tryz.f203 1)) qjs.M qjs FS1:=by
 refine qe.loop (n:=220) (id:=2) yof (inv:=fun x=>InvS1 x.1.1 x.1.2.1 x.2.1) (μ:=fun x=>(x.1.1 - 1 - x.1.2.1).toNat) ?_ (fun x Q h=>h.1)
 rintro ⟨⟨i,k,_⟩,⟨l,_⟩⟩ hinv Q hq
 exact ypu i k l hinv Q hq.2
abbrev qju:Pt:=⟨220,6,⟨[(14,.d i64),(17,.d i64)],[.al 10000 0,.o 0 3 i64]⟩,⟨[],[.al 10000 0,.o 0 3 i64]⟩,⟨[],[]⟩⟩
def zsq (x:qju.M.X):Fr qju.Out:=
 let i:=x.1.1; let k:=x.1.2.1; let l:=x.2.1
 Fr.br (decide (k > i))
  (Fr.need (0<=IntKind.i64.wrap (k - 1)/\IntKind.i64.wrap (k - 1) < (l.length:Int))
   (Fr.need ((IntKind.i64.wrap (k - 1)).toNat < l.length)
    (Fr.need (0<=k/\k < (l.length:Int))
     (Fr.need (k.toNat < l.length)
      (Fr.need (0<=k/\k < (l.length:Int))
       (Fr.need (k.toNat < l.length)
        (Fr.need (0<=IntKind.i64.wrap (k - 1)/\IntKind.i64.wrap (k - 1) < ((l.set k.toNat (l.getD (IntKind.i64.wrap (k - 1)).toNat i64.dflt)).length:Int))
         (Fr.need ((IntKind.i64.wrap (k - 1)).toNat < (l.set k.toNat (l.getD (IntKind.i64.wrap (k - 1)).toNat i64.dflt)).length)
          (Fr.val (Rd.next ((i,IntKind.i64.wrap (k - 1),()),((l.set k.toNat (l.getD (IntKind.i64.wrap (k - 1)).toNat i64.dflt)).set (IntKind.i64.wrap (k - 1)).toNat (l.getD k.toNat i64.dflt),()))))))))))))
  (Fr.val (Rd.out ((),(l,()))))
theorem yoh:qe Tryz.prog (qo Tryz.f203 3) qju.M qju zsq:=
 qe.of_run vq (bs:=0) (Λ:=qp) rfl rfl rfl (fun E=>qd _ 0) (fun x=>by kernel_rfl)
structure InvS3 (i k:Int) (l:List Int):Prop where
 i0:0<=i
 ik:i<=k
 kl:k < l.length
 big:(l.length:Int)<=4611686018427387903
def FS3 (x:qju.M.X):Fr qju.Out:=
 let i:=x.1.1; let k:=x.1.2.1; let l:=x.2.1
 Fr.need (InvS3 i k l) (Fr.val (Rd.out ((),(qkt 0 (k - i).toNat k.toNat l,()))))
theorem ypw (i k:Int) (l:List Int) (hinv:InvS3 i k l) (Q:qju.Out->Prop) (hq:Q (Rd.out ((),(qkt 0 (k - i).toNat k.toNat l,())))):(zsq ((i,k,()),(l,()))).satP fun
   |.next x'=>InvS3 x'.1.1 x'.1.2.1 x'.2.1/\(x'.1.2.1 - x'.1.1).toNat < (k - i).toNat/\(FS3 x').satP Q
   |.out y=>Q (.out y)
   |.back z=>Q (.back z)
   |.pan p=>Q (.pan p):=by
 obtain ⟨h0,h1,h2,h3⟩:=hinv
 have w2:IntKind.i64.wrap (k - 1)=k - 1:=IntWalk.i64_in _ (by omega)
 dsimp only [zsq,Fr.satP,Ty.den,PT.den]
 rw [w2]
 simp only [List.length_set]
 refine ⟨fun hc=>?_,fun hc=>?_⟩
 ·have hlt:k > i:=of_decide_eq_true hc
  have hI:InvS3 i (k - 1) (qb6 l 0 k.toNat (k - 1).toNat):=⟨by omega,by omega,by rw [kx]; omega,by rw [kx]; omega⟩
  refine ⟨⟨by omega,by omega⟩,by omega,⟨by omega,by omega⟩,by omega,⟨by omega,by omega⟩,by omega,⟨by omega,by omega⟩,by omega,hI,by omega,hI,?_⟩
  rw [show (k - i).toNat=(k - 1 - i).toNat+1 by omega] at hq
  simp only [qkt] at hq
  dsimp only [Ty.den,PT.den]
  rw [show k.toNat - 1=(k - 1).toNat by omega] at hq
  exact hq
 ·have hge:¬ k > i:=of_decide_eq_false hc
  rw [show (k - i).toNat=0 by omega] at hq
  exact hq
theorem ynn:qe Tryz.prog (.loop (qo Tryz.f203 3)) qju.M qju FS3:=by
 refine qe.loop (n:=220) (id:=6) yoh (inv:=fun x=>InvS3 x.1.1 x.1.2.1 x.2.1) (μ:=fun x=>(x.1.2.1 - x.1.1).toNat) ?_ (fun x Q h=>h.1)
 rintro ⟨⟨i,k,_⟩,⟨l,_⟩⟩ hinv Q hq
 exact ypw i k l hinv Q hq.2
structure SymOk (n:Nat) (a m b:Int) (g:zh.den) (l:List Int):Prop where
 a0:0<=a
 am:a < m
 mb:m < b
 bl:b<=l.length
 big:(l.length:Int)<=4611686018427387903
 size:b - a<=n
 dom:qhr g l
 key:∃ key:Int->Int,LtK (qz g) key l/\yi key (seg a.toNat m.toNat l)/\yi key (seg m.toNat b.toNat l)
noncomputable def qp7 (n:Nat):Mt:=⟨3,i64,[.d i64,.d i64,.d i64,zh],[],fun l x=>(zi (qz x.2.2.2.1) x.1.toNat x.2.2.1.toNat l,()),fun l x=>[SymOk n x.1 x.2.1 x.2.2.1 x.2.2.2.1 l]⟩
noncomputable def CI2 (n:Nat):Cx:=cxK [] [] (orK (mtK (cx [] []).Γ 222 ycv) (mtK (cx [] []).Γ 203 (qp7 n)))
theorem ykp {n:Nat} (h:SoundMt Tryz.prog 203 (qp7 n)):CxOK Tryz.prog (CI2 n):=qcz qv trivial trivial (zla (qnx vq.ct zyh) (qnx vq.ct h))
noncomputable def ye2:Nat->St->Option Tr
 |0=>qjr.han CI0.Γ qjr.M FS0
 |1=>qjs.han CI0.Γ qjs.M FS1
 |2=>qjt.han CI0.Γ qjt.M FS2
 |3=>qju.han CI0.Γ qju.M FS3
 |_=>qjv.han CI0.Γ qjv.M FS4
theorem yim {E:Env} {c:Code} (hc:Tryz.f203.body=some c):jt Tryz.prog E ye2 c 0:=by
 have hn:(Tryz.f203.body.map zp)=some 5:=by kernel_rfl
 have b0:Tryz.f203.body.bind (Go.Ab.loopB · 0)=some (qo Tryz.f203 0):=by kernel_rfl
 have b1:Tryz.f203.body.bind (Go.Ab.loopB · 1)=some (qo Tryz.f203 1):=by kernel_rfl
 have b2:Tryz.f203.body.bind (Go.Ab.loopB · 2)=some (qo Tryz.f203 2):=by kernel_rfl
 have b3:Tryz.f203.body.bind (Go.Ab.loopB · 3)=some (qo Tryz.f203 3):=by kernel_rfl
 have b4:Tryz.f203.body.bind (Go.Ab.loopB · 4)=some (qo Tryz.f203 4):=by kernel_rfl
 have hb:∀ i,i < 5->Tryz.f203.body.bind (Go.Ab.loopB · i)=some (qo Tryz.f203 i):=fun i hi=>match i,hi with
  |0,_=>b0
  |1,_=>b1
  |2,_=>b2
  |3,_=>b3
  |4,_=>b4
 rw [hc] at hn hb
 simp only [Option.map_some,Option.some.injEq] at hn
 simp only [Option.bind_some] at hb
 refine lamAll c 0 fun i b' hb'=>?_
 have hlt:=loopB_lt hb'
 rw [hn] at hlt
 have e:=hb i hlt
 rw [e] at hb'
 cases hb'
 match i,hlt with
 |0,_=>exact qe.han vq rfl ynk
 |1,_=>exact qe.han vq rfl ynl
 |2,_=>exact qe.han vq rfl ynm
 |3,_=>exact qe.han vq rfl ynn
 |4,_=>exact qe.han vq rfl yno
def bs0 (c i j:Int) (g:zh.den) (l:List Int):Int:=(bsG (fun h=>qz g (l.getD h 0) (l.getD c.toNat 0)) (j.toNat - i.toNat) i.toNat j.toNat:Nat)
def bs2 (c i j:Int) (g:zh.den) (l:List Int):Int:=(bsG (fun h=>!qz g (l.getD c.toNat 0) (l.getD h 0)) (j.toNat - i.toNat) i.toNat j.toNat:Nat)
def bs4 (p i j:Int) (g:zh.den) (l:List Int):Int:=(bsG (fun h=>!qz g (l.getD (p.toNat - h) 0) (l.getD h 0)) (j.toNat - i.toNat) i.toNat j.toNat:Nat)
noncomputable def zbj (n:Nat) (mid en b:Int) (g:zh.den) (l:List Int):Fr (List Int × qi []):=
 Fr.br (bif decide (mid < en) then decide (en < b) else false) (Fr.need (SymOk n mid en b (g.1,g.2) l) (Fr.val (((qp7 n).f l (mid,en,b,(g.1,g.2),())).1,()))) (Fr.val (l,()))
noncomputable def zbi (n:Nat) (a st mid en b:Int) (g:zh.den) (l:List Int):Fr (List Int × qi []):=
 Fr.br (bif decide (a < st) then decide (st < mid) else false) (Fr.need (SymOk n a st mid (g.1,g.2) l) (zbj n mid en b g ((qp7 n).f l (a,st,mid,(g.1,g.2),())).1)) (zbj n mid en b g l)
noncomputable def zg6 (n:Nat) (a m b st mid en:Int) (g:zh.den) (l:List Int):Fr (List Int × qi []):=
 Fr.br (bif decide (st < m) then decide (m < en) else false)
  (Fr.need (0<=st) (Fr.need (st < m) (Fr.need (m < en) (Fr.need (en<=(l.length:Int)) (Fr.need ((l.length:Int)<=4611686018427387903) (zbi n a st mid en b g (ycv.f l (st,m,en,(g.1,g.2),())).1))))))
  (zbi n a st mid en b g l)
noncomputable def zbh (n:Nat) (a m b mid i j:Int) (g:zh.den) (l:List Int):Fr (List Int × qi []):=
 let p:=IntKind.i64.wrap (IntKind.i64.wrap (mid+m) - 1)
 Fr.need (InvS4 p i j (g.1,g.2) l) (zg6 n a m b (bs4 p i j (g.1,g.2) l) mid (IntKind.i64.wrap (IntKind.i64.wrap (mid+m) - bs4 p i j (g.1,g.2) l)) g l)
noncomputable def qup (n:Nat) (l:List Int) (x:qm [.d i64,.d i64,.d i64,zh]):Fr (List Int × qi []):=
 let a:=x.1; let m:=x.2.1; let b:=x.2.2.1; let g:=x.2.2.2.1
 Fr.br (IntKind.i64.wrap (m - a)==1)
  (Fr.need (InvS0 a m b (g.1,g.2) l) (Fr.need (InvS1 (bs0 a m b (g.1,g.2) l) a l) (Fr.val (upS 0 (bs0 a m b (g.1,g.2) l - 1 - a).toNat a.toNat l,()))))
  (Fr.br (IntKind.i64.wrap (b - m)==1)
   (Fr.need (InvS2 m a m (g.1,g.2) l) (Fr.need (InvS3 (bs2 m a m (g.1,g.2) l) m l) (Fr.val (qkt 0 (m - bs2 m a m (g.1,g.2) l).toNat m.toNat l,()))))
   (Fr.need (¬(1:Int) < 0)
    (Fr.br (decide (m > wa a b))
     (zbh n a m b (wa a b) (IntKind.i64.wrap (IntKind.i64.wrap (wa a b+m) - b)) (wa a b) g l)
     (zbh n a m b (wa a b) a m g l))))
theorem yjl (n:Nat) (l:List Int) (x:qm [.d i64,.d i64,.d i64,zh]):zg4 Tryz.prog (CI2 n) ye2 Tryz.f203 3 i64 [.d i64,.d i64,.d i64,zh] [] l x=some (qup n l x):=by kernel_rfl
theorem qy3 {Q:Nat->Bool}:(f i j:Nat)->i<=j->i<=bsG Q f i j/\bsG Q f i j<=j
 |0,i,j,h=>⟨Nat.le_refl _,h⟩
 |f+1,i,j,h=>by
  simp only [bsG]
  split
  ·cases Q ((i+j) / 2) with
   |true=>
    have:=qy3 (Q:=Q) f ((i+j) / 2+1) j (by omega)
    simp only [cond_true]
    omega
   |false=>
    have:=qy3 (Q:=Q) f i ((i+j) / 2) (by omega)
    simp only [cond_false]
    omega
  ·exact ⟨Nat.le_refl _,h⟩
structure Sym3 (lt:Int->Int->Bool) (key:Int->Int) (a m b st:Nat) (l:List Int):Prop where
 s1:a<=st
 s2:st<=m
 s3:st<=(a+b) / 2
 s4:(a+b) / 2<=b
 e1:m+st<=(a+b) / 2+m
 e2:(a+b) / 2+m<=b+st
 len1:(xj 0 m st ((a+b) / 2+m - st) l).length=l.length
 same1:zc key l (xj 0 m st ((a+b) / 2+m - st) l)
 sA1:yi key (seg a st (xj 0 m st ((a+b) / 2+m - st) l))
 sB1:yi key (seg st ((a+b) / 2) (xj 0 m st ((a+b) / 2+m - st) l))
 len2:(if a < st/\st < (a+b) / 2 then zi lt a ((a+b) / 2) (xj 0 m st ((a+b) / 2+m - st) l) else xj 0 m st ((a+b) / 2+m - st) l).length=l.length
 same2:zc key l (if a < st/\st < (a+b) / 2 then zi lt a ((a+b) / 2) (xj 0 m st ((a+b) / 2+m - st) l) else xj 0 m st ((a+b) / 2+m - st) l)
 sA2:yi key (seg ((a+b) / 2) ((a+b) / 2+m - st) (if a < st/\st < (a+b) / 2 then zi lt a ((a+b) / 2) (xj 0 m st ((a+b) / 2+m - st) l) else xj 0 m st ((a+b) / 2+m - st) l))
 sB2:yi key (seg ((a+b) / 2+m - st) b (if a < st/\st < (a+b) / 2 then zi lt a ((a+b) / 2) (xj 0 m st ((a+b) / 2+m - st) l) else xj 0 m st ((a+b) / 2+m - st) l))
theorem yrx {lt:Int->Int->Bool} {key:Int->Int} {a m b:Nat} {l:List Int} (h1:a < m) (h2:m < b) (h3:b<=l.length) (hl:LtK lt key l) (sA:yi key (seg a m l)) (sB:yi key (seg m b l)) :
  Sym3 lt key a m b (qbi lt 0 a m b l) l:=by
 obtain ⟨p,q,hL,hp,hA,hB,hq⟩:=ze7 (Nat.le_of_lt h1) (Nat.le_of_lt h2) h3
 have hAB:LtK lt key (seg a m l++seg m b l):=hl.sub fun z hz=>by
  rw [hL]
  rcases List.mem_append.1 hz with h | h
  ·exact List.mem_append_right _ (List.mem_append_left _ h)
  ·exact List.mem_append_right _ (List.mem_append_right _ (List.mem_append_left _ h))
 obtain ⟨A1,A2,B1,B2,eA,eB,e1,e2,f1,f2⟩:=zfe (d:=(0:Int)) (q:=q) hp hA hB h1 h2 hAB sA sB
 rw [← hL] at e1 e2
 rw [eA] at sA hA
 rw [eB] at sB hB
 rw [eA,eB] at hL
 generalize qbi lt 0 a m b l=st at e1 e2 ⊢
 subst hL
 simp only [List.length_append] at hA hB h3
 have pA:=List.pairwise_append.1 sA
 have pB:=List.pairwise_append.1 sB
 have hen:(a+b) / 2+m - st=m+B1.length:=by omega
 have hR:xj 0 m st ((a+b) / 2+m - st) (p++(A1++A2++(B1++B2++q)))=p++(A1++(B1++(A2++(B2++q)))):=by
  rw [hen]
  unfold xj
  split
  ·rename_i hc
   have:=zp5 (d:=(0:Int)) (a:=st) (m:=m) (b:=m+B1.length) (x:=A2) (y:=B1) (p:=p++A1) (q:=B2++q) (by omega) (by omega) (by simp; omega) (by omega) rfl
   simpa using this
  ·rename_i hc
   by_cases hb1:B1=[]
   ·subst hb1; simp
   ·have:=List.length_pos_iff.2 hb1
    have:A2=[]:=List.length_eq_zero_iff.1 (by omega)
    subst this; simp
 have same1:zc key (p++(A1++A2++(B1++B2++q))) (p++(A1++(B1++(A2++(B2++q))))):=by
  have h:=(zc.refl p).app (((zc.refl A1).app (zc.swap (key:=key) fun x hx y hy=>by have:=f2 y hy x hx; omega:zc key (A2++B1) (B1++A2))).app (zc.refl (B2++q)))
  simpa using h
 have hl1:LtK lt key (p++(A1++(B1++(A2++(B2++q))))):=hl.sub fun z hz=>same1.mem.1 hz
 have g1:seg a st (p++(A1++(B1++(A2++(B2++q)))))=A1:=qn6 hp (by omega)
 have g2:seg st ((a+b) / 2) (p++(A1++(B1++(A2++(B2++q)))))=B1:=by
  have:=qn6 (p:=p++A1) (s:=B1) (q:=A2++(B2++q)) (a:=st) (b:=(a+b) / 2) (by simp; omega) (by omega)
  simpa using this
 have hX:∀ T:List Int,T.length=A1.length+B1.length->seg ((a+b) / 2) ((a+b) / 2+m - st) (p++(T++(A2++(B2++q))))=A2/\seg ((a+b) / 2+m - st) b (p++(T++(A2++(B2++q))))=B2:=fun T hT=>by
  have k1:=qn6 (p:=p++T) (s:=A2) (q:=B2++q) (a:=(a+b) / 2) (b:=(a+b) / 2+m - st) (by simp; omega) (by omega)
  have k2:=qn6 (p:=p++T++A2) (s:=B2) (q:=q) (a:=(a+b) / 2+m - st) (b:=b) (by simp; omega) (by omega)
  exact ⟨by simpa using k1,by simpa using k2⟩
 have hlen:(p++(A1++(B1++(A2++(B2++q))))).length=(p++(A1++A2++(B1++B2++q))).length:=by simp; omega
 have hpart:a < st/\st < (a+b) / 2->zi lt a ((a+b) / 2) (p++(A1++(B1++(A2++(B2++q)))))=p++(jk lt (A1++B1)++(A2++(B2++q))):=fun hc=>by
  have:=qib (lt:=lt) (a:=a) (b:=(a+b) / 2) (p:=p) (s:=A1++B1) (q:=A2++(B2++q)) hp (by simp; omega)
  simpa using this
 refine ⟨by omega,by omega,by omega,by omega,by omega,by omega,by rw [hR]; exact hlen,by rw [hR]; exact same1,by rw [hR,g1]; exact pA.1,by rw [hR,g2]; exact pB.1,?_,?_,?_,?_⟩
 ·rw [hR]
  split
  ·rw [qc4 (by omega) (by simp; omega)]
   exact hlen
  ·exact hlen
 ·rw [hR]
  split
  ·exact same1.trans (qsz (by omega) (by simp; omega) hl1)
  ·exact same1
 ·rw [hR]
  split
  ·rename_i hc
   rw [hpart hc,(hX _ (by rw [qam]; simp)).1]
   exact pA.2.1
  ·have:=(hX (A1++B1) (by simp)).1
   rw [show p++(A1++(B1++(A2++(B2++q))))=p++((A1++B1)++(A2++(B2++q))) by simp,this]
   exact pA.2.1
 ·rw [hR]
  split
  ·rename_i hc
   rw [hpart hc,(hX _ (by rw [qam]; simp)).2]
   exact pB.2.1
  ·have:=(hX (A1++B1) (by simp)).2
   rw [show p++(A1++(B1++(A2++(B2++q))))=p++((A1++B1)++(A2++(B2++q))) by simp,this]
   exact pB.2.1
theorem zy4 {lt:Int->Int->Bool} {key:Int->Int} {a m b:Nat} {l:List Int} (h1:a < m) (h2:m < b) (h3:b<=l.length) (hl:LtK lt key l) (sA:yi key (seg a m l)) (sB:yi key (seg m b l)) :
  qvo lt 0 a m b l=zi lt a b l:=by
 obtain ⟨p,q,hL,hp,hA,hB,hq⟩:=ze7 (Nat.le_of_lt h1) (Nat.le_of_lt h2) h3
 generalize seg a m l=A at hL hA sA
 generalize seg m b l=B at hL hB sB
 subst hL
 have hAB:LtK lt key (A++B):=hl.sub fun z hz=>by
  rcases List.mem_append.1 hz with h | h
  ·exact List.mem_append_right _ (List.mem_append_left _ h)
  ·exact List.mem_append_right _ (List.mem_append_right _ (List.mem_append_left _ h))
 rw [yj5 hp hA hB h1 h2 hAB sA sB]
 have:=qib (lt:=lt) (a:=a) (b:=b) (p:=p) (s:=A++B) (q:=q) hp (by simp; omega)
 rw [← this]
 simp
theorem zbz (p q:Prop) [Decidable p] [Decidable q]:(bif decide p then decide q else false)=decide (p/\q):=by
 by_cases p<;>by_cases q<;>simp_all
theorem zmh {n:Nat} {mid en b:Nat} {g:zh.den} {l:List Int} (h:mid < en/\en < b->SymOk n mid en b g l) :
  (zbj n mid en b g l).ok/\(zbj n mid en b g l).get=((if mid < en/\en < b then zi (qz g) mid b l else l),()):=by
 unfold zbj
 have hd:(bif decide ((mid:Int) < en) then decide ((en:Int) < b) else false)=decide (mid < en/\en < b):=by
  rw [zbz,decide_eq_decide]
  omega
 rw [hd]
 by_cases hc:mid < en/\en < b
 ·rw [decide_eq_true hc,if_pos hc]
  exact ⟨⟨fun _=>⟨h hc,trivial⟩,fun hb=>by cases hb⟩,rfl⟩
 ·rw [decide_eq_false hc,if_neg hc]
  exact ⟨⟨fun hb=>(by cases hb),fun _=>trivial⟩,rfl⟩
theorem zmg {n:Nat} {a st mid en b:Nat} {g:zh.den} {l:List Int} (h:a < st/\st < mid->SymOk n a st mid g l)
  (k:mid < en/\en < b->SymOk n mid en b g (if a < st/\st < mid then zi (qz g) a mid l else l)) :
  (zbi n a st mid en b g l).ok/\(zbi n a st mid en b g l).get=((if mid < en/\en < b then zi (qz g) mid b (if a < st/\st < mid then zi (qz g) a mid l else l) else (if a < st/\st < mid then zi (qz g) a mid l else l)),()):=by
 unfold zbi
 have hd:(bif decide ((a:Int) < st) then decide ((st:Int) < mid) else false)=decide (a < st/\st < mid):=by
  rw [zbz,decide_eq_decide]
  omega
 rw [hd]
 by_cases hc:a < st/\st < mid
 ·rw [if_pos hc] at k ⊢
  rw [decide_eq_true hc]
  obtain ⟨h1,h2⟩:=zmh k
  exact ⟨⟨fun _=>⟨h hc,h1⟩,fun hb=>by cases hb⟩,h2⟩
 ·rw [if_neg hc] at k ⊢
  rw [decide_eq_false hc]
  obtain ⟨h1,h2⟩:=zmh k
  exact ⟨⟨fun hb=>(by cases hb),fun _=>h1⟩,h2⟩
theorem yei {n:Nat} {a m b st mid en:Nat} {g:zh.den} {l:List Int} (hen:en<=l.length) (hbig:(l.length:Int)<=4611686018427387903)
  (h:a < st/\st < mid->SymOk n a st mid g (xj 0 m st en l))
  (k:mid < en/\en < b->SymOk n mid en b g (if a < st/\st < mid then zi (qz g) a mid (xj 0 m st en l) else xj 0 m st en l)) :
  (zg6 n a m b st mid en g l).ok/\(zg6 n a m b st mid en g l).get=((if mid < en/\en < b then zi (qz g) mid b (if a < st/\st < mid then zi (qz g) a mid (xj 0 m st en l) else xj 0 m st en l) else (if a < st/\st < mid then zi (qz g) a mid (xj 0 m st en l) else xj 0 m st en l)),()):=by
 unfold zg6
 have hd:(bif decide ((st:Int) < m) then decide ((m:Int) < en) else false)=decide (st < m/\m < en):=by
  rw [zbz,decide_eq_decide]
  omega
 rw [hd]
 by_cases hc:st < m/\m < en
 ·have e:xj 0 m st en l=qu9 0 st m en l:=by unfold xj; rw [if_pos hc]
  rw [e] at h k ⊢
  rw [decide_eq_true hc]
  obtain ⟨h1,h2⟩:=zmg h k
  exact ⟨⟨fun _=>⟨by omega,by omega,by omega,by omega,hbig,h1⟩,fun hb=>by cases hb⟩,h2⟩
 ·have e:xj 0 m st en l=l:=by unfold xj; rw [if_neg hc]
  rw [e] at h k ⊢
  rw [decide_eq_false hc]
  obtain ⟨h1,h2⟩:=zmg h k
  exact ⟨⟨fun hb=>(by cases hb),fun _=>h1⟩,h2⟩
theorem zy6 (n a m b:Nat) (g:zh.den) (l:List Int) (h:SymOk (n+1) a m b g l):(qup n l ((a:Int),(m:Int),(b:Int),g,())).ok/\(qup n l ((a:Int),(m:Int),(b:Int),g,())).get=(zi (qz g) a b l,()):=by
 obtain ⟨_,h1,h2,h3,hbig,hsize,hdom,key,hl,sA,sB⟩:=h
 simp only [Int.toNat_natCast] at sA sB
 have h1':a < m:=by omega
 have h2':m < b:=by omega
 have h3':b<=l.length:=by omega
 have hX:=zy4 h1' h2' h3' hl sA sB
 rw [← hX]
 have w1:IntKind.i64.wrap ((m:Int) - a)=(m - a:Nat):=qrg (by omega) (by omega)
 have w2:IntKind.i64.wrap ((b:Int) - m)=(b - m:Nat):=qrg (by omega) (by omega)
 have hmid:wa (a:Int) b=((a+b) / 2:Nat):=qso (by omega)
 dsimp only [qup]
 rw [w1,w2,hmid]
 by_cases c1:m - a=1
 ·have hc:(((m - a:Nat):Int)==1)=true:=by rw [c1]; rfl
  rw [hc]
  unfold qvo
  rw [if_pos c1]
  obtain ⟨r1,r2⟩:=qy3 (Q:=fun h=>qz g (l.getD h 0) (l.getD a 0)) (b - m) m b (by omega)
  have hb0:bs0 (a:Int) m b g l=(bsG (fun h=>qz g (l.getD h 0) (l.getD a 0)) (b - m) m b:Nat):=rfl
  have e:(g.1,g.2)=g:=rfl
  simp only [e]
  rw [hb0]
  generalize bsG (fun h=>qz g (l.getD h 0) (l.getD a 0)) (b - m) m b=r at r1 r2 ⊢
  refine ⟨⟨fun _=>⟨⟨by omega,by omega,by omega,by omega,by omega,hbig,hdom⟩,⟨by omega,by omega,by omega,hbig⟩,trivial⟩,fun hb=>by cases hb⟩,?_⟩
  show (upS 0 ((r:Int) - 1 - a).toNat (a:Int).toNat l,())=_
  rw [show ((r:Int) - 1 - a).toNat=r - 1 - a by omega]
  rfl
 ·have hc:(((m - a:Nat):Int)==1)=false:=by rw [beq_eq_false_iff_ne]; omega
  rw [hc]
  by_cases c2:b - m=1
  ·have hc:(((b - m:Nat):Int)==1)=true:=by rw [c2]; rfl
   rw [hc]
   unfold qvo
   rw [if_neg c1,if_pos c2]
   obtain ⟨r1,r2⟩:=qy3 (Q:=fun h=>!qz g (l.getD m 0) (l.getD h 0)) (m - a) a m (by omega)
   have hb0:bs2 (m:Int) a m g l=(bsG (fun h=>!qz g (l.getD m 0) (l.getD h 0)) (m - a) a m:Nat):=rfl
   have e:(g.1,g.2)=g:=rfl
   simp only [e]
   rw [hb0]
   generalize bsG (fun h=>!qz g (l.getD m 0) (l.getD h 0)) (m - a) a m=r at r1 r2 ⊢
   refine ⟨⟨fun hb=>(by cases hb),fun _=>⟨fun _=>⟨⟨by omega,by omega,by omega,by omega,by omega,hbig,hdom⟩,⟨by omega,by omega,by omega,hbig⟩,trivial⟩,fun hb=>by cases hb⟩⟩,?_⟩
   show (qkt 0 ((m:Int) - r).toNat (m:Int).toNat l,())=_
   rw [show ((m:Int) - r).toNat=m - r by omega]
   rfl
  ·have hc:(((b - m:Nat):Int)==1)=false:=by rw [beq_eq_false_iff_ne]; omega
   rw [hc]
   have s3:=yrx h1' h2' h3' hl sA sB
   have key3:∀ i j:Nat,(i=if (a+b) / 2 < m then (a+b) / 2+m - b else a)->(j=if (a+b) / 2 < m then (a+b) / 2 else m) ->
     (zbh n a m b ((a+b) / 2:Nat) i j g l).ok/\(zbh n a m b ((a+b) / 2:Nat) i j g l).get=(qvo (qz g) 0 a m b l,()):=fun i j hi hj=>by
    have wp:IntKind.i64.wrap (IntKind.i64.wrap ((((a+b) / 2:Nat):Int)+m) - 1)=((a+b) / 2+m - 1:Nat):=by
     rw [zbw (by omega),zlh (by omega) (by omega)]
    have hS:bs4 (((a+b) / 2+m - 1:Nat):Int) i j g l=(qbi (qz g) 0 a m b l:Nat):=by
     unfold bs4 qbi
     simp only [Int.toNat_natCast]
     rw [← hi,← hj]
    dsimp only [zbh]
    have e:(g.1,g.2)=g:=rfl
    rw [wp,e,hS]
    have we:IntKind.i64.wrap (IntKind.i64.wrap ((((a+b) / 2:Nat):Int)+m) - (qbi (qz g) 0 a m b l:Nat))=((a+b) / 2+m - qbi (qz g) 0 a m b l:Nat):=by
     have:=s3.s3
     rw [zbw (by omega),qrg (by omega) (by omega)]
    rw [we]
    have hSx:qvo (qz g) 0 a m b l=(if (a+b) / 2 < (a+b) / 2+m - qbi (qz g) 0 a m b l/\(a+b) / 2+m - qbi (qz g) 0 a m b l < b then zi (qz g) ((a+b) / 2) b (if a < qbi (qz g) 0 a m b l/\qbi (qz g) 0 a m b l < (a+b) / 2 then zi (qz g) a ((a+b) / 2) (xj 0 m (qbi (qz g) 0 a m b l) ((a+b) / 2+m - qbi (qz g) 0 a m b l) l) else xj 0 m (qbi (qz g) 0 a m b l) ((a+b) / 2+m - qbi (qz g) 0 a m b l) l) else (if a < qbi (qz g) 0 a m b l/\qbi (qz g) 0 a m b l < (a+b) / 2 then zi (qz g) a ((a+b) / 2) (xj 0 m (qbi (qz g) 0 a m b l) ((a+b) / 2+m - qbi (qz g) 0 a m b l) l) else xj 0 m (qbi (qz g) 0 a m b l) ((a+b) / 2+m - qbi (qz g) 0 a m b l) l)):=by
     conv=>lhs; unfold qvo
     rw [if_neg c1,if_neg c2]
    rw [hSx]
    generalize qbi (qz g) 0 a m b l=st at s3 ⊢
    obtain ⟨q1,q2,q3,q4,q5,q6,len1,same1,sA1,sB1,len2,same2,sA2,sB2⟩:=s3
    obtain ⟨o1,o2⟩:=yei (n:=n) (a:=a) (m:=m) (b:=b) (st:=st) (mid:=(a+b) / 2) (en:=(a+b) / 2+m - st) (g:=g) (l:=l) (by omega) hbig
     (fun hc=>⟨by omega,by omega,by omega,by omega,by omega,by omega,hdom.sub fun z hz=>same1.mem.1 hz,key,hl.sub fun z hz=>same1.mem.1 hz,sA1,sB1⟩)
     (fun hc=>⟨by omega,by omega,by omega,by omega,by omega,by omega,hdom.sub fun z hz=>same2.mem.1 hz,key,hl.sub fun z hz=>same2.mem.1 hz,sA2,sB2⟩)
    refine ⟨⟨?_,o1⟩,o2⟩
    refine ⟨by omega,?_,?_,by omega,?_,?_,hbig,hdom⟩<;>(subst hi hj; split<;>omega)
   by_cases cm:m > (a+b) / 2
   ·have hd:decide ((m:Int) > ((a+b) / 2:Nat))=true:=decide_eq_true (by omega)
    rw [hd]
    have wi:IntKind.i64.wrap (IntKind.i64.wrap ((((a+b) / 2:Nat):Int)+m) - b)=((a+b) / 2+m - b:Nat):=by
     rw [zbw (by omega),qrg (by omega) (by omega)]
    rw [wi]
    obtain ⟨k1,k2⟩:=key3 ((a+b) / 2+m - b) ((a+b) / 2) (by rw [if_pos (by omega)]) (by rw [if_pos (by omega)])
    exact ⟨⟨fun hb=>(by cases hb),fun _=>⟨fun hb=>(by cases hb),fun _=>⟨by omega,fun _=>k1,fun hb=>by cases hb⟩⟩⟩,k2⟩
   ·have hd:decide ((m:Int) > ((a+b) / 2:Nat))=false:=decide_eq_false (by omega)
    rw [hd]
    obtain ⟨k1,k2⟩:=key3 a m (by rw [if_neg (by omega)]) (by rw [if_neg (by omega)])
    exact ⟨⟨fun hb=>(by cases hb),fun _=>⟨fun hb=>(by cases hb),fun _=>⟨by omega,fun hb=>(by cases hb),fun _=>k1⟩⟩⟩,k2⟩
theorem zy5:(n:Nat)->SoundMt Tryz.prog 203 (qp7 n)
 |0=>by
  have hf:Tryz.prog.funcs[203]? = some Tryz.f203:=by kernel_rfl
  obtain ⟨c,hb⟩:∃ c,Tryz.f203.body=some c:=⟨_,rfl⟩
  refine ⟨rfl,rfl,enters hf hb (by kernel_rfl),fun w F l xs v vs rows _ _ _ _ _ _ _ hok=>?_⟩
  have h:SymOk 0 xs.1 xs.2.1 xs.2.2.1 xs.2.2.2.1 l:=hok
  have h1:=h.am
  have h2:=h.mb
  have h3:=h.size
  omega
 |n+1=>by
  refine qqx (qkf (ykp (zy5 n)) (Λ:=ye2) (fn:=Tryz.f203) (fr:=qup n) (e:=3) (T:=i64) (ps:=[.d i64,.d i64,.d i64,zh]) (rs:=[]) (0,0,0,(fun _=>(0,()),fun _=>True),()) (by kernel_rfl) rfl rfl
   (fun c E hc=>yim hc) (yjl n)) _ _ fun w F l xs vs _ _ _ hok=>?_
  obtain ⟨a,m,b,g,rfl⟩:∃ (a m b:Int) (g:zh.den),xs=(a,m,b,g,()):=⟨xs.1,xs.2.1,xs.2.2.1,xs.2.2.2.1,rfl⟩
  have h:SymOk (n+1) a m b g l:=hok
  have h0:=h.a0
  have h1:=h.am
  have h2:=h.mb
  obtain ⟨a',rfl⟩:∃ n:Nat,a=n:=⟨a.toNat,by omega⟩
  obtain ⟨m',rfl⟩:∃ n:Nat,m=n:=⟨m.toNat,by omega⟩
  obtain ⟨b',rfl⟩:∃ n:Nat,b=n:=⟨b.toNat,by omega⟩
  exact zy6 n a' m' b' g l h
theorem qpp {lt:Int->Int->Bool} {w n:Nat} (hw:0 < w):(f f' a:Nat)->(l:List Int)->n < f+a->n < f'+a->qcx lt w n f a l=qcx lt w n f' a l
 |0,0,_,_,_,_=>rfl
 |0,f'+1,a,l,h,_=>by simp only [qcx]; rw [if_neg (by omega)]
 |f+1,0,a,l,_,h=>by simp only [qcx]; rw [if_neg (by omega)]
 |f+1,f'+1,a,l,h,h'=>by
  simp only [qcx]
  split
  ·exact qpp hw f f' _ _ (by omega) (by omega)
  ·rfl
theorem qma {lt:Int->Int->Bool} {n:Nat}:(f f' w:Nat)->(l:List Int)->0 < w->n<=f+w->n<=f'+w->xh lt n f w l=xh lt n f' w l
 |0,0,_,_,_,_,_=>rfl
 |0,f'+1,w,l,hw,h,_=>by simp only [xh]; rw [if_neg (by omega)]
 |f+1,0,w,l,hw,_,h=>by simp only [xh]; rw [if_neg (by omega)]
 |f+1,f'+1,w,l,hw,h,h'=>by
  simp only [xh]
  split
  ·exact qma f f' _ _ (by omega) (by omega) (by omega)
  ·rfl
abbrev big:Nat:=4611686018427387903
noncomputable def CI3:Cx:=cxK [] [] (orK (mtK (cx [] []).Γ 202 qke) (mtK (cx [] []).Γ 203 (qp7 big)))
theorem qnc:CxOK Tryz.prog CI3:=qcz qv trivial trivial (zla (qnx vq.ct zxc) (qnx vq.ct (zy5 big)))
abbrev qf8:Pt:=⟨63,0,⟨[(1,.d i64),(2,zh),(6,.d i64),(7,.d i64),(8,.d i64)],[.al 10000 0,.o 0 3 i64]⟩,⟨[(1,.d i64),(2,zh),(6,.d i64),(7,.d i64)],[.al 10000 0,.o 0 3 i64]⟩,⟨[],[]⟩⟩
noncomputable def zj2 (x:qf8.M.X):Fr qf8.Out:=
 let n:=x.1.1; let g:=x.1.2.1; let bs:=x.1.2.2.1; let a:=x.1.2.2.2.1; let b:=x.1.2.2.2.2.1; let l:=x.2.1
 Fr.br (decide (b<=n))
  (Fr.need (0<=a)
   (Fr.need (a<=b)
    (Fr.need (b<=(l.length:Int))
     (Fr.need ((l.length:Int)<=4611686018427387903)
      (Fr.need (qgl (g.1,g.2) l)
       (Fr.val (Rd.next ((n,(g.1,g.2),bs,b,IntKind.i64.wrap (b+bs),()),((qke.f l (a,b,(g.1,g.2),())).1,())))))))))
  (Fr.val (Rd.out ((n,(g.1,g.2),bs,a,()),(l,()))))
theorem yjp:qe Tryz.prog (qo Tryz.f183 0) qf8.M qf8 zj2:=
 qe.of_run qnc (bs:=0) (Λ:=qp) rfl rfl rfl (fun E=>qd _ 0) (fun x=>by kernel_rfl)
structure InvBlk (n bs a b:Int) (g:zh.den) (l:List Int):Prop where
 nl:n=l.length
 big:n<=4611686018427387903
 bs0:bs=20
 a0:0<=a
 an:a<=n
 ab:b=a+20
 ord:qgl g l
def qng (n a:Int) (g:zh.den) (l:List Int):Nat × List Int:=qcx (qz g) 20 n.toNat (n.toNat+1) a.toNat l
def zz0 (x:qf8.M.X):Fr qf8.Out:=
 let n:=x.1.1; let g:=x.1.2.1; let bs:=x.1.2.2.1; let a:=x.1.2.2.2.1; let b:=x.1.2.2.2.2.1; let l:=x.2.1
 Fr.need (InvBlk n bs a b g l) (Fr.val (Rd.out ((n,g,bs,((qng n a g l).1:Nat),()),((qng n a g l).2,()))))
theorem qu2 {lt:Int->Int->Bool} {a b:Nat} {l:List Int} {x:Int} (h:x ∈ zi lt a b l):x ∈ l:=by
 unfold zi at h
 rcases List.mem_append.1 h with h | h
 ·exact List.mem_of_mem_take h
 ·rcases List.mem_append.1 h with h | h
  ·exact List.mem_of_mem_take (List.mem_of_mem_drop (qpi.1 h))
  ·exact List.mem_of_mem_drop h
theorem ym6 (n bs a b:Int) (g:zh.den) (l:List Int) (hinv:InvBlk n bs a b g l) (Q:qf8.Out->Prop)
  (hq:Q (Rd.out ((n,g,bs,((qng n a g l).1:Nat),()),((qng n a g l).2,())))):(zj2 ((n,g,bs,a,b,()),(l,()))).satP fun
   |.next x'=>InvBlk x'.1.1 x'.1.2.2.1 x'.1.2.2.2.1 x'.1.2.2.2.2.1 x'.1.2.1 x'.2.1/\(x'.1.1 - x'.1.2.2.2.1).toNat < (n - a).toNat/\(zz0 x').satP Q
   |.out y=>Q (.out y)
   |.back z=>Q (.back z)
   |.pan p=>Q (.pan p):=by
 obtain ⟨h0,h1,h2,h3,h4,h5,h6⟩:=hinv
 subst h2 h5
 dsimp only [zj2,Fr.satP,Ty.den,PT.den,qke]
 refine ⟨fun hi=>?_,fun hi=>?_⟩
 ·have hle:a+20<=n:=of_decide_eq_true hi
  have w:IntKind.i64.wrap (a+20+20)=a+20+20:=IntWalk.i64_in _ (by omega)
  rw [w]
  have hlen:(zi (qz g) a.toNat (a+20).toNat l).length=l.length:=qc4 (by omega) (by omega)
  have hI:InvBlk n 20 (a+20) (a+20+20) g (zi (qz g) a.toNat (a+20).toNat l):=⟨by rw [hlen]; exact h0,h1,rfl,by omega,hle,rfl,h6.sub fun x hx=>qu2 hx⟩
  refine ⟨h3,by omega,by omega,by omega,h6,hI,by omega,hI,?_⟩
  have e:qng n a g l=qng n (a+20) g (zi (qz g) a.toNat (a+20).toNat l):=by
   unfold qng
   rw [show n.toNat+1=n.toNat+1 from rfl]
   conv=>lhs; unfold qcx
   rw [if_pos (by omega),show a.toNat+20=(a+20).toNat by omega]
   exact qpp (by omega) _ _ _ _ (by omega) (by omega)
  rw [e] at hq
  exact hq
 ·have hgt:¬ a+20<=n:=of_decide_eq_false hi
  have e:qng n a g l=(a.toNat,l):=by
   unfold qng qcx
   rw [if_neg (by omega)]
  rw [e] at hq
  have e2:((a.toNat:Nat):Int)=a:=by omega
  simp only [e2] at hq
  exact hq
theorem yiu:qe Tryz.prog (.loop (qo Tryz.f183 0)) qf8.M qf8 zz0:=by
 refine qe.loop (n:=63) (id:=0) yjp (inv:=fun x=>InvBlk x.1.1 x.1.2.2.1 x.1.2.2.2.1 x.1.2.2.2.2.1 x.1.2.1 x.2.1) (μ:=fun x=>(x.1.1 - x.1.2.2.2.1).toNat) ?_ (fun x Q h=>h.1)
 rintro ⟨⟨n,g,bs,a,b,_⟩,⟨l,_⟩⟩ hinv Q hq
 exact ym6 n bs a b g l hinv Q hq.2
abbrev qga:Pt:=⟨63,4,⟨[(1,.d i64),(2,zh),(6,.d i64),(7,.d i64),(8,.d i64)],[.al 10000 0,.o 0 3 i64]⟩,⟨[(1,.d i64),(2,zh),(6,.d i64),(7,.d i64)],[.al 10000 0,.o 0 3 i64]⟩,⟨[],[]⟩⟩
noncomputable def zc5:Code:=((Go.Ab.loopB (qo Tryz.f183 1) 0).getD .skip)
noncomputable def zkb (x:qga.M.X):Fr qga.Out:=
 let n:=x.1.1; let g:=x.1.2.1; let bs:=x.1.2.2.1; let a:=x.1.2.2.2.1; let b:=x.1.2.2.2.2.1; let l:=x.2.1
 Fr.br (decide (b<=n))
  (Fr.need (SymOk big a (IntKind.i64.wrap (a+bs)) b (g.1,g.2) l)
   (Fr.val (Rd.next ((n,(g.1,g.2),bs,b,IntKind.i64.wrap (b+IntKind.i64.wrap (2 * bs)),()),(((qp7 big).f l (a,IntKind.i64.wrap (a+bs),b,(g.1,g.2),())).1,())))))
  (Fr.val (Rd.out ((n,(g.1,g.2),bs,a,()),(l,()))))
theorem yjs:qe Tryz.prog zc5 qga.M qga zkb:=
 qe.of_run qnc (bs:=0) (Λ:=qp) rfl rfl rfl (fun E=>qd _ 0) (fun x=>by kernel_rfl)
structure InvPas (n bs a b:Int) (g:zh.den) (l:List Int):Prop where
 nl:n=l.length
 big:n<=4611686018427387903
 bs0:0 < bs
 bsn:bs < n
 a0:0<=a
 an:a<=n
 ab:b=a+2 * bs
 mul:∃ c:Nat,a.toNat=c * (2 * bs.toNat)
 dom:qhr g l
 key:∃ key:Int->Int,LtK (qz g) key l/\∀ k:Nat,a.toNat<=k * bs.toNat->yi key (seg (k * bs.toNat) (k * bs.toNat+bs.toNat) l)
def qhd (n bs a:Int) (g:zh.den) (l:List Int):Nat × List Int:=qcx (qz g) (2 * bs.toNat) n.toNat (n.toNat+1) a.toNat l
def zz4 (x:qga.M.X):Fr qga.Out:=
 let n:=x.1.1; let g:=x.1.2.1; let bs:=x.1.2.2.1; let a:=x.1.2.2.2.1; let b:=x.1.2.2.2.2.1; let l:=x.2.1
 Fr.need (InvPas n bs a b g l) (Fr.val (Rd.out ((n,g,bs,((qhd n bs a g l).1:Nat),()),((qhd n bs a g l).2,()))))
theorem yna (n bs a b:Int) (g:zh.den) (l:List Int) (hinv:InvPas n bs a b g l) (Q:qga.Out->Prop)
  (hq:Q (Rd.out ((n,g,bs,((qhd n bs a g l).1:Nat),()),((qhd n bs a g l).2,())))):(zkb ((n,g,bs,a,b,()),(l,()))).satP fun
   |.next x'=>InvPas x'.1.1 x'.1.2.2.1 x'.1.2.2.2.1 x'.1.2.2.2.2.1 x'.1.2.1 x'.2.1/\(x'.1.1 - x'.1.2.2.2.1).toNat < (n - a).toNat/\(zz4 x').satP Q
   |.out y=>Q (.out y)
   |.back z=>Q (.back z)
   |.pan p=>Q (.pan p):=by
 obtain ⟨h0,h1,h2,h3,h4,h5,h6,⟨c,h7⟩,h8,key,h9,h10⟩:=hinv
 subst h6
 dsimp only [zkb,Fr.satP,Ty.den,PT.den,qp7]
 have w1:IntKind.i64.wrap (a+bs)=a+bs:=IntWalk.i64_in _ (by omega)
 have w2:IntKind.i64.wrap (2 * bs)=2 * bs:=IntWalk.i64_in _ (by omega)
 rw [w1,w2]
 refine ⟨fun hi=>?_,fun hi=>?_⟩
 ·have hle:a+2 * bs<=n:=of_decide_eq_true hi
  have hle':a.toNat+2 * bs.toNat<=l.length:=by omega
  have hseg1:yi key (seg a.toNat (a+bs).toNat l):=by
   have:=h10 (2 * c) (by rw [h7,← Nat.mul_assoc,Nat.mul_comm c 2]; exact Nat.le_refl _)
   rwa [show 2 * c * bs.toNat=a.toNat by rw [h7,← Nat.mul_assoc,Nat.mul_comm c 2],show a.toNat+bs.toNat=(a+bs).toNat by omega] at this
  have hseg2:yi key (seg (a+bs).toNat (a+2 * bs).toNat l):=by
   have e:(2 * c+1) * bs.toNat=(a+bs).toNat:=by
    rw [Nat.succ_mul,show 2 * c * bs.toNat=a.toNat by rw [h7,← Nat.mul_assoc,Nat.mul_comm c 2]]
    omega
   have:=h10 (2 * c+1) (by omega)
   rwa [e,show (a+bs).toNat+bs.toNat=(a+2 * bs).toNat by omega] at this
  have hlen:(zi (qz g) a.toNat (a+2 * bs).toNat l).length=l.length:=qc4 (by omega) (by omega)
  by_cases hbig:a+2 * bs+2 * bs<=9223372036854775807
  ·have w3:IntKind.i64.wrap (a+2 * bs+2 * bs)=a+2 * bs+2 * bs:=IntWalk.i64_in _ (by omega)
   rw [w3]
   have hI:InvPas n bs (a+2 * bs) (a+2 * bs+2 * bs) g (zi (qz g) a.toNat (a+2 * bs).toNat l):=⟨by rw [hlen]; exact h0,h1,h2,h3,by omega,hle,rfl,⟨c+1,by rw [Nat.succ_mul,← h7]; omega⟩,h8.sub fun x hx=>qu2 hx,key,h9.sub fun x hx=>qu2 hx,fun k hk=>by
    rw [qk6 (c:=(a+2 * bs).toNat) (qzf (by omega) (by omega) (Nat.le_refl _)) hk]
    exact h10 k (by omega)⟩
   refine ⟨⟨h4,by omega,by omega,by omega,by omega,by simp only [big]; omega,h8,key,h9,hseg1,hseg2⟩,hI,by omega,hI,?_⟩
   have e:qhd n bs a g l=qhd n bs (a+2 * bs) g (zi (qz g) a.toNat (a+2 * bs).toNat l):=by
    unfold qhd
    conv=>lhs; unfold qcx
    rw [if_pos (by omega),show a.toNat+2 * bs.toNat=(a+2 * bs).toNat by omega]
    exact qpp (by omega) _ _ _ _ (by omega) (by omega)
   rw [e] at hq
   exact hq
  ·exfalso
   omega
 ·have hgt:¬ a+2 * bs<=n:=of_decide_eq_false hi
  have e:qhd n bs a g l=(a.toNat,l):=by
   unfold qhd qcx
   rw [if_neg (by omega)]
  rw [e] at hq
  have e2:((a.toNat:Nat):Int)=a:=by omega
  simp only [e2] at hq
  exact hq
theorem yiy:qe Tryz.prog (.loop zc5) qga.M qga zz4:=by
 refine qe.loop (n:=63) (id:=4) yjs (inv:=fun x=>InvPas x.1.1 x.1.2.2.1 x.1.2.2.2.1 x.1.2.2.2.2.1 x.1.2.1 x.2.1) (μ:=fun x=>(x.1.1 - x.1.2.2.2.1).toNat) ?_ (fun x Q h=>h.1)
 rintro ⟨⟨n,g,bs,a,b,_⟩,⟨l,_⟩⟩ hinv Q hq
 exact yna n bs a b g l hinv Q hq.2
noncomputable def yox:Nat->St->Option Tr:=fun _=>qga.han CI3.Γ qga.M zz4
abbrev qf7:Pt:=⟨63,2,⟨[(1,.d i64),(2,zh),(6,.d i64)],[.al 10000 0,.o 0 3 i64]⟩,⟨[],[.al 10000 0,.o 0 3 i64]⟩,⟨[],[]⟩⟩
noncomputable def zj1 (x:qf7.M.X):Fr qf7.Out:=
 let n:=x.1.1; let g:=x.1.2.1; let bs:=x.1.2.2.1; let l:=x.2.1
 let r:=qhd n bs 0 (g.1,g.2) l
 Fr.br (decide (bs < n))
  (Fr.need (InvPas n bs 0 (IntKind.i64.wrap (2 * bs)) (g.1,g.2) l)
   (Fr.br (decide (IntKind.i64.wrap ((r.1:Int)+bs) < n))
    (Fr.need (SymOk big r.1 (IntKind.i64.wrap ((r.1:Int)+bs)) n (g.1,g.2) r.2)
     (Fr.val (Rd.next ((n,(g.1,g.2),IntKind.i64.wrap (bs * 2),()),(((qp7 big).f r.2 ((r.1:Int),IntKind.i64.wrap ((r.1:Int)+bs),n,(g.1,g.2),())).1,())))))
    (Fr.val (Rd.next ((n,(g.1,g.2),IntKind.i64.wrap (bs * 2),()),(r.2,()))))))
  (Fr.val (Rd.out ((),(l,()))))
theorem yil {E:Env}:jt Tryz.prog E yox (qo Tryz.f183 1) 0:=
 ycn (b:=zc5) (by kernel_rfl) (by kernel_rfl) (qe.han qnc rfl yiy)
theorem yjo:qe Tryz.prog (qo Tryz.f183 1) qf7.M qf7 zj1:=
 qe.of_run qnc (bs:=0) (Λ:=yox) rfl rfl rfl (fun E=>yil) (fun x=>by kernel_rfl)
structure InvAll (n bs:Int) (g:zh.den) (l:List Int):Prop where
 nl:n=l.length
 big:n<=4611686018427387903
 bs0:0 < bs
 dom:qhr g l
 key:∃ key:Int->Int,LtK (qz g) key l/\zha key bs.toNat l
def zzy (x:qf7.M.X):Fr qf7.Out:=
 let n:=x.1.1; let g:=x.1.2.1; let bs:=x.1.2.2.1; let l:=x.2.1
 Fr.need (InvAll n bs g l) (Fr.val (Rd.out ((),(xh (qz g) n.toNat n.toNat bs.toNat l,()))))
theorem ym5 (n bs:Int) (g:zh.den) (l:List Int) (hinv:InvAll n bs g l) (Q:qf7.Out->Prop)
  (hq:Q (Rd.out ((),(xh (qz g) n.toNat n.toNat bs.toNat l,())))):(zj1 ((n,g,bs,()),(l,()))).satP fun
   |.next x'=>InvAll x'.1.1 x'.1.2.2.1 x'.1.2.1 x'.2.1/\(x'.1.1 - x'.1.2.2.1).toNat < (n - bs).toNat/\(zzy x').satP Q
   |.out y=>Q (.out y)
   |.back z=>Q (.back z)
   |.pan p=>Q (.pan p):=by
 obtain ⟨h0,h1,h2,h3,key,h4,h5⟩:=hinv
 dsimp only [zj1,Fr.satP,Ty.den,PT.den,qp7]
 refine ⟨fun hi=>?_,fun hi=>?_⟩
 ·have hlt:bs < n:=of_decide_eq_true hi
  have w1:IntKind.i64.wrap (2 * bs)=2 * bs:=IntWalk.i64_in _ (by omega)
  have w2:IntKind.i64.wrap (bs * 2)=bs * 2:=IntWalk.i64_in _ (by omega)
  have hr:=qla (key:=key) (lt:=qz g) (w:=2 * bs.toNat) (n:=n.toNat) (by omega) (n.toNat+1) 0 l (by omega) (by omega) (by omega) ⟨0,by simp⟩ h4 (fun k hk=>by omega)
  obtain ⟨p1,p2,p3⟩:=zas (lt:=qz g) (w:=bs.toNat) (n:=n.toNat) (l:=l) (key:=key) (by omega) (by omega) h4 h5
  have hpas:qhy (qz g) bs.toNat n.toNat l=if (qhd n bs 0 g l).1+bs.toNat < n.toNat then zi (qz g) (qhd n bs 0 g l).1 n.toNat (qhd n bs 0 g l).2 else (qhd n bs 0 g l).2:=rfl
  have hstep:xh (qz g) n.toNat n.toNat bs.toNat l=xh (qz g) n.toNat n.toNat (bs * 2).toNat (qhy (qz g) bs.toNat n.toNat l):=by
   obtain ⟨f,hf⟩:∃ f,n.toNat=f+1:=⟨n.toNat - 1,by omega⟩
   conv=>lhs; rw [show xh (qz g) n.toNat n.toNat bs.toNat l=xh (qz g) n.toNat (f+1) bs.toNat l by rw [← hf]]
   simp only [xh]
   rw [if_pos (by omega),show (bs * 2).toNat=2 * bs.toNat by omega]
   exact qma _ _ _ _ (by omega) (by omega) (by omega)
  have hI:InvAll n (bs * 2) g (qhy (qz g) bs.toNat n.toNat l):=⟨by omega,h1,by omega,h3.sub fun x hx=>p2.mem.1 hx,key,h4.sub fun x hx=>p2.mem.1 hx,by rw [show (bs * 2).toNat=2 * bs.toNat by omega]; exact p1⟩
  have hfin:InvAll n (bs * 2) g (qhy (qz g) bs.toNat n.toNat l)/\(n - bs * 2).toNat < (n - bs).toNat/\InvAll n (bs * 2) g (qhy (qz g) bs.toNat n.toNat l)/\Q (Rd.out ((),(xh (qz g) n.toNat n.toNat (bs * 2).toNat (qhy (qz g) bs.toNat n.toNat l),()))):=⟨hI,by omega,hI,by rw [← hstep]; exact hq⟩
  rw [w1,w2]
  have hb:(qcx (qz g) (2 * bs.toNat) n.toNat (n.toNat+1) 0 l)=qhd n bs 0 g l:=rfl
  rw [hb] at hr
  refine ⟨⟨h0,h1,h2,hlt,Int.le_refl _,by omega,by omega,⟨0,by simp⟩,h3,key,h4,fun k _=>h5 k⟩,?_⟩
  have e:(g.1,g.2)=g:=rfl
  simp only [e]
  generalize qhd n bs 0 g l=r at hr hpas ⊢
  obtain ⟨⟨c,hc⟩,q2,q3,q4,q5,q6,q7⟩:=hr
  have w3:IntKind.i64.wrap ((r.1:Int)+bs)=r.1+bs:=IntWalk.i64_in _ (by omega)
  rw [w3]
  refine ⟨fun hj=>?_,fun hj=>?_⟩
  ·have hj':(r.1:Int)+bs < n:=of_decide_eq_true hj
   rw [if_pos (by omega)] at hpas
   have hd:r.2.drop r.1=l.drop r.1:=q6
   have hm1:2 * c * bs.toNat=r.1:=by rw [hc,← Nat.mul_assoc,Nat.mul_comm c 2]
   have hm2:(2 * c+1) * bs.toNat=r.1+bs.toNat:=by rw [Nat.succ_mul,hm1]
   have s1:yi key (seg r.1 (r.1+bs.toNat) r.2):=by
    rw [qk6 hd (Nat.le_refl _),← hm1]
    exact h5 (2 * c)
   have s2:yi key (seg (r.1+bs.toNat) n.toNat r.2):=by
    have:seg (r.1+bs.toNat) n.toNat r.2=seg (r.1+bs.toNat) (r.1+bs.toNat+bs.toNat) r.2:=by
     unfold seg
     rw [List.take_of_length_le (by omega),List.take_of_length_le (by omega)]
    rw [this,qk6 hd (by omega),← hm2]
    exact h5 (2 * c+1)
   refine ⟨⟨by omega,by omega,by omega,by omega,by omega,by simp only [big]; omega,h3.sub fun x hx=>q5.mem.1 hx,key,h4.sub fun x hx=>q5.mem.1 hx,?_,?_⟩,?_⟩
   ·rw [show ((r.1:Int)+bs).toNat=r.1+bs.toNat by omega]
    exact s1
   ·rw [show ((r.1:Int)+bs).toNat=r.1+bs.toNat by omega]
    exact s2
   ·rw [hpas] at hfin
    exact hfin
  ·have hj':¬ (r.1:Int)+bs < n:=of_decide_eq_false hj
   rw [if_neg (by omega)] at hpas
   rw [hpas] at hfin
   exact hfin
 ·have hge:¬ bs < n:=of_decide_eq_false hi
  have:xh (qz g) n.toNat n.toNat bs.toNat l=l:=by
   rw [qma _ 0 _ _ (by omega) (by omega) (by omega)]
   rfl
  rw [this] at hq
  exact hq
theorem yit:qe Tryz.prog (.loop (qo Tryz.f183 1)) qf7.M qf7 zzy:=by
 refine qe.loop (n:=63) (id:=2) yjo (inv:=fun x=>InvAll x.1.1 x.1.2.2.1 x.1.2.1 x.2.1) (μ:=fun x=>(x.1.1 - x.1.2.2.1).toNat) ?_ (fun x Q h=>h.1)
 rintro ⟨⟨n,g,bs,_⟩,⟨l,_⟩⟩ hinv Q hq
 exact ym5 n bs g l hinv Q hq.2
noncomputable def yqk:Nat->St->Option Tr
 |0=>qf8.han CI3.Γ qf8.M zz0
 |_=>qf7.han CI3.Γ qf7.M zzy
noncomputable def zgy:Mt:=⟨3,i64,[.d i64,zh],[],fun l x=>(jk (qz x.2.1) l,()),fun l x=>[x.1=l.length,(l.length:Int)<=4611686018427387903,qgl x.2.1 l]⟩
noncomputable def zpd (l:List Int) (x:qm [.d i64,zh]):Fr (List Int × qi []):=
 let n:=x.1; let g:=x.2.1
 let r:=qng n 0 (g.1,g.2) l
 Fr.need (InvBlk n 20 0 20 (g.1,g.2) l)
 (Fr.need ((0:Int)<=r.1)
  (Fr.need ((r.1:Int)<=n)
   (Fr.need (n<=(r.2.length:Int))
    (Fr.need ((r.2.length:Int)<=4611686018427387903)
     (Fr.need (qgl (g.1,g.2) r.2)
      (Fr.need (InvAll n 20 (g.1,g.2) (qke.f r.2 ((r.1:Int),n,(g.1,g.2),())).1)
       (Fr.val (xh (qz (g.1,g.2)) n.toNat n.toNat (20:Int).toNat (qke.f r.2 ((r.1:Int),n,(g.1,g.2),())).1,()))))))))
theorem yj0:SoundMt Tryz.prog 183 zgy:=
 qqx (qkf qnc (Λ:=yqk) (fn:=Tryz.f183) (fr:=zpd) (e:=3) (T:=i64) (ps:=[.d i64,zh]) (rs:=[]) (0,(fun _=>(0,()),fun _=>True),()) (by kernel_rfl) rfl rfl
  (fun c E hc=>zgv hc (by kernel_rfl) (b0:=qo Tryz.f183 0) (b1:=qo Tryz.f183 1) (by kernel_rfl) (by kernel_rfl) (qe.han qnc rfl yiu) (qe.han qnc rfl yit)) (fun l x=>by kernel_rfl)) _ _ fun w F l xs vs _ _ _ hok=>by
  obtain ⟨n,g,rfl⟩:∃ (n:Int) (g:zh.den),xs=(n,g,()):=⟨xs.1,xs.2.1,rfl⟩
  have hok':(n:Int)=(List.length (α:=Int) l:Int)/\(List.length (α:=Int) l:Int)<=4611686018427387903/\qgl g l:=hok
  obtain ⟨h1,h2,h3,key,h4⟩:=hok'
  subst h1
  have hr:=qla (key:=key) (lt:=qz g) (w:=20) (n:=List.length (α:=Int) l) (by omega) (List.length (α:=Int) l+1) 0 l (by omega) (by omega) rfl ⟨0,by simp⟩ h4 (fun k hk=>by omega)
  have hS:=zun h4
  unfold zdg at hS
  have hb:qng (List.length (α:=Int) l:Int) 0 g l=qcx (qz g) 20 (List.length (α:=Int) l) (List.length (α:=Int) l+1) 0 l:=rfl
  dsimp only [zpd,Fr.ok,Fr.get,Ty.den,PT.den,qke,zgy]
  have e:(g.1,g.2)=g:=rfl
  simp only [e,hb]
  simp only at hS
  generalize qcx (qz g) 20 (List.length (α:=Int) l) (List.length (α:=Int) l+1) 0 l=r at hr hS ⊢
  obtain ⟨p1,p2,p3⟩:=hr.last h4
  have q2:=hr.le
  have q4:=hr.len
  have hm:∀ x ∈ r.2,x ∈ l:=fun x hx=>hr.same.mem.1 hx
  have hm2:∀ x ∈ zi (qz g) r.1 (List.length (α:=Int) l) r.2,x ∈ l:=fun x hx=>p2.mem.1 hx
  refine ⟨⟨⟨rfl,h2,rfl,by omega,by omega,rfl,h3,key,h4⟩,by omega,by omega,by omega,by omega,⟨h3.sub hm,key,h4.sub hm⟩,⟨congrArg (fun n:Nat=>(n:Int)) p3.symm,h2,by omega,h3.sub hm2,key,h4.sub hm2,p1⟩,trivial⟩,?_⟩
  show (xh (qz g) (List.length (α:=Int) l) (List.length (α:=Int) l) 20 (zi (qz g) r.1 (List.length (α:=Int) l) r.2),())=(jk (qz g) l,())
  rw [hS]
noncomputable def CI4:Cx:=cxK [] [] (mtK (cx [] []).Γ 183 zgy)
theorem ykq:CxOK Tryz.prog CI4:=qcz qv trivial trivial (qnx vq.ct yj0)
noncomputable def zgx:Mt:=⟨3,i64,[zh],[],fun l x=>(jk (qz x.1) l,()),fun l x=>[(l.length:Int)<=4611686018427387903,qgl x.1 l]⟩
noncomputable def yh3 (l:List Int) (x:qm [zh]):Fr (List Int × qi []):=
 Fr.need ((l.length:Int)=l.length) (Fr.need ((l.length:Int)<=4611686018427387903) (Fr.need (qgl (x.1.1,x.1.2) l) (Fr.val ((zgy.f l ((l.length:Int),(x.1.1,x.1.2),())).1,()))))
theorem yjx:SoundMt Tryz.prog 146 zgx:=
 qqx (qkf ykq (Λ:=qp) (fn:=Tryz.f146) (fr:=yh3) (e:=3) (T:=i64) (ps:=[zh]) (rs:=[]) ((fun _=>(0,()),fun _=>True),()) (by kernel_rfl) rfl rfl
  (fun c E _=>qd c 0) (fun l x=>by kernel_rfl)) _ _ fun w F l xs vs _ _ _ hok=>by
  obtain ⟨g,rfl⟩:∃ g:zh.den,xs=(g,()):=⟨xs.1,rfl⟩
  exact ⟨⟨rfl,hok.1,hok.2,trivial⟩,rfl⟩
noncomputable def CH2:Cx:=cx [(210,qv5),(184,qi3)] []
theorem zhc:CxOK Tryz.prog CH2:=zb qv ⟨zpm,zcy,trivial⟩ trivial
def srt:List Int->Bool
 |a :: b :: r=>decide (a<=b)&&srt (b :: r)
 |_=>true
theorem zmb:(l:List Int)->(a b:Int)->srt (l++[a,b])=(srt (l++[a])&&decide (a<=b))
 |[],a,b=>by simp [srt]
 |[x],a,b=>by simp [srt]
 |x :: y :: l,a,b=>by
  have:=zmb (y :: l) a b
  simp only [List.cons_append,srt] at this ⊢
  rw [this,Bool.and_assoc]
abbrev qfc:Pt:=⟨21,0,⟨[(0,.d jd),(3,.d i64)],[]⟩,⟨[],[]⟩,⟨[(2,.d .bool)],[]⟩⟩
def zke (x:qfc.M.X):Fr qfc.Out:=
 Fr.br (decide (x.1.2.1 > 0))
  (Fr.need (0<=x.1.2.1/\x.1.2.1 < x.1.1.length)
   (Fr.need (0<=IntKind.i64.wrap (x.1.2.1 - 1)/\IntKind.i64.wrap (x.1.2.1 - 1) < x.1.1.length)
    (Fr.br (qv5.f (x.1.1.getD x.1.2.1.toNat i64.dflt,x.1.1.getD (IntKind.i64.wrap (x.1.2.1 - 1)).toNat i64.dflt,())).1
     (Fr.val (Rd.back ((false,()),())))
     (Fr.val (Rd.next ((x.1.1,IntKind.i64.wrap (x.1.2.1 - 1),()),()))))))
  (Fr.val (Rd.out ((),())))
theorem yju:qe Tryz.prog (qo Tryz.f193 0) qfc.M qfc zke:=
 qe.of_run zhc (bs:=0) (Λ:=qp) rfl rfl rfl (fun E=>qd _ 0) (fun x=>by kernel_rfl)
def InS (l:List Int) (i:Int):Prop:=-1<=i/\i < l.length/\(l.length:Int)<=9223372036854775807
def zz6 (x:qfc.M.X):Fr qfc.Out:=
 Fr.need (InS x.1.1 x.1.2.1) (Fr.br (srt (x.1.1.take (x.1.2.1+1).toNat)) (Fr.val (Rd.out ((),()))) (Fr.val (Rd.back ((false,()),()))))
theorem yd7 (l:List Int) (k:Nat) (h:k+1 < l.length):srt (l.take (k+2))=(srt (l.take (k+1))&&decide (l[k]<=l[k+1])):=by
 have e1:l.take (k+1)=l.take k++[l[k]]:=(List.take_append_getElem (show k < l.length by omega)).symm
 have e2:l.take (k+2)=l.take k++[l[k],l[k+1]]:=by
  have e3:l.take (k+2)=l.take (k+1)++[l[k+1]]:=(List.take_append_getElem h).symm
  rw [e3,e1,List.append_assoc]
  rfl
 rw [e2,e1,zmb]
theorem ync (l:List Int) (i:Int) (hinv:InS l i) (Q:qfc.Out->Prop)
  (hq:(Fr.br (srt (l.take (i+1).toNat)) (Fr.val (Rd.out ((),()))) (Fr.val (Rd.back ((false,()),()))):Fr qfc.Out).satP Q) :
  (zke ((l,i,()),())).satP fun
   |.next x'=>InS x'.1.1 x'.1.2.1/\x'.1.2.1.toNat < i.toNat/\(zz6 x').satP Q
   |.out y=>Q (.out y)
   |.back z=>Q (.back z)
   |.pan p=>Q (.pan p):=by
 obtain ⟨h1,h2,h3⟩:=hinv
 refine ⟨fun hi=>?_,fun hi=>?_⟩
 ·have hi':i > 0:=of_decide_eq_true hi
  obtain ⟨k,hk⟩:∃ k:Nat,i=k+1:=⟨(i - 1).toNat,by omega⟩
  subst hk
  have hw:IntKind.i64.wrap ((k:Int)+1 - 1)=k:=by rw [show (k:Int)+1 - 1=k by omega]; exact IntWalk.i64_in _ (by omega)
  have hl:k+1 < l.length:=by omega
  have g1:l.getD ((k:Int)+1).toNat i64.dflt=l[k+1]:=by
   rw [show ((k:Int)+1).toNat=k+1 by omega,List.getD_eq_getElem?_getD,List.getElem?_eq_getElem hl]; rfl
  have g2:l.getD (k:Int).toNat i64.dflt=l[k]:=by
   rw [show (k:Int).toNat=k by omega,List.getD_eq_getElem?_getD,List.getElem?_eq_getElem (show k < l.length by omega)]; rfl
  have e1:((k:Int)+1+1).toNat=k+2:=by omega
  rw [e1,yd7 l k hl] at hq
  dsimp only [zke,Fr.satP,qv5]
  rw [hw,g1,g2]
  have hI:InS l k:=⟨by omega,by omega,h3⟩
  refine ⟨⟨(show (0:Int)<=(k:Int)+1 by omega),h2⟩,⟨(show (0:Int)<=(k:Int) by omega),(show (k:Int) < (l.length:Int) by omega)⟩,fun hc=>?_,fun hc=>?_⟩
  ·have hc':¬ l[k]<=l[k+1]:=by have:=of_decide_eq_true hc; exact Int.not_le.2 this
   rw [decide_eq_false hc',Bool.and_false] at hq
   exact hq.2 rfl
  ·have hc':l[k]<=l[k+1]:=by have:=of_decide_eq_false hc; exact Int.not_lt.1 this
   rw [decide_eq_true hc',Bool.and_true] at hq
   exact ⟨hI,by omega,hI,by rw [show ((k:Int)+1).toNat=k+1 by omega]; exact hq⟩
 ·have hi':¬ i > 0:=of_decide_eq_false hi
  have hle:(i+1).toNat<=1:=by omega
  have:srt (l.take (i+1).toNat)=true:=by
   rcases Nat.lt_or_ge (i+1).toNat 1 with h | h
   ·rw [show (i+1).toNat=0 by omega]; rfl
   ·rw [show (i+1).toNat=1 by omega]
    cases l<;>rfl
  rw [this] at hq
  exact hq.1 rfl
theorem yi0:qe Tryz.prog (.loop (qo Tryz.f193 0)) qfc.M qfc zz6:=by
 refine qe.loop (n:=21) (id:=0) yju (inv:=fun x=>InS x.1.1 x.1.2.1) (μ:=fun x=>x.1.2.1.toNat) ?_ (fun x Q h=>h.1)
 rintro ⟨⟨l,i,_⟩,_⟩ hinv Q hq
 exact ync l i hinv Q hq.2
noncomputable def yr2:Nat->St->Option Tr:=fun _=>qfc.han CH2.Γ qfc.M zz6
def zb5:Ct:=⟨[.d jd],[.bool],fun x=>(srt x.1,()),fun _=>[]⟩
def zw0 (x:qm [.d jd]):Fr (qi [.bool]):=
 Fr.need (InS x.1 (IntKind.i64.wrap (x.1.length - 1))) (Fr.br (srt (x.1.take (IntKind.i64.wrap (x.1.length - 1)+1).toNat)) (Fr.val (true,())) (Fr.val (false,())))
theorem zy1:qa Tryz.prog 193 zb5:=
 conv (qg zhc (Λ:=yr2) (fn:=Tryz.f193) (fr:=zw0) (ps:=[.d jd]) (rs:=[.bool]) ([],()) (by kernel_rfl)
  (fun c E hc=>yz hc (by kernel_rfl) (b:=qo Tryz.f193 0) (by kernel_rfl) (qe.han zhc rfl yi0)) (fun x=>by kernel_rfl)) _ _ fun w F xs vs hr _=>by
  obtain ⟨l,_⟩:=xs
  obtain ⟨v,vs',rfl,hv,_⟩:=hr
  have hwf:=qs.wf hv.2.2
  have hlen:l.length<=maxLen:=hwf.1
  have hw:IntKind.i64.wrap ((l.length:Int) - 1)=l.length - 1:=IntWalk.i64_in _ (by simp only [maxLen] at hlen; omega)
  have ht:l.take ((l.length:Int) - 1+1).toNat=l:=List.take_of_length_le (by omega)
  refine ⟨⟨?_,fun _=>trivial,fun _=>trivial⟩,?_⟩
  ·show InS l (IntKind.i64.wrap ((l.length:Int) - 1))
   rw [hw]
   simp only [maxLen] at hlen
   exact ⟨by omega,by omega,by omega⟩
  ·show (if srt (l.take (IntKind.i64.wrap ((l.length:Int) - 1)+1).toNat)=true then (true,()) else (false,()))=(srt l,())
   rw [hw,ht]
   cases srt l<;>rfl
noncomputable def CH3:Cx:=cx [(193,zb5),(184,qi3)] []
theorem zu4:CxOK Tryz.prog CH3:=zb qv ⟨zy1,zcy,trivial⟩ trivial
def qul (x:qm [.d qb]):Fr (qi [.bool]):=
 Fr.br (bif decide (x.1.1 ≥ 0) then decide (x.1.1 < 8) else false) (Fr.br (bif decide (x.1.2.2.2.2.1 ≥ 1) then decide (x.1.2.2.2.2.1<=10000) else false) (Fr.br (zb5.f ([0,x.1.2.2.2.1,IntKind.i64.wrap (x.1.2.1 - 1),IntKind.i64.wrap (x.1.2.2.1 - 1),999999999999999],())).1 (Fr.val (decide (x.1.2.2.2.1 < x.1.2.1),())) (Fr.val (false,()))) (Fr.val (false,()))) (Fr.val (false,()))
theorem zj5:qa Tryz.prog 160 ⟨[.d qb],[.bool],fun xs=>(qul xs).get,fun xs=>[(qul xs).ok]⟩:=
 qg zu4 (Λ:=qp) (fn:=Tryz.f160) (dfP [.d qb]) (by kernel_rfl) (fun c E _=>qd c 0) (fun x=>by kernel_rfl)
def zj4 (x:qm [.d i64,.d i64]):Fr (qi [i64]):=
 Fr.br (qi3.f (x.1,())).1 (Fr.br (qi3.f (x.2.1,())).1 (Fr.val (0,())) (Fr.val (-1,()))) (Fr.br (qi3.f (x.2.1,())).1 (Fr.val (1,())) (Fr.br (decide (x.1 < x.2.1)) (Fr.val (-1,())) (Fr.br (decide (x.1 > x.2.1)) (Fr.val (1,())) (Fr.val (0,())))))
theorem zww:qa Tryz.prog 148 ⟨[.d i64,.d i64],[i64],fun xs=>(zj4 xs).get,fun xs=>[(zj4 xs).ok]⟩:=
 qg zu4 (Λ:=qp) (fn:=Tryz.f148) (dfP [.d i64,.d i64]) (by kernel_rfl) (fun c E _=>qd c 0) (fun x=>by kernel_rfl)
def zj8 (x:qm [.d zw,.d i64]):Fr (qi [.bool]):=
 Fr.val (bif decide (x.2.1 ≥ (qv4.f ((x.1.1,x.1.2.1,()),())).1.1) then decide (x.2.1 < (qv4.f ((x.1.1,x.1.2.1,()),())).1.2.1) else false,())
theorem zwz:qa Tryz.prog 43 ⟨[.d zw,.d i64],[.bool],fun xs=>(zj8 xs).get,fun xs=>[(zj8 xs).ok]⟩:=
 qg zu3 (Λ:=qp) (fn:=Tryz.f43) (dfP [.d zw,.d i64]) (by kernel_rfl) (fun c E _=>qd c 0) (fun x=>by kernel_rfl)
def qyd (x:qm [.d zw]):Fr (qi [i64]):=
 Fr.val (IntKind.i64.wrap ((qv4.f ((x.1.1,x.1.2.1,()),())).1.2.1 - (qv4.f ((x.1.1,x.1.2.1,()),())).1.1),())
theorem znk:qa Tryz.prog 68 ⟨[.d zw],[i64],fun xs=>(qyd xs).get,fun xs=>[(qyd xs).ok]⟩:=
 qg zu3 (Λ:=qp) (fn:=Tryz.f68) (dfP [.d zw]) (by kernel_rfl) (fun c E _=>qd c 0) (fun x=>by kernel_rfl)
theorem yf0 {n:Int} (h:Wf i64 n) : -9223372036854775808<=n/\n<=9223372036854775807:=h
theorem zfl {n:Int} (h : -9223372036854775808<=n/\n<=9223372036854775807):(n = -9223372036854775808/\IntKind.i64.wrap (n - 1)=9223372036854775807) ∨ (-9223372036854775808 < n/\IntKind.i64.wrap (n - 1)=n - 1):=by
 by_cases hn:n = -9223372036854775808
 ·left
  subst hn
  exact ⟨rfl,by kernel_rfl⟩
 ·right
  exact ⟨by omega,qdf (by omega)⟩
theorem ya2 (p l g d s:Int) (hl : -9223372036854775808<=l/\l<=9223372036854775807) (hg : -9223372036854775808<=g/\g<=9223372036854775807) :
  (srt [0,d,IntKind.i64.wrap (l - 1),IntKind.i64.wrap (g - 1),999999999999999]&&decide (d < l))=decide (0<=d/\d < l/\l<=g/\g<=1000000000000000):=by
 rw [Bool.eq_iff_iff]
 simp only [srt,Bool.and_eq_true,decide_eq_true_eq]
 rcases zfl hl with ⟨h1,h2⟩ | ⟨h1,h2⟩<;>rcases zfl hg with ⟨h3,h4⟩ | ⟨h3,h4⟩<;>rw [h2,h4]
 ·omega
 ·omega
 ·omega
 ·constructor
  ·rintro ⟨⟨a1,a2,a3,a4,_⟩,a5⟩
   exact ⟨a1,a5,by omega,by omega⟩
  ·rintro ⟨a1,a2,a3,a4⟩
   exact ⟨⟨a1,by omega,by omega,by omega,trivial⟩,a2⟩
theorem ziq:qa Tryz.prog 160 qfy:=
 conv zj5 _ _ (fun w F x vs hr _=>by
  obtain ⟨⟨p,l,g,d,s,_⟩,_⟩:=x
  obtain ⟨v,vs',rfl,hv,_⟩:=hr
  have hwf:=qs.wf hv.2.2
  refine ⟨by simp [qq,Fr.ok,qul],?_⟩
  have hb:=ya2 p l g d s (yf0 hwf.2.1) (yf0 hwf.2.2.1)
  show (if (bif decide (p ≥ 0) then decide (p < 8) else false)=true then (if (bif decide (s ≥ 1) then decide (s<=10000) else false)=true then (if srt [0,d,IntKind.i64.wrap (l - 1),IntKind.i64.wrap (g - 1),999999999999999]=true then (decide (d < l),()) else (false,())) else (false,())) else (false,()))=(qhf p l g d s,())
  have h1:(if srt [0,d,IntKind.i64.wrap (l - 1),IntKind.i64.wrap (g - 1),999999999999999]=true then ((decide (d < l),()):Bool × Unit) else (false,()))=(decide (0<=d/\d < l/\l<=g/\g<=1000000000000000),()):=by
   rw [← hb]
   cases srt [0,d,IntKind.i64.wrap (l - 1),IntKind.i64.wrap (g - 1),999999999999999]<;>rfl
  rw [h1]
  have h2:∀ (a b c:Bool),(if a=true then (if b=true then ((c,()):Bool × Unit) else (false,())) else (false,()))=(a&&(b&&c),()):=fun a b c=>by cases a<;>cases b<;>rfl
  rw [h2]
  congr 1
  rw [Bool.eq_iff_iff]
  simp only [qhf,Bool.cond_false_right,Bool.and_eq_true,decide_eq_true_eq]
  exact ⟨fun ⟨⟨a1,a2⟩,⟨a3,a4⟩,a5⟩=>⟨a1,a2,a3,a4,a5⟩,fun ⟨a1,a2,a3,a4,a5⟩=>⟨⟨a1,a2⟩,⟨a3,a4⟩,a5⟩⟩)
def zri (a b:Int):Int:=if a < b then -1 else if b < a then 1 else 0
def yar:Ct:=⟨[.d i64,.d i64],[i64],fun x=>(zri x.1 x.2.1,()),fun _=>[]⟩
theorem yl5:qa Tryz.prog 148 yar:=
 conv zww _ _ (fun _ _ x _ _ _=>by
  obtain ⟨a,b,_⟩:=x
  refine ⟨by simp [qq,Fr.ok,zj4],?_⟩
  show (if decide (a < b)=true then ((-1:Int),()) else if decide (a > b)=true then (1,()) else (0,()))=(if a < b then -1 else if b < a then 1 else 0,())
  by_cases h1:a < b
  ·rw [if_pos (decide_eq_true h1),if_pos h1]
  ·rw [if_neg (by simp [h1]),if_neg h1]
   by_cases h2:b < a
   ·rw [if_pos (decide_eq_true h2),if_pos h2]
   ·rw [if_neg (by simpa using h2),if_neg h2])
theorem ypm (a b d:Int):(bif decide (d ≥ (qsj (a,b,())).1) then decide (d < (qsj (a,b,())).2.1) else false)=inB a b d:=by
 unfold qsj
 by_cases h:wd (a,b,())=true
 ·rw [if_pos h]
  obtain ⟨h1,h2,h3⟩:=qcp.1 h
  simp only [Bool.cond_false_right,inB]
  rw [Bool.eq_iff_iff]
  simp only [Bool.and_eq_true,decide_eq_true_eq,Ty.den,PT.den]
  constructor
  ·rintro ⟨a1,a2⟩; exact ⟨h1,h3,a1,a2⟩
  ·rintro ⟨_,_,a1,a2⟩; exact ⟨a1,a2⟩
 ·rw [if_neg h]
  have h':¬ (1<=a/\a < b/\b<=292195):=fun hh=>h (qcp.2 hh)
  simp only [Bool.cond_false_right,inB]
  rw [Bool.eq_iff_iff]
  simp only [Bool.and_eq_true,decide_eq_true_eq]
  constructor
  ·rintro ⟨a1,a2⟩
   have a1':(0:Int)<=d:=a1
   have a2':d < (0:Int):=a2
   omega
  ·rintro ⟨a1,a2,a3,a4⟩
   exact absurd ⟨a1,by omega,a2⟩ h'
theorem qnu:qa Tryz.prog 43 cIn:=
 conv zwz _ _ (fun _ _ x _ _ _=>by
  obtain ⟨⟨a,b,_⟩,d,_⟩:=x
  refine ⟨by simp [qq,Fr.ok,zj8],?_⟩
  exact congrArg (·,()) (ypm a b d))
def qsn (a b:Int):Int:=if wd (a,b,())=true then b - a else 0
def qnj:Ct:=⟨[.d zw],[i64],fun x=>(qsn x.1.1 x.1.2.1,()),fun _=>[]⟩
theorem zk1:qa Tryz.prog 68 qnj:=
 conv znk _ _ (fun _ _ x _ _ _=>by
  obtain ⟨⟨a,b,_⟩,_⟩:=x
  refine ⟨by simp [qq,Fr.ok,qyd],?_⟩
  show (IntKind.i64.wrap ((qsj (a,b,())).2.1 - (qsj (a,b,())).1),())=(qsn a b,())
  unfold qsj qsn
  by_cases h:wd (a,b,())=true
  ·rw [if_pos h,if_pos h]
   obtain ⟨h1,h2,h3⟩:=qcp.1 h
   have hw:IntKind.i64.wrap (b - a)=b - a:=qdf (by omega)
   exact congrArg (·,()) hw
  ·rw [if_neg h,if_neg h]
   rfl)
abbrev qw:Ty:=.pair i64 (.pair i64 .unit)
noncomputable def CH4:Cx:=cx [(160,qfy),(195,qfy)] []
theorem xd:CxOK Tryz.prog CH4:=zb qv ⟨ziq,zv2,trivial⟩ trivial
abbrev ja:Pt:=⟨26,0,⟨[(5,.d i64),(0,.d (.sl qb)),(1,.d (.sl qb))],[]⟩,⟨[],[]⟩,⟨[(4,.d .bool)],[]⟩⟩
def qxa (x:ja.M.X):Fr ja.Out:=
 Fr.br (decide (x.1.1 < ↑(List.length x.1.2.1))) (Fr.need (0<=x.1.1/\x.1.1 < ↑(List.length x.1.2.1)) (Fr.need (0<=x.1.1/\x.1.1 < ↑(List.length x.1.2.2.1)) (Fr.br (!((List.getD x.1.2.1 (Int.toNat x.1.1) qb.dflt).1==(List.getD x.1.2.2.1 (Int.toNat x.1.1) qb.dflt).1&&((List.getD x.1.2.1 (Int.toNat x.1.1) qb.dflt).2.1==(List.getD x.1.2.2.1 (Int.toNat x.1.1) qb.dflt).2.1&&((List.getD x.1.2.1 (Int.toNat x.1.1) qb.dflt).2.2.1==(List.getD x.1.2.2.1 (Int.toNat x.1.1) qb.dflt).2.2.1&&((List.getD x.1.2.1 (Int.toNat x.1.1) qb.dflt).2.2.2.1==(List.getD x.1.2.2.1 (Int.toNat x.1.1) qb.dflt).2.2.2.1&&((List.getD x.1.2.1 (Int.toNat x.1.1) qb.dflt).2.2.2.2.1==(List.getD x.1.2.2.1 (Int.toNat x.1.1) qb.dflt).2.2.2.2.1&&true)))))) (Fr.val (Rd.back ((false,()),()))) (Fr.val (Rd.next ((IntKind.i64.wrap (x.1.1+1),x.1.2.1,x.1.2.2.1,()),())))))) (Fr.val (Rd.out ((),())))
theorem zl2:qe Tryz.prog (qo Tryz.f103 0) ja.M ja qxa:=
 qe.of_run xd (bs:=0) (Λ:=qp) rfl rfl rfl (fun E=>qd _ 0) (fun x=>by kernel_rfl)
abbrev qdz:Type:=qm [.d (.sl qb)] × jc []
def qax (e:(qb.den × qb.den)) (s:qdz):Fr (qdz ⊕ ja.R.X):=
 Fr.br (!(e.1.1==e.2.1&&(e.1.2.1==e.2.2.1&&(e.1.2.2.1==e.2.2.2.1&&(e.1.2.2.2.1==e.2.2.2.2.1&&(e.1.2.2.2.2.1==e.2.2.2.2.2.1&&true)))))) (Fr.val (.inr ((false,()),()))) (Fr.val (.inl ((s.1.1,()),())))
def xk (x:ja.M.X):Int × List (qb.den × qb.den) × qdz:=(x.1.1,x.1.2.1.zip x.1.2.2.1,x.1.2.2,x.2)
def qhv (x:ja.M.X):Prop:=x.1.2.1.length=x.1.2.2.1.length
def qn0 (s:qdz):ja.E.X:=((),())
def qpt:qdz:=(dfP _,dfM _)
def qhg:ja.R.X:=(dfP _,dfM _)
theorem zft:qe Tryz.prog (.loop (qo Tryz.f103 0)) ja.M ja (FL qax xk qhv qn0 Rd.back qpt qhg):=by
 refine qe.list zl2 qax xk qhv qn0 Rd.back qpt qhg ?_ ?_
 ·rintro ⟨⟨i,l,s⟩,m⟩ hg h0 h1 hb e he Q h
  have hz:l.length=s.1.length:=hg
  have h0:0<=i:=h0
  have h1:i < (l.length:Int):=qhq hz h1
  have hb:(l.length:Int)<=9223372036854775807:=qhp hz hb
  have h1z:i < (s.1.length:Int):=by rw [← hz]; exact h1
  have hd:l.getD i.toNat qb.dflt=e.1:=zr (qfi he)
  have hdz:s.1.getD i.toNat qb.dflt=e.2:=zr (qfk he)
  have hw:=zx h0 h1 hb
  dsimp only [xk,qax,qxa,Fr.satP] at h ⊢
  simp only [hd,hw,hdz] at h ⊢
  refine ⟨fun _=>?_,fun hn=>absurd h1 (of_decide_eq_false hn)⟩
  repeat' first
   |exact h
   |exact ⟨h0,h1⟩
   |exact fun _=>⟨h0,h1⟩
   |exact ⟨h0,h1z⟩
   |exact fun _=>⟨h0,h1z⟩
   |exact h _ rfl hz
   |refine ⟨?_,?_⟩
   |(intro (hc:_=true); replace h:=h.1 hc)
   |(intro (hc:_=false); replace h:=h.2 hc)
 ·rintro ⟨⟨i,l,s⟩,m⟩ hg h1 Q h
  have hz:l.length=s.1.length:=hg
  exact ⟨fun hn=>absurd (of_decide_eq_true hn) (qfj hz h1),fun _=>h⟩
def zu1 (Γ:Gm):St->Option Tr:=ja.han Γ ja.M (FL qax xk qhv qn0 Rd.back qpt qhg)
def qge (y:ja.M.X):qdz ⊕ ja.R.X:=goL qax ((xk y).2.1.drop (xk y).1.toNat) (xk y).2.2
def zk8 (y:ja.M.X):Prop:=okL qax ((xk y).2.1.drop (xk y).1.toNat) (xk y).2.2
abbrev ww:Pt:=⟨26,0,⟨[(14,.d i64),(13,.d i64),(12,.d (.sl qb)),(1,.d (.sl qb))],[]⟩,⟨[],[]⟩,⟨[(4,.d .bool)],[]⟩⟩
def zj0 (x:ww.M.X):Fr ww.Out:=
 Fr.br (decide (x.1.1 < x.1.2.1)) (Fr.need (0<=x.1.1/\x.1.1 < ↑(List.length x.1.2.2.1)) (Fr.need (0<=x.1.1/\x.1.1 < ↑(List.length x.1.2.2.2.1)) (Fr.br (!((List.getD x.1.2.2.1 (Int.toNat x.1.1) qb.dflt).1==(List.getD x.1.2.2.2.1 (Int.toNat x.1.1) qb.dflt).1&&((List.getD x.1.2.2.1 (Int.toNat x.1.1) qb.dflt).2.1==(List.getD x.1.2.2.2.1 (Int.toNat x.1.1) qb.dflt).2.1&&((List.getD x.1.2.2.1 (Int.toNat x.1.1) qb.dflt).2.2.1==(List.getD x.1.2.2.2.1 (Int.toNat x.1.1) qb.dflt).2.2.1&&((List.getD x.1.2.2.1 (Int.toNat x.1.1) qb.dflt).2.2.2.1==(List.getD x.1.2.2.2.1 (Int.toNat x.1.1) qb.dflt).2.2.2.1&&((List.getD x.1.2.2.1 (Int.toNat x.1.1) qb.dflt).2.2.2.2.1==(List.getD x.1.2.2.2.1 (Int.toNat x.1.1) qb.dflt).2.2.2.2.1&&true)))))) (Fr.val (Rd.back ((false,()),()))) (Fr.val (Rd.next ((IntKind.i64.wrap (x.1.1+1),x.1.2.1,x.1.2.2.1,x.1.2.2.2.1,()),())))))) (Fr.val (Rd.out ((),())))
theorem zyu:qe Tryz.prog (qo Tryz.f157 0) ww.M ww zj0:=
 qe.of_run xd (bs:=0) (Λ:=qp) rfl rfl rfl (fun E=>qd _ 0) (fun x=>by kernel_rfl)
abbrev qid:Type:=qm [.d (.sl qb)] × jc []
def qdu (e:(qb.den × qb.den)) (s:qid):Fr (qid ⊕ ww.R.X):=
 Fr.br (!(e.1.1==e.2.1&&(e.1.2.1==e.2.2.1&&(e.1.2.2.1==e.2.2.2.1&&(e.1.2.2.2.1==e.2.2.2.2.1&&(e.1.2.2.2.2.1==e.2.2.2.2.2.1&&true)))))) (Fr.val (.inr ((false,()),()))) (Fr.val (.inl ((s.1.1,()),())))
def qc8 (x:ww.M.X):Int × List (qb.den × qb.den) × qid:=(x.1.1,x.1.2.2.1.zip x.1.2.2.2.1,x.1.2.2.2,x.2)
def qml (x:ww.M.X):Prop:=x.1.2.1=(x.1.2.2.1.length:Int)/\x.1.2.2.1.length=x.1.2.2.2.1.length
def quy (s:qid):ww.E.X:=((),())
def qx0:qid:=(dfP _,dfM _)
def qno:ww.R.X:=(dfP _,dfM _)
theorem zs4:qe Tryz.prog (.loop (qo Tryz.f157 0)) ww.M ww (FL qdu qc8 qml quy Rd.back qx0 qno):=by
 refine qe.list zyu qdu qc8 qml quy Rd.back qx0 qno ?_ ?_
 ·rintro ⟨⟨i,n,l,s⟩,m⟩ hg h0 h1 hb e he Q h
  obtain ⟨hg,hz⟩:n=(l.length:Int)/\l.length=s.1.length:=hg
  subst hg
  have h0:0<=i:=h0
  have h1:i < (l.length:Int):=qhq hz h1
  have hb:(l.length:Int)<=9223372036854775807:=qhp hz hb
  have h1z:i < (s.1.length:Int):=by rw [← hz]; exact h1
  have hd:l.getD i.toNat qb.dflt=e.1:=zr (qfi he)
  have hdz:s.1.getD i.toNat qb.dflt=e.2:=zr (qfk he)
  have hw:=zx h0 h1 hb
  dsimp only [qc8,qdu,zj0,Fr.satP] at h ⊢
  simp only [hd,hw,hdz] at h ⊢
  refine ⟨fun _=>?_,fun hn=>absurd h1 (of_decide_eq_false hn)⟩
  repeat' first
   |exact h
   |exact ⟨h0,h1⟩
   |exact fun _=>⟨h0,h1⟩
   |exact ⟨h0,h1z⟩
   |exact fun _=>⟨h0,h1z⟩
   |exact h _ rfl ⟨rfl,hz⟩
   |refine ⟨?_,?_⟩
   |(intro (hc:_=true); replace h:=h.1 hc)
   |(intro (hc:_=false); replace h:=h.2 hc)
 ·rintro ⟨⟨i,n,l,s⟩,m⟩ hg h1 Q h
  obtain ⟨hg,hz⟩:n=(l.length:Int)/\l.length=s.1.length:=hg
  subst hg
  exact ⟨fun hn=>absurd (of_decide_eq_true hn) (qfj hz h1),fun _=>h⟩
def ykf (Γ:Gm):St->Option Tr:=ww.han Γ ww.M (FL qdu qc8 qml quy Rd.back qx0 qno)
def qlu (y:ww.M.X):qid ⊕ ww.R.X:=goL qdu ((qc8 y).2.1.drop (qc8 y).1.toNat) (qc8 y).2.2
def zxz (y:ww.M.X):Prop:=okL qdu ((qc8 y).2.1.drop (qc8 y).1.toNat) (qc8 y).2.2
abbrev zk:Pt:=⟨32,0,⟨[(8,.d i64),(7,.d i64),(6,.d (.sl qb)),(0,.d (.sl qb)),(3,.d i64)],[]⟩,⟨[(0,.d (.sl qb))],[]⟩,⟨[(2,.d .bool)],[]⟩⟩
def qo2 (x:zk.M.X):Fr zk.Out:=
 Fr.br (decide (x.1.1 < x.1.2.1)) (Fr.need (0<=x.1.1/\x.1.1 < ↑(List.length x.1.2.2.1)) (Fr.br (bif decide ((List.getD x.1.2.2.1 (Int.toNat x.1.1) qb.dflt).1<=x.1.2.2.2.2.1) then true else !(qfy.f (((List.getD x.1.2.2.1 (Int.toNat x.1.1) qb.dflt).1,(List.getD x.1.2.2.1 (Int.toNat x.1.1) qb.dflt).2.1,(List.getD x.1.2.2.1 (Int.toNat x.1.1) qb.dflt).2.2.1,(List.getD x.1.2.2.1 (Int.toNat x.1.1) qb.dflt).2.2.2.1,(List.getD x.1.2.2.1 (Int.toNat x.1.1) qb.dflt).2.2.2.2.1,()),())).1) (Fr.val (Rd.back ((false,()),()))) (Fr.val (Rd.next ((IntKind.i64.wrap (x.1.1+1),x.1.2.1,x.1.2.2.1,x.1.2.2.2.1,(List.getD x.1.2.2.1 (Int.toNat x.1.1) qb.dflt).1,()),()))))) (Fr.val (Rd.out ((x.1.2.2.2.1,()),())))
theorem qyx:qe Tryz.prog (qo Tryz.f143 0) zk.M zk qo2:=
 qe.of_run xd (bs:=0) (Λ:=qp) rfl rfl rfl (fun E=>qd _ 0) (fun x=>by kernel_rfl)
abbrev zl:Type:=qm [.d (.sl qb),.d i64] × jc []
def vm (e:qb.den) (s:zl):Fr (zl ⊕ zk.R.X):=
 Fr.br (bif decide (e.1<=s.1.2.1) then true else !(qfy.f ((e.1,e.2.1,e.2.2.1,e.2.2.2.1,e.2.2.2.2.1,()),())).1) (Fr.val (.inr ((false,()),()))) (Fr.val (.inl ((s.1.1,e.1,()),())))
def jp (x:zk.M.X):Int × List qb.den × zl:=(x.1.1,x.1.2.2.1,x.1.2.2.2,x.2)
def qd3 (x:zk.M.X):Prop:=x.1.2.1=(x.1.2.2.1.length:Int)
def jr (s:zl):zk.E.X:=((s.1.1,()),())
def ki:zl:=(dfP _,dfM _)
def qdo:zk.R.X:=(dfP _,dfM _)
theorem qw2:qe Tryz.prog (.loop (qo Tryz.f143 0)) zk.M zk (FL vm jp qd3 jr Rd.back ki qdo):=by
 refine qe.list qyx vm jp qd3 jr Rd.back ki qdo ?_ ?_
 ·rintro ⟨⟨i,n,l,s⟩,m⟩ hg h0 h1 hb e he Q h
  have hg:n=(l.length:Int):=hg
  subst hg
  have h0:0<=i:=h0
  have h1:i < (l.length:Int):=h1
  have hb:(l.length:Int)<=9223372036854775807:=hb
  have hd:l.getD i.toNat qb.dflt=e:=zr he
  have hw:=zx h0 h1 hb
  dsimp only [jp,vm,qo2,Fr.satP] at h ⊢
  simp only [hd,hw] at h ⊢
  refine ⟨fun _=>?_,fun hn=>absurd h1 (of_decide_eq_false hn)⟩
  repeat' first
   |exact h
   |exact ⟨h0,h1⟩
   |exact fun _=>⟨h0,h1⟩
   |exact h _ rfl rfl
   |refine ⟨?_,?_⟩
   |(intro (hc:_=true); replace h:=h.1 hc)
   |(intro (hc:_=false); replace h:=h.2 hc)
 ·rintro ⟨⟨i,n,l,s⟩,m⟩ hg h1 Q h
  have hg:n=(l.length:Int):=hg
  subst hg
  exact ⟨fun hn=>absurd (of_decide_eq_true hn) h1,fun _=>h⟩
def zdl (Γ:Gm):St->Option Tr:=zk.han Γ zk.M (FL vm jp qd3 jr Rd.back ki qdo)
def kv (y:zk.M.X):zl ⊕ zk.R.X:=goL vm ((jp y).2.1.drop (jp y).1.toNat) (jp y).2.2
def qyo (y:zk.M.X):Prop:=okL vm ((jp y).2.1.drop (jp y).1.toNat) (jp y).2.2
abbrev yj:Pt:=⟨40,0,⟨[(3,.d i64),(0,.d (.sl qb))],[]⟩,⟨[],[]⟩,⟨[(2,.d .bool)],[]⟩⟩
def qtl (x:yj.M.X):Fr yj.Out:=
 Fr.br (decide (x.1.1 < ↑(List.length x.1.2.1))) (Fr.need (0<=x.1.1/\x.1.1 < ↑(List.length x.1.2.1)) (Fr.br (!(qfy.f (((List.getD x.1.2.1 (Int.toNat x.1.1) qb.dflt).1,(List.getD x.1.2.1 (Int.toNat x.1.1) qb.dflt).2.1,(List.getD x.1.2.1 (Int.toNat x.1.1) qb.dflt).2.2.1,(List.getD x.1.2.1 (Int.toNat x.1.1) qb.dflt).2.2.2.1,(List.getD x.1.2.1 (Int.toNat x.1.1) qb.dflt).2.2.2.2.1,()),())).1) (Fr.val (Rd.back ((false,()),()))) (Fr.br (decide (x.1.1 > 0)) (Fr.need (0<=x.1.1/\x.1.1 < ↑(List.length x.1.2.1)) (Fr.need (0<=IntKind.i64.wrap (x.1.1 - 1)/\IntKind.i64.wrap (x.1.1 - 1) < ↑(List.length x.1.2.1)) (Fr.br (decide ((List.getD x.1.2.1 (Int.toNat x.1.1) qb.dflt).1<=(List.getD x.1.2.1 (IntKind.i64.wrap (x.1.1 - 1)).toNat qb.dflt).1)) (Fr.val (Rd.back ((false,()),()))) (Fr.val (Rd.next ((IntKind.i64.wrap (x.1.1+1),x.1.2.1,()),())))))) (Fr.val (Rd.next ((IntKind.i64.wrap (x.1.1+1),x.1.2.1,()),())))))) (Fr.val (Rd.out ((),())))
theorem zde:qe Tryz.prog (qo Tryz.f166 0) yj.M yj qtl:=
 qe.of_run xd (bs:=0) (Λ:=qp) rfl rfl rfl (fun E=>qd _ 0) (fun x=>by kernel_rfl)
abbrev qaw:Type:=(qm [] × jc []) × Int × qb.den
def wz (e:qb.den) (s:qaw):Fr (qaw ⊕ yj.R.X):=
 Fr.br (!(qfy.f ((e.1,e.2.1,e.2.2.1,e.2.2.2.1,e.2.2.2.2.1,()),())).1) (Fr.val (.inr ((false,()),()))) (Fr.br (decide (s.2.1 > 0)) (Fr.br (decide (e.1<=s.2.2.1)) (Fr.val (.inr ((false,()),()))) (Fr.val (.inl (((),()),s.2.1+1,e)))) (Fr.val (.inl (((),()),s.2.1+1,e))))
def kd (x:yj.M.X):Int × List qb.den × qaw:=(x.1.1,x.1.2.1,(x.1.2.2,x.2),x.1.1,x.1.2.1.getD (x.1.1 - 1).toNat qb.dflt)
def qfr (x:yj.M.X):Prop:=True
def qki (s:qaw):yj.E.X:=((),())
def ql1:qaw:=((dfP _,dfM _),0,qb.dflt)
def qe7:yj.R.X:=(dfP _,dfM _)
theorem zaj:qe Tryz.prog (.loop (qo Tryz.f166 0)) yj.M yj (FL wz kd qfr qki Rd.back ql1 qe7):=by
 refine qe.list zde wz kd qfr qki Rd.back ql1 qe7 ?_ ?_
 ·rintro ⟨⟨i,l,s⟩,m⟩ hg h0 h1 hb e he Q h
  have h0:0<=i:=h0
  have h1:i < (l.length:Int):=h1
  have hb:(l.length:Int)<=9223372036854775807:=hb
  have hd:l.getD i.toNat qb.dflt=e:=zr he
  have hq1:=zew h0 h1 hb
  have hq2:=zli hd
  have hq3:∀ {b:Bool},b=decide (i > 0)->b=true->0<=i - 1/\i - 1 < (l.length:Int):=fun hb1 hb2=>zpw h1 hb1 hb2
  have hw:=zx h0 h1 hb
  dsimp only [kd,wz,qtl,Fr.satP] at h ⊢
  simp only [hd,hw,hq1] at h ⊢
  refine ⟨fun _=>?_,fun hn=>absurd h1 (of_decide_eq_false hn)⟩
  repeat' first
   |exact h
   |exact ⟨h0,h1⟩
   |exact fun _=>⟨h0,h1⟩
   |exact hq3 rfl (by assumption)
   |(refine h _ ?_ trivial; simp only [kd,hq2])
   |refine ⟨?_,?_⟩
   |(intro (hc:_=true); replace h:=h.1 hc)
   |(intro (hc:_=false); replace h:=h.2 hc)
 ·rintro ⟨⟨i,l,s⟩,m⟩ hg h1 Q h
  exact ⟨fun hn=>absurd (of_decide_eq_true hn) h1,fun _=>h⟩
def zmx (Γ:Gm):St->Option Tr:=yj.han Γ yj.M (FL wz kd qfr qki Rd.back ql1 qe7)
def qek (y:yj.M.X):qaw ⊕ yj.R.X:=goL wz ((kd y).2.1.drop (kd y).1.toNat) (kd y).2.2
def zcz (y:yj.M.X):Prop:=okL wz ((kd y).2.1.drop (kd y).1.toNat) (kd y).2.2
abbrev zz:Pt:=⟨37,0,⟨[(8,.d i64),(7,.d i64),(6,.d (.sl qw)),(0,.d (.sl qw)),(3,.d i64)],[]⟩,⟨[(0,.d (.sl qw))],[]⟩,⟨[(2,.d .bool)],[]⟩⟩
def qtm (x:zz.M.X):Fr zz.Out:=
 Fr.br (decide (x.1.1 < x.1.2.1)) (Fr.need (0<=x.1.1/\x.1.1 < ↑(List.length x.1.2.2.1)) (Fr.br (bif bif bif decide ((List.getD x.1.2.2.1 (Int.toNat x.1.1) qw.dflt).1<=x.1.2.2.2.2.1) then true else decide ((List.getD x.1.2.2.1 (Int.toNat x.1.1) qw.dflt).1 > 200) then true else decide ((List.getD x.1.2.2.1 (Int.toNat x.1.1) qw.dflt).2.1 < 0) then true else decide ((List.getD x.1.2.2.1 (Int.toNat x.1.1) qw.dflt).2.1 > 100000)) (Fr.val (Rd.back ((false,()),()))) (Fr.val (Rd.next ((IntKind.i64.wrap (x.1.1+1),x.1.2.1,x.1.2.2.1,x.1.2.2.2.1,(List.getD x.1.2.2.1 (Int.toNat x.1.1) qw.dflt).1,()),()))))) (Fr.val (Rd.out ((x.1.2.2.2.1,()),())))
theorem zdf:qe Tryz.prog (qo Tryz.f192 0) zz.M zz qtm:=
 qe.of_run xd (bs:=0) (Λ:=qp) rfl rfl rfl (fun E=>qd _ 0) (fun x=>by kernel_rfl)
abbrev yk:Type:=qm [.d (.sl qw),.d i64] × jc []
def xa (e:qw.den) (s:yk):Fr (yk ⊕ zz.R.X):=
 Fr.br (bif bif bif decide (e.1<=s.1.2.1) then true else decide (e.1 > 200) then true else decide (e.2.1 < 0) then true else decide (e.2.1 > 100000)) (Fr.val (.inr ((false,()),()))) (Fr.val (.inl ((s.1.1,e.1,()),())))
def kz (x:zz.M.X):Int × List qw.den × yk:=(x.1.1,x.1.2.2.1,x.1.2.2.2,x.2)
def qfs (x:zz.M.X):Prop:=x.1.2.1=(x.1.2.2.1.length:Int)
def qbd (s:yk):zz.E.X:=((s.1.1,()),())
def qb8:yk:=(dfP _,dfM _)
def qe8:zz.R.X:=(dfP _,dfM _)
theorem zak:qe Tryz.prog (.loop (qo Tryz.f192 0)) zz.M zz (FL xa kz qfs qbd Rd.back qb8 qe8):=by
 refine qe.list zdf xa kz qfs qbd Rd.back qb8 qe8 ?_ ?_
 ·rintro ⟨⟨i,n,l,s⟩,m⟩ hg h0 h1 hb e he Q h
  have hg:n=(l.length:Int):=hg
  subst hg
  have h0:0<=i:=h0
  have h1:i < (l.length:Int):=h1
  have hb:(l.length:Int)<=9223372036854775807:=hb
  have hd:l.getD i.toNat qw.dflt=e:=zr he
  have hw:=zx h0 h1 hb
  dsimp only [kz,xa,qtm,Fr.satP] at h ⊢
  simp only [hd,hw] at h ⊢
  refine ⟨fun _=>?_,fun hn=>absurd h1 (of_decide_eq_false hn)⟩
  repeat' first
   |exact h
   |exact ⟨h0,h1⟩
   |exact fun _=>⟨h0,h1⟩
   |exact h _ rfl rfl
   |refine ⟨?_,?_⟩
   |(intro (hc:_=true); replace h:=h.1 hc)
   |(intro (hc:_=false); replace h:=h.2 hc)
 ·rintro ⟨⟨i,n,l,s⟩,m⟩ hg h1 Q h
  have hg:n=(l.length:Int):=hg
  subst hg
  exact ⟨fun hn=>absurd (of_decide_eq_true hn) h1,fun _=>h⟩
def zmy (Γ:Gm):St->Option Tr:=zz.han Γ zz.M (FL xa kz qfs qbd Rd.back qb8 qe8)
def qbh (y:zz.M.X):yk ⊕ zz.R.X:=goL xa ((kz y).2.1.drop (kz y).1.toNat) (kz y).2.2
def zc0 (y:zz.M.X):Prop:=okL xa ((kz y).2.1.drop (kz y).1.toNat) (kz y).2.2
abbrev yr:Pt:=⟨57,0,⟨[(3,.d i64),(0,.d (.sl qw))],[]⟩,⟨[],[]⟩,⟨[(2,.d .bool)],[]⟩⟩
def qum (x:yr.M.X):Fr yr.Out:=
 Fr.br (decide (x.1.1 < ↑(List.length x.1.2.1))) (Fr.need (0<=x.1.1/\x.1.1 < ↑(List.length x.1.2.1)) (Fr.need (decide ((List.getD x.1.2.1 (Int.toNat x.1.1) qw.dflt).1 < 0)=false->0<=x.1.1/\x.1.1 < ↑(List.length x.1.2.1)) (Fr.need ((bif decide ((List.getD x.1.2.1 (Int.toNat x.1.1) qw.dflt).1 < 0) then true else decide ((List.getD x.1.2.1 (Int.toNat x.1.1) qw.dflt).1 > 200))=false->0<=x.1.1/\x.1.1 < ↑(List.length x.1.2.1)) (Fr.need ((bif bif decide ((List.getD x.1.2.1 (Int.toNat x.1.1) qw.dflt).1 < 0) then true else decide ((List.getD x.1.2.1 (Int.toNat x.1.1) qw.dflt).1 > 200) then true else decide ((List.getD x.1.2.1 (Int.toNat x.1.1) qw.dflt).2.1 < 0))=false->0<=x.1.1/\x.1.1 < ↑(List.length x.1.2.1)) (Fr.br (bif bif bif decide ((List.getD x.1.2.1 (Int.toNat x.1.1) qw.dflt).1 < 0) then true else decide ((List.getD x.1.2.1 (Int.toNat x.1.1) qw.dflt).1 > 200) then true else decide ((List.getD x.1.2.1 (Int.toNat x.1.1) qw.dflt).2.1 < 0) then true else decide ((List.getD x.1.2.1 (Int.toNat x.1.1) qw.dflt).2.1 > 100000)) (Fr.val (Rd.back ((false,()),()))) (Fr.br (decide (x.1.1 > 0)) (Fr.need (0<=x.1.1/\x.1.1 < ↑(List.length x.1.2.1)) (Fr.need (0<=IntKind.i64.wrap (x.1.1 - 1)/\IntKind.i64.wrap (x.1.1 - 1) < ↑(List.length x.1.2.1)) (Fr.br (decide ((List.getD x.1.2.1 (Int.toNat x.1.1) qw.dflt).1<=(List.getD x.1.2.1 (IntKind.i64.wrap (x.1.1 - 1)).toNat qw.dflt).1)) (Fr.val (Rd.back ((false,()),()))) (Fr.val (Rd.next ((IntKind.i64.wrap (x.1.1+1),x.1.2.1,()),())))))) (Fr.val (Rd.next ((IntKind.i64.wrap (x.1.1+1),x.1.2.1,()),()))))))))) (Fr.val (Rd.out ((),())))
theorem zfz:qe Tryz.prog (qo Tryz.f238 0) yr.M yr qum:=
 qe.of_run xd (bs:=0) (Λ:=qp) rfl rfl rfl (fun E=>qd _ 0) (fun x=>by kernel_rfl)
abbrev qbv:Type:=(qm [] × jc []) × Int × qw.den
def xy (e:qw.den) (s:qbv):Fr (qbv ⊕ yr.R.X):=
 Fr.br (bif bif bif decide (e.1 < 0) then true else decide (e.1 > 200) then true else decide (e.2.1 < 0) then true else decide (e.2.1 > 100000)) (Fr.val (.inr ((false,()),()))) (Fr.br (decide (s.2.1 > 0)) (Fr.br (decide (e.1<=s.2.2.1)) (Fr.val (.inr ((false,()),()))) (Fr.val (.inl (((),()),s.2.1+1,e)))) (Fr.val (.inl (((),()),s.2.1+1,e))))
def ky (x:yr.M.X):Int × List qw.den × qbv:=(x.1.1,x.1.2.1,(x.1.2.2,x.2),x.1.1,x.1.2.1.getD (x.1.1 - 1).toNat qw.dflt)
def qgw (x:yr.M.X):Prop:=True
def ql8 (s:qbv):yr.E.X:=((),())
def qnp:qbv:=((dfP _,dfM _),0,qw.dflt)
def qfz:yr.R.X:=(dfP _,dfM _)
theorem zcv:qe Tryz.prog (.loop (qo Tryz.f238 0)) yr.M yr (FL xy ky qgw ql8 Rd.back qnp qfz):=by
 refine qe.list zfz xy ky qgw ql8 Rd.back qnp qfz ?_ ?_
 ·rintro ⟨⟨i,l,s⟩,m⟩ hg h0 h1 hb e he Q h
  have h0:0<=i:=h0
  have h1:i < (l.length:Int):=h1
  have hb:(l.length:Int)<=9223372036854775807:=hb
  have hd:l.getD i.toNat qw.dflt=e:=zr he
  have hq1:=zew h0 h1 hb
  have hq2:=zli hd
  have hq3:∀ {b:Bool},b=decide (i > 0)->b=true->0<=i - 1/\i - 1 < (l.length:Int):=fun hb1 hb2=>zpw h1 hb1 hb2
  have hw:=zx h0 h1 hb
  dsimp only [ky,xy,qum,Fr.satP] at h ⊢
  simp only [hd,hw,hq1] at h ⊢
  refine ⟨fun _=>?_,fun hn=>absurd h1 (of_decide_eq_false hn)⟩
  repeat' first
   |exact h
   |exact ⟨h0,h1⟩
   |exact fun _=>⟨h0,h1⟩
   |exact hq3 rfl (by assumption)
   |(refine h _ ?_ trivial; simp only [ky,hq2])
   |refine ⟨?_,?_⟩
   |(intro (hc:_=true); replace h:=h.1 hc)
   |(intro (hc:_=false); replace h:=h.2 hc)
 ·rintro ⟨⟨i,l,s⟩,m⟩ hg h1 Q h
  exact ⟨fun hn=>absurd (of_decide_eq_true hn) h1,fun _=>h⟩
def zoi (Γ:Gm):St->Option Tr:=yr.han Γ yr.M (FL xy ky qgw ql8 Rd.back qnp qfz)
def qfd (y:yr.M.X):qbv ⊕ yr.R.X:=goL xy ((ky y).2.1.drop (ky y).1.toNat) (ky y).2.2
def zfv (y:yr.M.X):Prop:=okL xy ((ky y).2.1.drop (ky y).1.toNat) (ky y).2.2
abbrev ye:Pt:=⟨22,0,⟨[(3,.d i64),(0,.d jd)],[]⟩,⟨[],[]⟩,⟨[(2,.d .bool)],[]⟩⟩
def qq5 (x:ye.M.X):Fr ye.Out:=
 Fr.br (decide (x.1.1 < ↑(List.length x.1.2.1))) (Fr.need (0<=x.1.1/\x.1.1 < ↑(List.length x.1.2.1)) (Fr.need (decide (List.getD x.1.2.1 (Int.toNat x.1.1) i64.dflt < 0)=false->0<=x.1.1/\x.1.1 < ↑(List.length x.1.2.1)) (Fr.br (bif decide (List.getD x.1.2.1 (Int.toNat x.1.1) i64.dflt < 0) then true else decide (List.getD x.1.2.1 (Int.toNat x.1.1) i64.dflt > 100000)) (Fr.val (Rd.back ((false,()),()))) (Fr.val (Rd.next ((IntKind.i64.wrap (x.1.1+1),x.1.2.1,()),())))))) (Fr.val (Rd.out ((),())))
theorem za7:qe Tryz.prog (qo Tryz.f239 0) ye.M ye qq5:=
 qe.of_run xd (bs:=0) (Λ:=qp) rfl rfl rfl (fun E=>qd _ 0) (fun x=>by kernel_rfl)
abbrev qcu:Type:=qm [] × jc []
def zm (e:i64.den) (s:qcu):Fr (qcu ⊕ ye.R.X):=
 Fr.br (bif decide (e < 0) then true else decide (e > 100000)) (Fr.val (.inr ((false,()),()))) (Fr.val (.inl ((),())))
def kg (x:ye.M.X):Int × List i64.den × qcu:=(x.1.1,x.1.2.1,x.1.2.2,x.2)
def qe0 (x:ye.M.X):Prop:=True
def qjj (s:qcu):ye.E.X:=((),())
def qj5:qcu:=(dfP _,dfM _)
def qcs:ye.R.X:=(dfP _,dfM _)
theorem qyj:qe Tryz.prog (.loop (qo Tryz.f239 0)) ye.M ye (FL zm kg qe0 qjj Rd.back qj5 qcs):=by
 refine qe.list za7 zm kg qe0 qjj Rd.back qj5 qcs ?_ ?_
 ·rintro ⟨⟨i,l,s⟩,m⟩ hg h0 h1 hb e he Q h
  have h0:0<=i:=h0
  have h1:i < (l.length:Int):=h1
  have hb:(l.length:Int)<=9223372036854775807:=hb
  have hd:l.getD i.toNat i64.dflt=e:=zr he
  have hw:=zx h0 h1 hb
  dsimp only [kg,zm,qq5,Fr.satP] at h ⊢
  simp only [hd,hw] at h ⊢
  refine ⟨fun _=>?_,fun hn=>absurd h1 (of_decide_eq_false hn)⟩
  repeat' first
   |exact h
   |exact ⟨h0,h1⟩
   |exact fun _=>⟨h0,h1⟩
   |exact h _ rfl trivial
   |refine ⟨?_,?_⟩
   |(intro (hc:_=true); replace h:=h.1 hc)
   |(intro (hc:_=false); replace h:=h.2 hc)
 ·rintro ⟨⟨i,l,s⟩,m⟩ hg h1 Q h
  exact ⟨fun hn=>absurd (of_decide_eq_true hn) h1,fun _=>h⟩
def zf2 (Γ:Gm):St->Option Tr:=ye.han Γ ye.M (FL zm kg qe0 qjj Rd.back qj5 qcs)
def qpd (y:ye.M.X):qcu ⊕ ye.R.X:=goL zm ((kg y).2.1.drop (kg y).1.toNat) (kg y).2.2
def zaq (y:ye.M.X):Prop:=okL zm ((kg y).2.1.drop (kg y).1.toNat) (kg y).2.2
def qw7 (x:qm [.d (.sl qb),.d (.sl qb)]):Fr (qi [.bool]):=
 Fr.br (((List.length x.1):Int) != ((List.length x.2.1):Int)) (Fr.val (false,())) (Fr.need (InL (qhv ((0,x.1,x.2.1,()),())) (xk ((0,x.1,x.2.1,()),()))) (Fr.need (zk8 ((0,x.1,x.2.1,()),())) (Fr.br (isL (qge ((0,x.1,x.2.1,()),()))) (Fr.val (true,())) (Fr.val ((jg qhg (qge ((0,x.1,x.2.1,()),()))).1.1,())))))
theorem zck:qa Tryz.prog 103 ⟨[.d (.sl qb),.d (.sl qb)],[.bool],fun xs=>(qw7 xs).get,fun xs=>[(qw7 xs).ok]⟩:=
 qg xd (Λ:=(fun _=>zu1 CH4.Γ)) (fn:=Tryz.f103) (dfP [.d (.sl qb),.d (.sl qb)]) (by kernel_rfl) (fun c E hc=>yz hc (by kernel_rfl) (b:=qo Tryz.f103 0) (by kernel_rfl) (qe.han xd rfl zft)) (fun x=>by kernel_rfl)
def zja (x:qm [.d (.sl qb),.d (.sl qb)]):Fr (qi [.bool]):=
 Fr.br (((List.length x.1):Int) != ((List.length x.2.1):Int)) (Fr.val (false,())) (Fr.need (InL (qml ((0,((List.length x.1):Int),x.1,x.2.1,()),())) (qc8 ((0,((List.length x.1):Int),x.1,x.2.1,()),()))) (Fr.need (zxz ((0,((List.length x.1):Int),x.1,x.2.1,()),())) (Fr.br (isL (qlu ((0,((List.length x.1):Int),x.1,x.2.1,()),()))) (Fr.val (true,())) (Fr.val ((jg qno (qlu ((0,((List.length x.1):Int),x.1,x.2.1,()),()))).1.1,())))))
theorem zm8:qa Tryz.prog 157 ⟨[.d (.sl qb),.d (.sl qb)],[.bool],fun xs=>(zja xs).get,fun xs=>[(zja xs).ok]⟩:=
 qg xd (Λ:=(fun _=>ykf CH4.Γ)) (fn:=Tryz.f157) (dfP [.d (.sl qb),.d (.sl qb)]) (by kernel_rfl) (fun c E hc=>yz hc (by kernel_rfl) (b:=qo Tryz.f157 0) (by kernel_rfl) (qe.han xd rfl zs4)) (fun x=>by kernel_rfl)
def qoy (x:qm [.d (.sl qb)]):Fr (qi [.bool]):=
 Fr.need (InL (qd3 ((0,((List.length x.1):Int),x.1,x.1,-1,()),())) (jp ((0,((List.length x.1):Int),x.1,x.1,-1,()),()))) (Fr.need (qyo ((0,((List.length x.1):Int),x.1,x.1,-1,()),())) (Fr.br (isL (kv ((0,((List.length x.1):Int),x.1,x.1,-1,()),()))) (Fr.val (bif decide (((List.length (jr (qak ki (kv ((0,((List.length x.1):Int),x.1,x.1,-1,()),())))).1.1):Int) ≥ 1) then decide (((List.length (jr (qak ki (kv ((0,((List.length x.1):Int),x.1,x.1,-1,()),())))).1.1):Int)<=8) else false,())) (Fr.val ((jg qdo (kv ((0,((List.length x.1):Int),x.1,x.1,-1,()),()))).1.1,()))))
theorem qui:qa Tryz.prog 143 ⟨[.d (.sl qb)],[.bool],fun xs=>(qoy xs).get,fun xs=>[(qoy xs).ok]⟩:=
 qg xd (Λ:=(fun _=>zdl CH4.Γ)) (fn:=Tryz.f143) (dfP [.d (.sl qb)]) (by kernel_rfl) (fun c E hc=>yz hc (by kernel_rfl) (b:=qo Tryz.f143 0) (by kernel_rfl) (qe.han xd rfl qw2)) (fun x=>by kernel_rfl)
def qti (x:qm [.d (.sl qb)]):Fr (qi [.bool]):=
 Fr.br (bif decide (((List.length x.1):Int) < 1) then true else decide (((List.length x.1):Int) > 8)) (Fr.val (false,())) (Fr.need (InL (qfr ((0,x.1,()),())) (kd ((0,x.1,()),()))) (Fr.need (zcz ((0,x.1,()),())) (Fr.br (isL (qek ((0,x.1,()),()))) (Fr.val (true,())) (Fr.val ((jg qe7 (qek ((0,x.1,()),()))).1.1,())))))
theorem qx7:qa Tryz.prog 166 ⟨[.d (.sl qb)],[.bool],fun xs=>(qti xs).get,fun xs=>[(qti xs).ok]⟩:=
 qg xd (Λ:=(fun _=>zmx CH4.Γ)) (fn:=Tryz.f166) (dfP [.d (.sl qb)]) (by kernel_rfl) (fun c E hc=>yz hc (by kernel_rfl) (b:=qo Tryz.f166 0) (by kernel_rfl) (qe.han xd rfl zaj)) (fun x=>by kernel_rfl)
def qtj (x:qm [.d (.sl qw)]):Fr (qi [.bool]):=
 Fr.need (InL (qfs ((0,((List.length x.1):Int),x.1,x.1,-1,()),())) (kz ((0,((List.length x.1):Int),x.1,x.1,-1,()),()))) (Fr.need (zc0 ((0,((List.length x.1):Int),x.1,x.1,-1,()),())) (Fr.br (isL (qbh ((0,((List.length x.1):Int),x.1,x.1,-1,()),()))) (Fr.val (decide (((List.length (qbd (qak qb8 (qbh ((0,((List.length x.1):Int),x.1,x.1,-1,()),())))).1.1):Int)<=100),())) (Fr.val ((jg qe8 (qbh ((0,((List.length x.1):Int),x.1,x.1,-1,()),()))).1.1,()))))
theorem qx8:qa Tryz.prog 192 ⟨[.d (.sl qw)],[.bool],fun xs=>(qtj xs).get,fun xs=>[(qtj xs).ok]⟩:=
 qg xd (Λ:=(fun _=>zmy CH4.Γ)) (fn:=Tryz.f192) (dfP [.d (.sl qw)]) (by kernel_rfl) (fun c E hc=>yz hc (by kernel_rfl) (b:=qo Tryz.f192 0) (by kernel_rfl) (qe.han xd rfl zak)) (fun x=>by kernel_rfl)
def qud (x:qm [.d (.sl qw)]):Fr (qi [.bool]):=
 Fr.br (decide (((List.length x.1):Int) > 100)) (Fr.val (false,())) (Fr.need (InL (qgw ((0,x.1,()),())) (ky ((0,x.1,()),()))) (Fr.need (zfv ((0,x.1,()),())) (Fr.br (isL (qfd ((0,x.1,()),()))) (Fr.val (true,())) (Fr.val ((jg qfz (qfd ((0,x.1,()),()))).1.1,())))))
theorem qzl:qa Tryz.prog 238 ⟨[.d (.sl qw)],[.bool],fun xs=>(qud xs).get,fun xs=>[(qud xs).ok]⟩:=
 qg xd (Λ:=(fun _=>zoi CH4.Γ)) (fn:=Tryz.f238) (dfP [.d (.sl qw)]) (by kernel_rfl) (fun c E hc=>yz hc (by kernel_rfl) (b:=qo Tryz.f238 0) (by kernel_rfl) (qe.han xd rfl zcv)) (fun x=>by kernel_rfl)
def qq3 (x:qm [.d jd]):Fr (qi [.bool]):=
 Fr.need (InL (qe0 ((0,x.1,()),())) (kg ((0,x.1,()),()))) (Fr.need (zaq ((0,x.1,()),())) (Fr.br (isL (qpd ((0,x.1,()),()))) (Fr.val (true,())) (Fr.val ((jg qcs (qpd ((0,x.1,()),()))).1.1,()))))
theorem qw0:qa Tryz.prog 239 ⟨[.d jd],[.bool],fun xs=>(qq3 xs).get,fun xs=>[(qq3 xs).ok]⟩:=
 qg xd (Λ:=(fun _=>zf2 CH4.Γ)) (fn:=Tryz.f239) (dfP [.d jd]) (by kernel_rfl) (fun c E hc=>yz hc (by kernel_rfl) (b:=qo Tryz.f239 0) (by kernel_rfl) (qe.han xd rfl qyj)) (fun x=>by kernel_rfl)
theorem qm8 {T:Type} {l:List T} (h:l.length<=maxLen):(l.length:Int)<=9223372036854775807:=by
 simp only [maxLen] at h
 omega
theorem qcg {w:World} {F:Nat->Prop} {t:Ty} {l:List t.den} {v:Value} (h:zz8 Tryz.prog w F (.d (.sl t)) l v):(l.length:Int)<=9223372036854775807:=qm8 (qs.wf (t:=.sl t) h.2.2).1
def wv (l:List Int):Bool:=l.all fun n=>decide (0<=n/\n<=100000)
def qh4:Ct:=⟨[.d jd],[.bool],fun x=>(wv x.1,()),fun _=>[]⟩
theorem qzi (l:List Int):isL (goL zm l ((),()))=wv l:=by
 induction l with
 |nil=>rfl
 |cons e r ih=>
  have e1:wv (e :: r)=(decide (0<=e/\e<=100000)&&wv r):=rfl
  rw [e1,← ih]
  by_cases h:(bif decide (e < 0) then true else decide (e > 100000))=true
  ·have hg:(zm e ((),())).get = .inr ((false,()),()):=if_pos h
   simp only [goL,hg]
   have:decide (0<=e/\e<=100000)=false:=by
    simp only [Bool.cond_true_left,Bool.or_eq_true,decide_eq_true_eq] at h
    exact decide_eq_false (by omega)
   rw [this]
   rfl
  ·have hg:(zm e ((),())).get = .inl ((),()):=if_neg h
   simp only [goL,hg]
   have:decide (0<=e/\e<=100000)=true:=by
    simp only [Bool.cond_true_left,Bool.or_eq_true,decide_eq_true_eq,not_or] at h
    exact decide_eq_true (by omega)
   rw [this,Bool.true_and]
theorem zrz:qa Tryz.prog 239 qh4:=
 conv qw0 _ _ (fun w F x vs hr _=>by
  obtain ⟨l,_⟩:=x
  obtain ⟨v,vs',rfl,hv,_⟩:=hr
  have hlen:=qcg hv
  refine ⟨⟨⟨trivial,Int.le_refl _,Int.natCast_nonneg _,hlen⟩,qe9 (step:=zm) (fun e s=>⟨fun _=>trivial,fun _=>trivial⟩) _ _,fun _=>trivial,fun _=>trivial⟩,?_⟩
  show (if isL (goL zm l ((),()))=true then ((true,()):Bool × Unit) else ((jg qcs (goL zm l ((),()))).1.1,()))=(wv l,())
  by_cases h:isL (goL zm l ((),()))=true
  ·rw [if_pos h,← qzi,h]
  ·have h':isL (goL zm l ((),()))=false:=by simpa using h
   have hc:=zej (d:=qcs) (c:=((false,()),())) (step:=zm) (fun e s y hy=>by
    by_cases hb:(bif decide (e < 0) then true else decide (e > 100000))=true
    ·have hg:(zm e s).get = .inr ((false,()),()):=if_pos hb
     rw [hg] at hy
     exact (Sum.inr.inj hy).symm
    ·have hg:(zm e s).get = .inl ((),()):=if_neg hb
     rw [hg] at hy
     cases hy) l ((),()) h'
   rw [if_neg h,hc,← qzi,h'])
def qne {T σ:Type} (p:T->σ->Bool) (f:T->σ->σ):List T->σ->Bool
 |[],_=>true
 |e :: r,s=>p e s&&qne p f r (f e s)
def ql5 {T σ:Type} (f:T->σ->σ):List T->σ->σ
 |[],s=>s
 |e :: r,s=>ql5 f r (f e s)
theorem qco {T σ ρ:Type} {step:T->σ->Fr (σ ⊕ ρ)} {p:T->σ->Bool} {f:T->σ->σ} {c:ρ} (h:∀ e s,(step e s).get=if p e s=true then .inl (f e s) else .inr c) :
  (l:List T)->(s:σ)->goL step l s=if qne p f l s=true then .inl (ql5 f l s) else .inr c
 |[],s=>rfl
 |e :: r,s=>by
  simp only [goL,qne,ql5]
  by_cases hp:p e s=true
  ·have hg:=h e s
   rw [if_pos hp] at hg
   simp only [hg,hp,Bool.true_and]
   exact qco h r (f e s)
  ·have hg:=h e s
   rw [if_neg hp] at hg
   have hp':p e s=false:=by simpa using hp
   simp only [hg,hp',Bool.false_and]
   rfl
def wb (c:qb.den):Bool:=qhf c.1 c.2.1 c.2.2.1 c.2.2.2.1 c.2.2.2.2.1
def qrn:List qb.den->Int->Bool
 |[],_=>true
 |c :: r,last=>(decide (last < c.1)&&wb c)&&qrn r c.1
def qb5 (l:List qb.den):Bool:=decide (1<=l.length/\l.length<=8)&&qrn l (-1)
def qgn:Ct:=⟨[.d (.sl qb)],[.bool],fun x=>(qb5 x.1,()),fun _=>[]⟩
theorem yj7 (e:qb.den) (s:zl):(vm e s).get=if (decide (s.1.2.1 < e.1)&&wb e)=true then .inl ((s.1.1,e.1,()),()) else .inr ((false,()),()):=by
 show (if (bif decide (e.1<=s.1.2.1) then true else !(wb e))=true then _ else _)=_
 have hb:(bif decide (e.1<=s.1.2.1) then true else !(wb e)) = !(decide (s.1.2.1 < e.1)&&wb e):=by
  have:decide (e.1<=s.1.2.1) = !decide (s.1.2.1 < e.1):=by
   rw [Bool.eq_iff_iff]
   simp only [Bool.not_eq_true',decide_eq_true_eq,decide_eq_false_iff_not]
   exact Int.not_lt.symm
  rw [this]
  cases decide (s.1.2.1 < e.1)<;>cases wb e<;>rfl
 rw [hb]
 cases (decide (s.1.2.1 < e.1)&&wb e)<;>rfl
theorem yon (l l0:List qb.den) (last:Int):qne (fun (e:qb.den) (s:zl)=>decide (s.1.2.1 < e.1)&&wb e) (fun e s=>((s.1.1,e.1,()),())) l ((l0,last,()),())=qrn l last:=by
 induction l generalizing last with
 |nil=>rfl
 |cons c r ih=>
  show ((decide (last < c.1)&&wb c)&&_)=((decide (last < c.1)&&wb c)&&_)
  rw [ih]
theorem yoo (l l0:List qb.den) (last:Int):(ql5 (fun (e:qb.den) (s:zl)=>(((s.1.1,e.1,()),()):zl)) l ((l0,last,()),())).1.1=l0:=by
 induction l generalizing last with
 |nil=>rfl
 |cons c r ih=>exact ih c.1
theorem ypy (n:Nat):(bif decide ((n:Int) ≥ 1) then decide ((n:Int)<=8) else false)=decide (1<=n/\n<=8):=by
 rw [Bool.eq_iff_iff]
 simp only [Bool.cond_false_right,Bool.and_eq_true,decide_eq_true_eq]
 omega
theorem yne (n:Nat):(bif decide ((n:Int) < 1) then true else decide ((n:Int) > 8)) = !decide (1<=n/\n<=8):=by
 rw [Bool.eq_iff_iff]
 simp only [Bool.cond_true_left,Bool.or_eq_true,Bool.not_eq_true',decide_eq_true_eq,decide_eq_false_iff_not]
 omega
theorem qpk:qa Tryz.prog 143 qgn:=
 conv qui _ _ (fun w F x vs hr _=>by
  obtain ⟨l,_⟩:=x
  obtain ⟨v,vs',rfl,hv,_⟩:=hr
  have hlen:=qcg hv
  refine ⟨⟨⟨rfl,Int.le_refl _,Int.natCast_nonneg _,hlen⟩,qe9 (step:=vm) (fun e s=>⟨fun _=>trivial,fun _=>trivial⟩) _ _,fun _=>trivial,fun _=>trivial⟩,?_⟩
  have hres:=qco yj7 l ((l,-1,()),())
  rw [yon] at hres
  have hres':kv ((0,(l.length:Int),l,l,-1,()),())=if qrn l (-1)=true then .inl _ else .inr _:=hres
  show (if isL (kv ((0,(l.length:Int),l,l,-1,()),()))=true then ((bif decide (((jr (qak ki (kv ((0,(l.length:Int),l,l,-1,()),())))).1.1.length:Int) ≥ 1) then decide (((jr (qak ki (kv ((0,(l.length:Int),l,l,-1,()),())))).1.1.length:Int)<=8) else false,()):Bool × Unit) else ((jg qdo (kv ((0,(l.length:Int),l,l,-1,()),()))).1.1,()))=(qb5 l,())
  rw [hres']
  unfold qb5
  cases qrn l (-1) with
  |true=>
   have he:(jr (qak ki (Sum.inl (ql5 (fun (e:qb.den) (s:zl)=>(((s.1.1,e.1,()),()):zl)) l ((l,-1,()),())):zl ⊕ zk.R.X))).1.1=l:=yoo l l (-1)
   show ((bif decide (((jr (qak ki (Sum.inl (ql5 (fun (e:qb.den) (s:zl)=>(((s.1.1,e.1,()),()):zl)) l ((l,-1,()),())):zl ⊕ zk.R.X))).1.1.length:Int) ≥ 1) then decide (((jr (qak ki (Sum.inl (ql5 (fun (e:qb.den) (s:zl)=>(((s.1.1,e.1,()),()):zl)) l ((l,-1,()),())):zl ⊕ zk.R.X))).1.1.length:Int)<=8) else false,()):Bool × Unit)=_
   rw [he]
   exact congrArg (·,()) ((ypy l.length).trans (Bool.and_true _).symm)
  |false=>
   rw [Bool.and_false]
   rfl)
def zga:List qb.den->Int->qb.den->Bool
 |[],_,_=>true
 |c :: r,i,p=>(wb c&&(!decide (i > 0) || decide (p.1 < c.1)))&&zga r (i+1) c
theorem zm5 {c:qb.den} (h:wb c=true) : -1 < c.1:=by
 unfold wb qhf at h
 have h':=(of_decide_eq_true h).1
 exact Int.lt_of_lt_of_le (by decide) h'
theorem yae (l:List qb.den) (i:Int) (p:qb.den) (hi:0<=i):zga l i p=qrn l (if i > 0 then p.1 else -1):=by
 induction l generalizing i p with
 |nil=>rfl
 |cons c r ih=>
  simp only [zga,qrn]
  rw [ih (i+1) c (by omega),if_pos (by omega)]
  congr 1
  by_cases h:i > 0
  ·rw [if_pos h,decide_eq_true h,Bool.and_comm]
   rfl
  ·rw [if_neg h,decide_eq_false h]
   cases hc:wb c with
   |true=>
    rw [decide_eq_true (zm5 hc)]
    rfl
   |false=>rw [Bool.and_false]; rfl
theorem yjj (e:qb.den) (s:qaw):(wz e s).get=if (wb e&&(!decide (s.2.1 > 0) || decide (s.2.2.1 < e.1)))=true then .inl (((),()),s.2.1+1,e) else .inr ((false,()),()):=by
 show (if (!(wb e))=true then _ else if decide (s.2.1 > 0)=true then (if decide (e.1<=s.2.2.1)=true then _ else _) else _)=_
 have:decide (e.1<=s.2.2.1) = !decide (s.2.2.1 < e.1):=by
  rw [Bool.eq_iff_iff]
  simp only [Bool.not_eq_true',decide_eq_true_eq,decide_eq_false_iff_not]
  exact Int.not_lt.symm
 rw [this]
 cases wb e<;>cases decide (s.2.1 > 0)<;>cases decide (s.2.2.1 < e.1)<;>rfl
theorem yn6 (l:List qb.den) (u:Unit × Unit) (i:Int) (p:qb.den):qne (fun (e:qb.den) (s:qaw)=>wb e&&(!decide (s.2.1 > 0) || decide (s.2.2.1 < e.1))) (fun e s=>(((),()),s.2.1+1,e)) l (u,i,p)=zga l i p:=by
 induction l generalizing u i p with
 |nil=>rfl
 |cons c r ih=>
  show ((wb c&&(!decide (i > 0) || decide (p.1 < c.1)))&&_)=((wb c&&(!decide (i > 0) || decide (p.1 < c.1)))&&_)
  rw [ih]
theorem zfy:qa Tryz.prog 166 qgn:=
 conv qx7 _ _ (fun w F x vs hr _=>by
  obtain ⟨l,_⟩:=x
  obtain ⟨v,vs',rfl,hv,_⟩:=hr
  have hlen:=qcg hv
  refine ⟨⟨fun _=>trivial,fun _=>⟨⟨trivial,Int.le_refl _,Int.natCast_nonneg _,hlen⟩,qe9 (step:=wz) (fun e s=>⟨fun _=>trivial,fun _=>⟨fun _=>⟨fun _=>trivial,fun _=>trivial⟩,fun _=>trivial⟩⟩) _ _,fun _=>trivial,fun _=>trivial⟩⟩,?_⟩
  have hres:=qco yjj l (((),()),0,l.getD (0 - 1:Int).toNat qb.dflt)
  have hz:(if (0:Int) > 0 then (l.getD (0 - 1:Int).toNat qb.dflt).1 else -1) = -1:=if_neg (by decide)
  rw [yn6,yae _ _ _ (Int.le_refl _),hz] at hres
  have hres':qek ((0,l,()),())=if qrn l (-1)=true then .inl _ else .inr _:=hres
  show (if (bif decide ((l.length:Int) < 1) then true else decide ((l.length:Int) > 8))=true then ((false,()):Bool × Unit) else if isL (qek ((0,l,()),()))=true then (true,()) else ((jg qe7 (qek ((0,l,()),()))).1.1,()))=(qb5 l,())
  rw [hres']
  unfold qb5
  rw [yne]
  cases decide (1<=l.length/\l.length<=8)<;>cases qrn l (-1)<;>rfl)
def qdm (u b:Int):Bool:=decide (u<=200/\0<=b/\b<=100000)
def qrm:List qw.den->Int->Bool
 |[],_=>true
 |c :: r,last=>(decide (last < c.1)&&qdm c.1 c.2.1)&&qrm r c.1
def qnf (l:List qw.den):Bool:=decide (l.length<=100)&&qrm l (-1)
def qql:Ct:=⟨[.d (.sl qw)],[.bool],fun x=>(qnf x.1,()),fun _=>[]⟩
theorem yg2 (u b last:Int):(bif bif bif decide (u<=last) then true else decide (u > 200) then true else decide (b < 0) then true else decide (b > 100000)) = !(decide (last < u)&&qdm u b):=by
 rw [Bool.eq_iff_iff]
 simp only [qdm,Bool.cond_true_left,Bool.or_eq_true,Bool.not_eq_true',Bool.and_eq_false_iff,decide_eq_true_eq,decide_eq_false_iff_not]
 omega
theorem yg4 (u b:Int):(bif bif bif decide (u < 0) then true else decide (u > 200) then true else decide (b < 0) then true else decide (b > 100000)) = !(decide (-1 < u)&&qdm u b):=by
 rw [Bool.eq_iff_iff]
 simp only [qdm,Bool.cond_true_left,Bool.or_eq_true,Bool.not_eq_true',Bool.and_eq_false_iff,decide_eq_true_eq,decide_eq_false_iff_not]
 omega
theorem yji (e:qw.den) (s:yk):(xa e s).get=if (decide (s.1.2.1 < e.1)&&qdm e.1 e.2.1)=true then .inl ((s.1.1,e.1,()),()) else .inr ((false,()),()):=by
 show (if (bif bif bif decide (e.1<=s.1.2.1) then true else decide (e.1 > 200) then true else decide (e.2.1 < 0) then true else decide (e.2.1 > 100000))=true then _ else _)=_
 have hb:=yg2 e.1 e.2.1 s.1.2.1
 rw [hb]
 cases (decide (s.1.2.1 < e.1)&&qdm e.1 e.2.1)<;>rfl
theorem yn4 (l l0:List qw.den) (last:Int):qne (fun (e:qw.den) (s:yk)=>decide (s.1.2.1 < e.1)&&qdm e.1 e.2.1) (fun e s=>((s.1.1,e.1,()),())) l ((l0,last,()),())=qrm l last:=by
 induction l generalizing last with
 |nil=>rfl
 |cons c r ih=>
  show ((decide (last < c.1)&&qdm c.1 c.2.1)&&_)=((decide (last < c.1)&&qdm c.1 c.2.1)&&_)
  rw [ih]
theorem yn5 (l l0:List qw.den) (last:Int):(ql5 (fun (e:qw.den) (s:yk)=>(((s.1.1,e.1,()),()):yk)) l ((l0,last,()),())).1.1=l0:=by
 induction l generalizing last with
 |nil=>rfl
 |cons c r ih=>exact ih c.1
theorem ypz (n:Nat):decide ((n:Int)<=100)=decide (n<=100):=by
 rw [Bool.eq_iff_iff]
 simp only [decide_eq_true_eq]
 omega
theorem ynf (n:Nat):decide ((n:Int) > 100) = !decide (n<=100):=by
 rw [Bool.eq_iff_iff]
 simp only [Bool.not_eq_true',decide_eq_true_eq,decide_eq_false_iff_not]
 omega
theorem zhu:qa Tryz.prog 192 qql:=
 conv qx8 _ _ (fun w F x vs hr _=>by
  obtain ⟨l,_⟩:=x
  obtain ⟨v,vs',rfl,hv,_⟩:=hr
  have hlen:=qcg hv
  refine ⟨⟨⟨rfl,Int.le_refl _,Int.natCast_nonneg _,hlen⟩,qe9 (step:=xa) (fun e s=>⟨fun _=>trivial,fun _=>trivial⟩) _ _,fun _=>trivial,fun _=>trivial⟩,?_⟩
  have hres:=qco yji l ((l,-1,()),())
  rw [yn4] at hres
  have hres':qbh ((0,(l.length:Int),l,l,-1,()),())=if qrm l (-1)=true then .inl _ else .inr _:=hres
  show (if isL (qbh ((0,(l.length:Int),l,l,-1,()),()))=true then ((decide (((qbd (qak qb8 (qbh ((0,(l.length:Int),l,l,-1,()),())))).1.1.length:Int)<=100),()):Bool × Unit) else ((jg qe8 (qbh ((0,(l.length:Int),l,l,-1,()),()))).1.1,()))=(qnf l,())
  rw [hres']
  unfold qnf
  cases qrm l (-1) with
  |true=>
   have he:(qbd (qak qb8 (Sum.inl (ql5 (fun (e:qw.den) (s:yk)=>(((s.1.1,e.1,()),()):yk)) l ((l,-1,()),())):yk ⊕ zz.R.X))).1.1=l:=yn5 l l (-1)
   show ((decide (((qbd (qak qb8 (Sum.inl (ql5 (fun (e:qw.den) (s:yk)=>(((s.1.1,e.1,()),()):yk)) l ((l,-1,()),())):yk ⊕ zz.R.X))).1.1.length:Int)<=100),()):Bool × Unit)=_
   rw [he]
   exact congrArg (·,()) ((ypz l.length).trans (Bool.and_true _).symm)
  |false=>
   rw [Bool.and_false]
   rfl)
def zf9:List qw.den->Int->qw.den->Bool
 |[],_,_=>true
 |c :: r,i,p=>((decide (-1 < c.1)&&qdm c.1 c.2.1)&&(!decide (i > 0) || decide (p.1 < c.1)))&&zf9 r (i+1) c
theorem yad (l:List qw.den) (i:Int) (p:qw.den) (hi:0<=i) (hp:i > 0 -> -1 < p.1):zf9 l i p=qrm l (if i > 0 then p.1 else -1):=by
 induction l generalizing i p with
 |nil=>rfl
 |cons c r ih=>
  simp only [zf9,qrm]
  by_cases hc : -1 < c.1
  ·rw [ih (i+1) c (by omega) (fun _=>hc),if_pos (by omega)]
   congr 1
   rw [decide_eq_true hc,Bool.true_and]
   by_cases h:i > 0
   ·rw [if_pos h,decide_eq_true h,Bool.and_comm]
    rfl
   ·rw [if_neg h,decide_eq_false h,decide_eq_true hc]
    cases qdm c.1 c.2.1<;>rfl
  ·have h1:decide (-1 < c.1)=false:=decide_eq_false hc
   have h2:decide ((if i > 0 then p.1 else -1) < c.1)=false:=by
    refine decide_eq_false fun h=>hc ?_
    by_cases h':i > 0
    ·rw [if_pos h'] at h
     exact Int.lt_trans (hp h') h
    ·rw [if_neg h'] at h
     exact h
   rw [h1,h2]
   rfl
theorem yc7 (e:qw.den) (s:qbv):(xy e s).get=if ((decide (-1 < e.1)&&qdm e.1 e.2.1)&&(!decide (s.2.1 > 0) || decide (s.2.2.1 < e.1)))=true then .inl (((),()),s.2.1+1,e) else .inr ((false,()),()):=by
 show (if (bif bif bif decide (e.1 < 0) then true else decide (e.1 > 200) then true else decide (e.2.1 < 0) then true else decide (e.2.1 > 100000))=true then _ else if decide (s.2.1 > 0)=true then (if decide (e.1<=s.2.2.1)=true then _ else _) else _)=_
 have:decide (e.1<=s.2.2.1) = !decide (s.2.2.1 < e.1):=by
  rw [Bool.eq_iff_iff]
  simp only [Bool.not_eq_true',decide_eq_true_eq,decide_eq_false_iff_not]
  exact Int.not_lt.symm
 have hb:=yg4 e.1 e.2.1
 rw [this,hb]
 cases (decide (-1 < e.1)&&qdm e.1 e.2.1)<;>cases decide (s.2.1 > 0)<;>cases decide (s.2.2.1 < e.1)<;>rfl
theorem yjh (l:List qw.den) (u:Unit × Unit) (i:Int) (p:qw.den):qne (fun (e:qw.den) (s:qbv)=>(decide (-1 < e.1)&&qdm e.1 e.2.1)&&(!decide (s.2.1 > 0) || decide (s.2.2.1 < e.1))) (fun e s=>(((),()),s.2.1+1,e)) l (u,i,p)=zf9 l i p:=by
 induction l generalizing u i p with
 |nil=>rfl
 |cons c r ih=>
  show (((decide (-1 < c.1)&&qdm c.1 c.2.1)&&(!decide (i > 0) || decide (p.1 < c.1)))&&_)=(((decide (-1 < c.1)&&qdm c.1 c.2.1)&&(!decide (i > 0) || decide (p.1 < c.1)))&&_)
  rw [ih]
theorem zlm:qa Tryz.prog 238 qql:=
 conv qzl _ _ (fun w F x vs hr _=>by
  obtain ⟨l,_⟩:=x
  obtain ⟨v,vs',rfl,hv,_⟩:=hr
  have hlen:=qcg hv
  refine ⟨⟨fun _=>trivial,fun _=>⟨⟨trivial,Int.le_refl _,Int.natCast_nonneg _,hlen⟩,qe9 (step:=xy) (fun e s=>⟨fun _=>trivial,fun _=>⟨fun _=>⟨fun _=>trivial,fun _=>trivial⟩,fun _=>trivial⟩⟩) _ _,fun _=>trivial,fun _=>trivial⟩⟩,?_⟩
  have hres:=qco yc7 l (((),()),0,l.getD (0 - 1:Int).toNat qw.dflt)
  have hz:(if (0:Int) > 0 then (l.getD (0 - 1:Int).toNat qw.dflt).1 else -1) = -1:=if_neg (by decide)
  rw [yjh,yad _ _ _ (Int.le_refl _) (fun h=>absurd h (by decide)),hz] at hres
  have hres':qfd ((0,l,()),())=if qrm l (-1)=true then .inl _ else .inr _:=hres
  show (if decide ((l.length:Int) > 100)=true then ((false,()):Bool × Unit) else if isL (qfd ((0,l,()),()))=true then (true,()) else ((jg qfz (qfd ((0,l,()),()))).1.1,()))=(qnf l,())
  rw [hres']
  unfold qnf
  rw [ynf]
  cases decide (l.length<=100)<;>cases qrm l (-1)<;>rfl)
def qcr (a b:qb.den):Bool:=(a.1==b.1&&(a.2.1==b.2.1&&(a.2.2.1==b.2.2.1&&(a.2.2.2.1==b.2.2.2.1&&(a.2.2.2.2.1==b.2.2.2.2.1&&true)))))
theorem zm4 {a b:qb.den}:qcr a b=true↔a=b:=by
 obtain ⟨a1,a2,a3,a4,a5,_⟩:=a
 obtain ⟨b1,b2,b3,b4,b5,_⟩:=b
 simp only [qcr,Bool.and_eq_true,beq_iff_eq,Prod.mk.injEq,and_true]
def qal:List qb.den->List qb.den->Bool
 |[],[]=>true
 |a :: l,b :: m=>qcr a b&&qal l m
 |_,_=>false
theorem qvf:{l m:List qb.den}->(qal l m=true↔l=m)
 |[],[]=>by simp [qal]
 |[],b :: m=>by simp [qal]
 |a :: l,[]=>by simp [qal]
 |a :: l,b :: m=>by
  simp only [qal,Bool.and_eq_true,List.cons.injEq]
  rw [zm4,qvf]
def qe6:Ct:=⟨[.d (.sl qb),.d (.sl qb)],[.bool],fun x=>(qal x.1 x.2.1,()),fun _=>[]⟩
theorem qph:{l m:List qb.den}->l.length=m.length->qal l m=(l.zip m).all fun e=>qcr e.1 e.2
 |[],[],_=>rfl
 |[],b :: m,h=>by cases h
 |a :: l,[],h=>by cases h
 |a :: l,b :: m,h=>by
  simp only [qal,List.zip_cons_cons,List.all_cons]
  rw [qph (by simpa using h)]
theorem ze6:{l m:List qb.den}->l.length ≠ m.length->qal l m=false:=fun h=>by
 cases hs:qal _ _ with
 |true=>exact absurd (congrArg List.length (qvf.1 hs)) h
 |false=>rfl
theorem qoj {T σ:Type} (p:T->Bool) (l:List T) (s:σ):qne (fun e _=>p e) (fun _ s=>s) l s=l.all p:=by
 induction l with
 |nil=>rfl
 |cons e r ih=>simp only [qne,List.all_cons]; rw [ih]
theorem ydx (e:qb.den × qb.den) (s:qdz):(qax e s).get=if qcr e.1 e.2=true then .inl s else .inr ((false,()),()):=by
 show (if (!(qcr e.1 e.2))=true then _ else _)=_
 cases qcr e.1 e.2<;>rfl
theorem ygu (e:qb.den × qb.den) (s:qid):(qdu e s).get=if qcr e.1 e.2=true then .inl s else .inr ((false,()),()):=by
 show (if (!(qcr e.1 e.2))=true then _ else _)=_
 cases qcr e.1 e.2<;>rfl
theorem zxh (a b:Nat):((a:Int) != (b:Int)) = !decide (a=b):=by
 rw [Bool.eq_iff_iff]
 simp only [bne_iff_ne,ne_eq,Bool.not_eq_true',decide_eq_false_iff_not]
 omega
theorem za3:qa Tryz.prog 103 qe6:=
 conv zck _ _ (fun w F x vs hr _=>by
  obtain ⟨l,m,_⟩:=x
  obtain ⟨v,vs',rfl,hv,_⟩:=hr
  have hlen:(l.length:Int)<=9223372036854775807:=qcg hv
  have hne:=zxh l.length m.length
  by_cases hlm:l.length=m.length
  ·have hne':((l.length:Int) != (m.length:Int))=false:=by rw [hne,decide_eq_true hlm]; rfl
   have hz:((l.zip m).length:Int)<=9223372036854775807:=by
    rw [List.length_zip]
    omega
   refine ⟨⟨fun _=>trivial,fun _=>⟨⟨hlm,Int.le_refl _,Int.natCast_nonneg _,hz⟩,qe9 (step:=qax) (fun e s=>⟨fun _=>trivial,fun _=>trivial⟩) _ _,fun _=>trivial,fun _=>trivial⟩⟩,?_⟩
   have hres:=qco (p:=fun e _=>qcr e.1 e.2) (f:=fun _ s=>s) ydx (l.zip m) ((m,()),())
   rw [qoj,← qph hlm] at hres
   have hres':qge ((0,l,m,()),())=if qal l m=true then .inl _ else .inr _:=hres
   show (if ((l.length:Int) != (m.length:Int))=true then ((false,()):Bool × Unit) else if isL (qge ((0,l,m,()),()))=true then (true,()) else ((jg qhg (qge ((0,l,m,()),()))).1.1,()))=(qal l m,())
   rw [hres',hne']
   cases qal l m<;>rfl
  ·have hne':((l.length:Int) != (m.length:Int))=true:=by rw [hne,decide_eq_false hlm]; rfl
   refine ⟨⟨fun _=>trivial,fun hc=>(by have hc':((l.length:Int) != (m.length:Int))=false:=hc; rw [hne'] at hc'; cases hc')⟩,?_⟩
   show (if ((l.length:Int) != (m.length:Int))=true then ((false,()):Bool × Unit) else _)=(qal l m,())
   rw [hne',ze6 hlm]
   rfl)
theorem yab:qa Tryz.prog 157 qe6:=
 conv zm8 _ _ (fun w F x vs hr _=>by
  obtain ⟨l,m,_⟩:=x
  obtain ⟨v,vs',rfl,hv,_⟩:=hr
  have hlen:(l.length:Int)<=9223372036854775807:=qcg hv
  have hne:=zxh l.length m.length
  by_cases hlm:l.length=m.length
  ·have hne':((l.length:Int) != (m.length:Int))=false:=by rw [hne,decide_eq_true hlm]; rfl
   have hz:((l.zip m).length:Int)<=9223372036854775807:=by
    rw [List.length_zip]
    omega
   refine ⟨⟨fun _=>trivial,fun _=>⟨⟨⟨rfl,hlm⟩,Int.le_refl _,Int.natCast_nonneg _,hz⟩,qe9 (step:=qdu) (fun e s=>⟨fun _=>trivial,fun _=>trivial⟩) _ _,fun _=>trivial,fun _=>trivial⟩⟩,?_⟩
   have hres:=qco (p:=fun e _=>qcr e.1 e.2) (f:=fun _ s=>s) ygu (l.zip m) ((m,()),())
   rw [qoj,← qph hlm] at hres
   have hres':qlu ((0,(l.length:Int),l,m,()),())=if qal l m=true then .inl _ else .inr _:=hres
   show (if ((l.length:Int) != (m.length:Int))=true then ((false,()):Bool × Unit) else if isL (qlu ((0,(l.length:Int),l,m,()),()))=true then (true,()) else ((jg qno (qlu ((0,(l.length:Int),l,m,()),()))).1.1,()))=(qal l m,())
   rw [hres',hne']
   cases qal l m<;>rfl
  ·have hne':((l.length:Int) != (m.length:Int))=true:=by rw [hne,decide_eq_false hlm]; rfl
   refine ⟨⟨fun _=>trivial,fun hc=>(by have hc':((l.length:Int) != (m.length:Int))=false:=hc; rw [hne'] at hc'; cases hc')⟩,?_⟩
   show (if ((l.length:Int) != (m.length:Int))=true then ((false,()):Bool × Unit) else _)=(qal l m,())
   rw [hne',ze6 hlm]
   rfl)
abbrev zo:Ty:=.pair zw (.pair jj (.pair (.sl qb) .unit))
abbrev qc:Ty:=.pair i64 (.pair i64 (.pair i64 (.pair jj (.pair (.sl qb) (.pair i64 .unit)))))
abbrev ql:Ty:=.pair i64 (.pair i64 (.pair zo (.pair (.sl qc) .unit)))
abbrev yrd:Ty:=.pair i64 (.pair i64 (.pair i64 (.pair i64 .unit)))
abbrev qt:Ty:=.pair i64 (.pair yrd (.pair (.sl qw) (.pair jd (.pair jd (.pair i64 .unit)))))
abbrev zd:Ty:=.pair (.sl qt) .unit
noncomputable def CH9:Cx:=cx [(141,qht),(165,qht),(192,qql),(238,qql),(239,qh4),(143,qgn),(166,qgn),(164,qy5),(157,qe6),(103,qe6),(43,cIn),(168,cIn)] []
theorem qk8:CxOK Tryz.prog CH9:=zb qv ⟨zc8,ydn,zhu,zlm,zrz,qpk,zfy,zw2,yab,za3,qnu,zw8,trivial⟩ trivial
def qpy (x:qm [.d qc]):Fr (qi [.bool]):=
 Fr.val (bif bif (qht.f ((x.1.2.2.2.1.1,x.1.2.2.2.1.2.1,x.1.2.2.2.1.2.2.1,x.1.2.2.2.1.2.2.2.1,()),())).1 then ((List.length x.1.2.2.2.2.1):Int)==0 else false then x.1.2.2.2.2.2.1==0 else false,())
theorem zcf:qa Tryz.prog 179 ⟨[.d qc],[.bool],fun xs=>(qpy xs).get,fun xs=>[(qpy xs).ok]⟩:=
 qg qk8 (Λ:=qp) (fn:=Tryz.f179) (dfP [.d qc]) (by kernel_rfl) (fun c E _=>qd c 0) (fun x=>by kernel_rfl)
def qpz (x:qm [.d qc]):Fr (qi [.bool]):=
 Fr.val (bif bif (qgn.f (x.1.2.2.2.2.1,())).1 then x.1.2.2.2.1.1==0&&(x.1.2.2.2.1.2.1==0&&(x.1.2.2.2.1.2.2.1==0&&(x.1.2.2.2.1.2.2.2.1==0&&true))) else false then x.1.2.2.2.2.2.1==0 else false,())
theorem zcg:qa Tryz.prog 180 ⟨[.d qc],[.bool],fun xs=>(qpz xs).get,fun xs=>[(qpz xs).ok]⟩:=
 qg qk8 (Λ:=qp) (fn:=Tryz.f180) (dfP [.d qc]) (by kernel_rfl) (fun c E _=>qd c 0) (fun x=>by kernel_rfl)
def qp0 (x:qm [.d qc]):Fr (qi [.bool]):=
 Fr.val (bif bif bif x.1.2.2.2.2.2.1==0 then true else x.1.2.2.2.2.2.1==1 then ((List.length x.1.2.2.2.2.1):Int)==0 else false then x.1.2.2.2.1.1==0&&(x.1.2.2.2.1.2.1==0&&(x.1.2.2.2.1.2.2.1==0&&(x.1.2.2.2.1.2.2.2.1==0&&true))) else false,())
theorem zch:qa Tryz.prog 181 ⟨[.d qc],[.bool],fun xs=>(qp0 xs).get,fun xs=>[(qp0 xs).ok]⟩:=
 qg qk8 (Λ:=qp) (fn:=Tryz.f181) (dfP [.d qc]) (by kernel_rfl) (fun c E _=>qd c 0) (fun x=>by kernel_rfl)
def qp1 (x:qm [.d qc]):Fr (qi [.bool]):=
 Fr.val (bif bif x.1.2.2.2.2.2.1==0 then ((List.length x.1.2.2.2.2.1):Int)==0 else false then x.1.2.2.2.1.1==0&&(x.1.2.2.2.1.2.1==0&&(x.1.2.2.2.1.2.2.1==0&&(x.1.2.2.2.1.2.2.2.1==0&&true))) else false,())
theorem zci:qa Tryz.prog 182 ⟨[.d qc],[.bool],fun xs=>(qp1 xs).get,fun xs=>[(qp1 xs).ok]⟩:=
 qg qk8 (Λ:=qp) (fn:=Tryz.f182) (dfP [.d qc]) (by kernel_rfl) (fun c E _=>qd c 0) (fun x=>by kernel_rfl)
def quf (x:qm [.d qc]):Fr (qi [.bool]):=
 Fr.br (bif bif bif decide (x.1.1 < 1) then true else decide (x.1.1 > 292194) then true else decide (x.1.2.1 < 1) then true else decide (x.1.2.1 > 292194)) (Fr.val (false,())) (Fr.br (x.1.2.2.1==1) (Fr.val (bif bif (qht.f ((x.1.2.2.2.1.1,x.1.2.2.2.1.2.1,x.1.2.2.2.1.2.2.1,x.1.2.2.2.1.2.2.2.1,()),())).1 then ((List.length x.1.2.2.2.2.1):Int)==0 else false then x.1.2.2.2.2.2.1==0 else false,())) (Fr.br (x.1.2.2.1==2) (Fr.val (bif bif (qgn.f (x.1.2.2.2.2.1,())).1 then x.1.2.2.2.1.1==0&&(x.1.2.2.2.1.2.1==0&&(x.1.2.2.2.1.2.2.1==0&&(x.1.2.2.2.1.2.2.2.1==0&&true))) else false then x.1.2.2.2.2.2.1==0 else false,())) (Fr.br (x.1.2.2.1==3) (Fr.val (bif bif x.1.2.2.2.1.1==0&&(x.1.2.2.2.1.2.1==0&&(x.1.2.2.2.1.2.2.1==0&&(x.1.2.2.2.1.2.2.2.1==0&&true))) then ((List.length x.1.2.2.2.2.1):Int)==0 else false then bif x.1.2.2.2.2.2.1==0 then true else x.1.2.2.2.2.2.1==1 else false,())) (Fr.br (x.1.2.2.1==4) (Fr.val (bif bif x.1.2.2.2.1.1==0&&(x.1.2.2.2.1.2.1==0&&(x.1.2.2.2.1.2.2.1==0&&(x.1.2.2.2.1.2.2.2.1==0&&true))) then ((List.length x.1.2.2.2.2.1):Int)==0 else false then x.1.2.2.2.2.2.1==0 else false,())) (Fr.val (false,()))))))
theorem qzn:qa Tryz.prog 122 ⟨[.d qc],[.bool],fun xs=>(quf xs).get,fun xs=>[(quf xs).ok]⟩:=
 qg qk8 (Λ:=qp) (fn:=Tryz.f122) (dfP [.d qc]) (by kernel_rfl) (fun c E _=>qd c 0) (fun x=>by kernel_rfl)
def que (x:qm [.d zo]):Fr (qi [.bool]):=
 Fr.br (!(qy5.f ((x.1.1.1,x.1.1.2.1,()),())).1) (Fr.val (false,())) (Fr.val (bif bif decide (IntKind.i64.wrap (x.1.1.2.1 - x.1.1.1)<=1100) then (qht.f ((x.1.2.1.1,x.1.2.1.2.1,x.1.2.1.2.2.1,x.1.2.1.2.2.2.1,()),())).1 else false then (qgn.f (x.1.2.2.1,())).1 else false,()))
theorem qzm:qa Tryz.prog 121 ⟨[.d zo],[.bool],fun xs=>(que xs).get,fun xs=>[(que xs).ok]⟩:=
 qg qk8 (Λ:=qp) (fn:=Tryz.f121) (dfP [.d zo]) (by kernel_rfl) (fun c E _=>qd c 0) (fun x=>by kernel_rfl)
def zjh (x:qm [.d qk,.d qk]):Fr (qi [.bool]):=
 Fr.val (bif bif x.1.2.1==x.2.1.2.1 then x.1.2.2.1.1==x.2.1.2.2.1.1&&(x.1.2.2.1.2.1==x.2.1.2.2.1.2.1&&(x.1.2.2.1.2.2.1==x.2.1.2.2.1.2.2.1&&(x.1.2.2.1.2.2.2.1==x.2.1.2.2.1.2.2.2.1&&true))) else false then (qe6.f (x.1.2.2.2.1,x.2.1.2.2.2.1,())).1 else false,())
theorem zne:qa Tryz.prog 115 ⟨[.d qk,.d qk],[.bool],fun xs=>(zjh xs).get,fun xs=>[(zjh xs).ok]⟩:=
 qg qk8 (Λ:=qp) (fn:=Tryz.f115) (dfP [.d qk,.d qk]) (by kernel_rfl) (fun c E _=>qd c 0) (fun x=>by kernel_rfl)
def qw8 (x:qm [.d qk,.d qk]):Fr (qi [.bool]):=
 Fr.val (bif bif x.1.2.1==x.2.1.2.1 then x.1.2.2.1.1==x.2.1.2.2.1.1&&(x.1.2.2.1.2.1==x.2.1.2.2.1.2.1&&(x.1.2.2.1.2.2.1==x.2.1.2.2.1.2.2.1&&(x.1.2.2.1.2.2.2.1==x.2.1.2.2.1.2.2.2.1&&true))) else false then (qe6.f (x.1.2.2.2.1,x.2.1.2.2.2.1,())).1 else false,())
theorem zcl:qa Tryz.prog 219 ⟨[.d qk,.d qk],[.bool],fun xs=>(qw8 xs).get,fun xs=>[(qw8 xs).ok]⟩:=
 qg qk8 (Λ:=qp) (fn:=Tryz.f219) (dfP [.d qk,.d qk]) (by kernel_rfl) (fun c E _=>qd c 0) (fun x=>by kernel_rfl)
def ck1 (c:qc.den):Bool:=(qpy (c,())).get.1
def ck2 (c:qc.den):Bool:=(qpz (c,())).get.1
def ck3 (c:qc.den):Bool:=(qp0 (c,())).get.1
def ck4 (c:qc.den):Bool:=(qp1 (c,())).get.1
def yan:Ct:=⟨[.d qc],[.bool],fun x=>(ck1 x.1,()),fun _=>[]⟩
def yao:Ct:=⟨[.d qc],[.bool],fun x=>(ck2 x.1,()),fun _=>[]⟩
def yap:Ct:=⟨[.d qc],[.bool],fun x=>(ck3 x.1,()),fun _=>[]⟩
def yaq:Ct:=⟨[.d qc],[.bool],fun x=>(ck4 x.1,()),fun _=>[]⟩
theorem yl1:qa Tryz.prog 179 yan:=conv zcf _ _ (fun _ _ _ _ _ _=>⟨trivial,rfl⟩)
theorem yl2:qa Tryz.prog 180 yao:=conv zcg _ _ (fun _ _ _ _ _ _=>⟨trivial,rfl⟩)
theorem yl3:qa Tryz.prog 181 yap:=conv zch _ _ (fun _ _ _ _ _ _=>⟨trivial,rfl⟩)
theorem yl4:qa Tryz.prog 182 yaq:=conv zci _ _ (fun _ _ _ _ _ _=>⟨trivial,rfl⟩)
def zag (c:qc.den):Bool:=if c.2.2.1=1 then ck1 c else if c.2.2.1=2 then ck2 c else if c.2.2.1=3 then ck3 c else if c.2.2.1=4 then ck4 c else false
def xu (c:qc.den):Bool:=qc1 c.1&&(qc1 c.2.1&&zag c)
def qea:Ct:=⟨[.d qc],[.bool],fun x=>(xu x.1,()),fun _=>[]⟩
def qeo (t:zo.den):Bool:=wd t.1&&(decide (t.1.2.1 - t.1.1<=1100)&&(qhz t.2.1.1 t.2.1.2.1 t.2.1.2.2.1 t.2.1.2.2.2.1&&qb5 t.2.2.1))
def qhe:Ct:=⟨[.d zo],[.bool],fun x=>(qeo x.1,()),fun _=>[]⟩
theorem zln:qa Tryz.prog 121 qhe:=
 conv qzm _ _ (fun _ _ x _ _ _=>by
  obtain ⟨⟨⟨a,b,_⟩,r,cs,_⟩,_⟩:=x
  refine ⟨⟨fun _=>trivial,fun _=>trivial⟩,?_⟩
  show (if (!(wd (a,b,())))=true then ((false,()):Bool × Unit) else (bif bif decide (IntKind.i64.wrap (b - a)<=1100) then qhz r.1 r.2.1 r.2.2.1 r.2.2.2.1 else false then qb5 cs else false,())) =
   (wd (a,b,())&&(decide (b - a<=1100)&&(qhz r.1 r.2.1 r.2.2.1 r.2.2.2.1&&qb5 cs)),())
  cases hf:wd (a,b,()) with
  |false=>rfl
  |true=>
   obtain ⟨h1,h2,h3⟩:=qcp.1 hf
   have hw:IntKind.i64.wrap (b - a)=b - a:=qdf (by omega)
   rw [hw,qtd]
   rfl)
def qre (a b:jj.den):Bool:=(a.1==b.1&&(a.2.1==b.2.1&&(a.2.2.1==b.2.2.1&&(a.2.2.2.1==b.2.2.2.1&&true))))
def qjf (a b:qk.den):Bool:=(a.2.1==b.2.1)&&(qre a.2.2.1 b.2.2.1&&qal a.2.2.2.1 b.2.2.2.1)
def qqn:Ct:=⟨[.d qk,.d qk],[.bool],fun x=>(qjf x.1 x.2.1,()),fun _=>[]⟩
theorem zkk:qa Tryz.prog 115 qqn:=conv zne _ _ (fun _ _ x _ _ _=>by
 obtain ⟨a,b,_⟩:=x
 exact ⟨trivial,congrArg (·,()) (qtd (a.2.1==b.2.1) (qre a.2.2.1 b.2.2.1) (qal a.2.2.2.1 b.2.2.2.1))⟩)
theorem yis:qa Tryz.prog 219 qqn:=conv zcl _ _ (fun _ _ x _ _ _=>by
 obtain ⟨a,b,_⟩:=x
 exact ⟨trivial,congrArg (·,()) (qtd (a.2.1==b.2.1) (qre a.2.2.1 b.2.2.1) (qal a.2.2.2.1 b.2.2.2.1))⟩)
theorem ymb (a b:Int):(bif bif bif decide (a < 1) then true else decide (a > 292194) then true else decide (b < 1) then true else decide (b > 292194)) = !(qc1 a&&qc1 b):=by
 rw [Bool.eq_iff_iff]
 simp only [qc1,Bool.cond_true_left,Bool.or_eq_true,Bool.not_eq_true',Bool.and_eq_false_iff,decide_eq_true_eq,decide_eq_false_iff_not]
 omega
def qok (r:jj.den):Bool:=r.1==0&&(r.2.1==0&&(r.2.2.1==0&&(r.2.2.2.1==0&&true)))
theorem zlo:qa Tryz.prog 122 qea:=
 conv qzn _ _ (fun _ _ x _ _ _=>by
  obtain ⟨⟨b,d,k,r,cs,w,_⟩,_⟩:=x
  refine ⟨⟨fun _=>trivial,fun _=>⟨fun _=>trivial,fun _=>⟨fun _=>trivial,fun _=>⟨fun _=>trivial,fun _=>⟨fun _=>trivial,fun _=>trivial⟩⟩⟩⟩⟩,?_⟩
  show (if (bif bif bif decide (b < 1) then true else decide (b > 292194) then true else decide (d < 1) then true else decide (d > 292194))=true then ((false,()):Bool × Unit) else
   if (k==1)=true then (ck1 (b,d,k,r,cs,w,()),()) else if (k==2)=true then (ck2 (b,d,k,r,cs,w,()),()) else
   if (k==3)=true then (bif bif qok r then ((cs.length:Int)==0) else false then bif w==0 then true else w==1 else false,()) else
   if (k==4)=true then (bif bif qok r then ((cs.length:Int)==0) else false then w==0 else false,()) else (false,()))=(qc1 b&&(qc1 d&&zag (b,d,k,r,cs,w,())),())
  have hb:=ymb b d
  rw [hb]
  have h3:(bif bif qok r then ((cs.length:Int)==0) else false then bif w==0 then true else w==1 else false)=ck3 (b,d,k,r,cs,w,()):=by
   show _=(bif bif bif w==0 then true else w==1 then ((cs.length:Int)==0) else false then qok r else false)
   cases qok r<;>cases ((cs.length:Int)==0)<;>cases (w==0)<;>cases (w==1)<;>rfl
  have h4:(bif bif qok r then ((cs.length:Int)==0) else false then w==0 else false)=ck4 (b,d,k,r,cs,w,()):=by
   show _=(bif bif w==0 then ((cs.length:Int)==0) else false then qok r else false)
   cases qok r<;>cases ((cs.length:Int)==0)<;>cases (w==0)<;>rfl
  rw [h3,h4]
  have hk:zag (b,d,k,r,cs,w,())=if (k==1)=true then ck1 (b,d,k,r,cs,w,()) else if (k==2)=true then ck2 (b,d,k,r,cs,w,()) else if (k==3)=true then ck3 (b,d,k,r,cs,w,()) else if (k==4)=true then ck4 (b,d,k,r,cs,w,()) else false:=by
   simp only [beq_iff_eq]
   rfl
  rw [hk]
  cases qc1 b<;>cases qc1 d<;>cases (k==1)<;>cases (k==2)<;>cases (k==3)<;>cases (k==4)<;>rfl)
def qi5 (h:ql.den) (i:Int):Int:=(h.2.2.2.1.getD i.toNat qc.dflt).2.1
abbrev chL (h:ql.den):List qc.den:=h.2.2.2.1
noncomputable def CO1:Cx:=cx [(148,yar)] []
theorem ykz:CxOK Tryz.prog CO1:=zb qv ⟨yl5,trivial⟩ trivial
def yh2 (x:qm [.d i64,.d i64,.ptr ql]):Fr (qi [i64]):=
 Fr.need (0<=x.1/\x.1 < ((chL x.2.2.1).length:Int)) (Fr.need (0<=x.2.1/\x.2.1 < ((chL x.2.2.1).length:Int)) (Fr.val ((yar.f (qi5 x.2.2.1 x.1,qi5 x.2.2.1 x.2.1,())).1,())))
def qv6:Ct:=⟨[.d i64,.d i64,.ptr ql],[i64],fun x=>(zri (qi5 x.2.2.1 x.1) (qi5 x.2.2.1 x.2.1),()),fun x=>[0<=x.1/\x.1 < ((chL x.2.2.1).length:Int),0<=x.2.1/\x.2.1 < ((chL x.2.2.1).length:Int)]⟩
theorem zpt:qa Tryz.prog 147 qv6:=
 conv (qg ykz (Λ:=qp) (fn:=Tryz.f147) (fr:=yh2) (dfP [.d i64,.d i64,.ptr ql]) (by kernel_rfl) (fun c E _=>qd c 0) (fun x=>by kernel_rfl)) _ _ fun _ _ x _ _ hok=>
  ⟨⟨hok.1,hok.2,trivial⟩,rfl⟩
def qc6 (n:Nat):List Int:=(List.range n).map fun i:Nat=>(i:Int)
theorem zn9 (n:Nat):qc6 (n+1)=qc6 n++[(n:Int)]:=by simp [qc6,List.range_succ]
theorem qmb (n:Nat):(qc6 n).length=n:=by simp [qc6]
theorem qs2 {n:Nat} {x:Int} (h:x ∈ qc6 n):0<=x/\x < n:=by
 simp only [qc6,List.mem_map,List.mem_range] at h
 obtain ⟨i,hi,rfl⟩:=h
 omega
noncomputable def CO2:Cx:=cxK [(147,qv6)] [] (mtK (cx [(147,qv6)] []).Γ 146 zgx)
theorem yk0:CxOK Tryz.prog (cx [(147,qv6)] []):=zb qv ⟨zpt,trivial⟩ trivial
theorem zhi:CxOK Tryz.prog CO2:=qcz qv ⟨zpt,trivial⟩ trivial (qnx yk0.ct yjx)
abbrev qf9:Pt:=⟨20,0,⟨[(7,.d i64),(8,.d i64)],[.x 1 54 ql,.r 1 1 0,.o 3 3 i64]⟩,⟨[],[.x 1 54 ql,.r 1 1 0,.o 3 3 i64]⟩,⟨[],[]⟩⟩
set_option maxRecDepth 100000 in
def zcq (x:qf9.M.X):Fr qf9.Out:=
 let n:=x.1.1; let k:=x.1.2.1; let h:=x.2.1; let l:=x.2.2.1
 Fr.br (decide (k < n))
  (Fr.need (l.length + [k].length<=maxLen/\(l.length + [k].length) * Tryz.prog.types[3].bytes<=140737488355328) (Fr.val (Rd.next ((n,IntKind.i64.wrap (k+1),()),(h,l++[k],())))))
  (Fr.val (Rd.out ((),(h,l,()))))
theorem yjr:qe Tryz.prog (qo Tryz.f105 0) qf9.M qf9 zcq:=
 qe.of_run zhi (bs:=0) (Λ:=qp) rfl rfl rfl (fun E=>qd _ 0) (fun x=>by kernel_rfl)
set_option maxRecDepth 100000 in
theorem yce:Tryz.prog.types[3].bytes=8:=by kernel_rfl
structure InvOrd (n k:Int) (l:List Int):Prop where
 k0:0<=k
 kn:k<=n
 big:n<=1000000
 ll:l=qc6 k.toNat
def zz3 (x:qf9.M.X):Fr qf9.Out:=
 Fr.need (InvOrd x.1.1 x.1.2.1 x.2.2.1) (Fr.val (Rd.out ((),(x.2.1,qc6 x.1.1.toNat,()))))
theorem ym9 (n k:Int) (h:ql.den) (l:List Int) (hinv:InvOrd n k l) (Q:qf9.Out->Prop) (hq:Q (Rd.out ((),(h,qc6 n.toNat,())))):(zcq ((n,k,()),(h,l,()))).satP fun
   |.next x'=>InvOrd x'.1.1 x'.1.2.1 x'.2.2.1/\(x'.1.1 - x'.1.2.1).toNat < (n - k).toNat/\(zz3 x').satP Q
   |.out y=>Q (.out y)
   |.back z=>Q (.back z)
   |.pan p=>Q (.pan p):=by
 obtain ⟨h0,h1,h2,h3⟩:=hinv
 subst h3
 dsimp only [zcq,Fr.satP,Ty.den,PT.den]
 rw [yce]
 refine ⟨fun hi=>?_,fun hi=>?_⟩
 ·have hlt:k < n:=of_decide_eq_true hi
  have w:IntKind.i64.wrap (k+1)=k+1:=IntWalk.i64_in _ (by omega)
  rw [w]
  have hI:InvOrd n (k+1) (qc6 k.toNat++[k]):=⟨by omega,by omega,h2,by rw [show (k+1).toNat=k.toNat+1 by omega,zn9,show ((k.toNat:Nat):Int)=k by omega]⟩
  refine ⟨?_,hI,by omega,hI,hq⟩
  simp only [qmb,List.length_cons,List.length_nil,maxLen]
  omega
 ·have hge:¬ k < n:=of_decide_eq_false hi
  rw [show n=k by omega] at hq
  exact hq
theorem yix:qe Tryz.prog (.loop (qo Tryz.f105 0)) qf9.M qf9 zz3:=by
 refine qe.loop (n:=20) (id:=0) yjr (inv:=fun x=>InvOrd x.1.1 x.1.2.1 x.2.2.1) (μ:=fun x=>(x.1.1 - x.1.2.1).toNat) ?_ (fun x Q h=>h.1)
 rintro ⟨⟨n,k,_⟩,⟨h,l,_⟩⟩ hinv Q hq
 exact ym9 n k h l hinv Q hq.2
noncomputable def yr0:Nat->St->Option Tr:=fun _=>qf9.han CO2.Γ qf9.M zz3
def yc1 (h:ql.den):zh.den:=(fun x=>qv6.f (x.1,x.2.1,h,()),fun x=>qq (qv6.ok (x.1,x.2.1,h,())))
noncomputable def zj9 (x:qm [.d ql]):Fr (qi [.sl i64]):=
 let n:Int:=((chL x.1).length:Int)
 Fr.need (InvOrd n 0 [])
 (Fr.need (((qc6 n.toNat).length:Int)<=4611686018427387903)
  (Fr.need (qgl (yc1 x.1) (qc6 n.toNat)) (Fr.val ((zgx.f (qc6 n.toNat) (yc1 x.1,())).1,()))))
def yf5 (h:ql.den) (x y:Int):Bool:=decide (qi5 h x < qi5 h y)
def vu (h:ql.den):List Int:=jk (yf5 h) (qc6 (chL h).length)
theorem zk0 (h:ql.den):qz (yc1 h)=yf5 h:=by
 funext x y
 show decide (zri (qi5 h x) (qi5 h y) < 0)=decide (qi5 h x < qi5 h y)
 rw [decide_eq_decide]
 unfold zri
 split
 ·simp [*]
 ·split<;>simp<;>omega
def zib:Ct:=⟨[.d ql],[.sl i64],fun x=>(vu x.1,()),fun x=>[((chL x.1).length:Int)<=1000000]⟩
theorem zlb:qa Tryz.prog 105 zib:=
 conv (qg zhi (Λ:=yr0) (fn:=Tryz.f105) (fr:=zj9) (ps:=[.d ql]) (rs:=[.sl i64]) (dfP [.d ql]) (by kernel_rfl)
  (fun c E hc=>yz hc (by kernel_rfl) (b:=qo Tryz.f105 0) (by kernel_rfl) (qe.han zhi rfl yix)) (fun x=>by kernel_rfl)) _ _ fun _ _ x _ _ hok=>by
  obtain ⟨h,rfl⟩:∃ h:ql.den,x=(h,()):=⟨x.1,rfl⟩
  have hok':((chL h).length:Int)<=1000000:=hok
  have e:((chL h).length:Int).toNat=(chL h).length:=rfl
  dsimp only [zj9,Fr.ok,Fr.get,zgx]
  rw [e,zk0,qmb]
  refine ⟨⟨⟨Int.le_refl _,by omega,hok',rfl⟩,by omega,⟨fun x hx y hy=>⟨qs2 hx,qs2 hy⟩,qi5 h,fun x _ y _=>by rw [zk0]; rfl⟩,trivial⟩,rfl⟩
section
variable {key:Int->Int} {lt:Int->Int->Bool}
end
theorem yhi {l:List Int} {i:Nat} (h:i < l.length):l.drop i=l.getD i 0 :: l.drop (i+1):=by
 rw [List.drop_eq_getElem_cons h]
 simp [List.getD_eq_getElem?_getD,List.getElem?_eq_getElem h]
end Go.Proofs.YtgieagiaagoogaaGreat
namespace Go.Proofs.YtgieagiaagoogaaGreat
open Go Go.Ab Go.RowKit Go.Proofs
def zgr (s:qk.den) (c:qc.den):qk.den:=
 if c.2.2.1=1 then (s.1,s.2.1,c.2.2.2.1,s.2.2.2.1,s.2.2.2.2.1,())
 else if c.2.2.1=2 then (s.1,s.2.1,s.2.2.1,c.2.2.2.2.1,s.2.2.2.2.1,())
 else if c.2.2.1=3 then (s.1,false,s.2.2.1,s.2.2.2.1,s.2.2.2.2.1,())
 else if c.2.2.1=4 then (s.1,true,s.2.2.1,s.2.2.2.1,s.2.2.2.2.1,())
 else s
def vn (h:ql.den) (i:Int):qc.den:=(chL h).getD i.toNat qc.dflt
noncomputable def CHA:Cx:=cx [(115,qqn),(219,qqn),(122,qea),(121,qhe),(43,cIn),(168,cIn)] []
theorem zhd:CxOK Tryz.prog CHA:=zb qv ⟨zkk,yis,zlo,zln,qnu,zw8,trivial⟩ trivial
abbrev yu:Pt:=⟨21,0,⟨[(10,.d i64),(9,.d i64),(8,.d qac),(1,.d i64)],[.x 4 122 qk,.r 4 4 0]⟩,⟨[],[.x 4 122 qk,.r 4 4 0]⟩,⟨[(5,.d .bool)],[.x 4 122 qk,.r 4 4 0]⟩⟩
def qun (x:yu.M.X):Fr yu.Out:=
 Fr.br (decide (x.1.1 < x.1.2.1)) (Fr.need (0<=x.1.1/\x.1.1 < ((List.length x.1.2.2.1):Int)) (Fr.br (cIn.f ((List.getD x.1.2.2.1 (Int.toNat x.1.1) qk.dflt).1,x.1.2.2.2.1,())).1 (Fr.val (Rd.back ((true,()),(List.getD x.1.2.2.1 (Int.toNat x.1.1) qk.dflt),()))) (Fr.val (Rd.next ((IntKind.i64.wrap (x.1.1+1),x.1.2.1,x.1.2.2.1,x.1.2.2.2.1,()),x.2.1,()))))) (Fr.val (Rd.out ((),x.2.1,())))
theorem zf0:qe Tryz.prog (qo Tryz.f57 0) yu.M yu qun:=
 qe.of_run zhd (bs:=0) (Λ:=qp) rfl rfl rfl (fun E=>qd _ 0) (fun x=>by kernel_rfl)
abbrev qem:Type:=qm [.d i64] × jc [.x 4 122 qk,.r 4 4 0]
def vf (e:qk.den) (s:qem):Fr (qem ⊕ yu.R.X):=
 Fr.br (cIn.f (e.1,s.1.1,())).1 (Fr.val (.inr ((true,()),e,()))) (Fr.val (.inl s))
def wk (x:yu.M.X):Int × List qk.den × qem:=(x.1.1,x.1.2.2.1,x.1.2.2.2,x.2)
def qgx (x:yu.M.X):Prop:=x.1.2.1=(x.1.2.2.1.length:Int)
def ql9 (s:qem):yu.E.X:=((),s.2.1,())
def qnq:qem:=(dfP _,dfM _)
def qc0:yu.R.X:=(dfP _,dfM _)
theorem zcw:qe Tryz.prog (.loop (qo Tryz.f57 0)) yu.M yu (FL vf wk qgx ql9 Rd.back qnq qc0):=by
 refine qe.list zf0 vf wk qgx ql9 Rd.back qnq qc0 ?_ ?_
 ·rintro ⟨⟨i,n,l,s⟩,m⟩ hg h0 h1 hb e he Q h
  have hg:n=(l.length:Int):=hg
  subst hg
  have h0:0<=i:=h0
  have h1:i < (l.length:Int):=h1
  have hb:(l.length:Int)<=9223372036854775807:=hb
  have hd:l.getD i.toNat qk.dflt=e:=zr he
  have hw:=zx h0 h1 hb
  dsimp only [wk,vf,qun,Fr.satP] at h ⊢
  simp only [hd,hw] at h ⊢
  refine ⟨fun _=>?_,fun hn=>absurd h1 (of_decide_eq_false hn)⟩
  repeat' first
   |exact h
   |exact ⟨h0,h1⟩
   |exact fun _=>⟨h0,h1⟩
   |exact h _ rfl rfl
   |refine ⟨?_,?_⟩
   |(intro (hc:_=true); replace h:=h.1 hc)
   |(intro (hc:_=false); replace h:=h.2 hc)
 ·rintro ⟨⟨i,n,l,s⟩,m⟩ hg h1 Q h
  have hg:n=(l.length:Int):=hg
  subst hg
  exact ⟨fun hn=>absurd (of_decide_eq_true hn) h1,fun _=>h⟩
def zoj (Γ:Gm):St->Option Tr:=yu.han Γ yu.M (FL vf wk qgx ql9 Rd.back qnq qc0)
def qcb (y:yu.M.X):qem ⊕ yu.R.X:=goL vf ((wk y).2.1.drop (wk y).1.toNat) (wk y).2.2
def zfw (y:yu.M.X):Prop:=okL vf ((wk y).2.1.drop (wk y).1.toNat) (wk y).2.2
def qug (x:qm [.d qac,.d i64]):Fr (qi [qk,.bool]):=
 Fr.need (InL (qgx ((0,((List.length x.1):Int),x.1,x.2.1,()),((0,0,()),false,(0,0,0,0,()),[],0,()),())) (wk ((0,((List.length x.1):Int),x.1,x.2.1,()),((0,0,()),false,(0,0,0,0,()),[],0,()),()))) (Fr.need (zfw ((0,((List.length x.1):Int),x.1,x.2.1,()),((0,0,()),false,(0,0,0,0,()),[],0,()),())) (Fr.br (isL (qcb ((0,((List.length x.1):Int),x.1,x.2.1,()),((0,0,()),false,(0,0,0,0,()),[],0,()),()))) (Fr.val (((0,0,()),false,(0,0,0,0,()),[],0,()),false,())) (Fr.val ((jg qc0 (qcb ((0,((List.length x.1):Int),x.1,x.2.1,()),((0,0,()),false,(0,0,0,0,()),[],0,()),()))).2.1,(jg qc0 (qcb ((0,((List.length x.1):Int),x.1,x.2.1,()),((0,0,()),false,(0,0,0,0,()),[],0,()),()))).1.1,()))))
theorem qzp:qa Tryz.prog 57 ⟨[.d qac,.d i64],[qk,.bool],fun xs=>(qug xs).get,fun xs=>[(qug xs).ok]⟩:=
 qg zhd (Λ:=(fun _=>zoj CHA.Γ)) (fn:=Tryz.f57) (dfP [.d qac,.d i64]) (by kernel_rfl) (fun c E hc=>yz hc (by kernel_rfl) (b:=qo Tryz.f57 0) (by kernel_rfl) (qe.han zhd rfl zcw)) (fun x=>by kernel_rfl)
def qff:qk.den:=((0,0,()),false,(0,0,0,0,()),[],0,())
def atS:List qk.den->Int->qk.den × Bool
 |[],_=>(qff,false)
 |s :: r,d=>if inB s.1.1 s.1.2.1 d=true then (s,true) else atS r d
def cAt:Ct:=⟨[.d qac,.d i64],[qk,.bool],fun x=>((atS x.1 x.2.1).1,(atS x.1 x.2.1).2,()),fun _=>[]⟩
theorem zhs:(l:List qk.den)->(d:Int)->(atS l d).2=false->(atS l d).1=qff
 |[],_,_=>rfl
 |s :: r,d,h=>by
  unfold atS at h ⊢
  by_cases hi:inB s.1.1 s.1.2.1 d=true
  ·rw [if_pos hi] at h
   cases h
  ·rw [if_neg hi] at h ⊢
   exact zhs r d h
theorem ypb (l:List qk.den) (d:Int) (m:qk.den):goL vf l ((d,()),(m,()))=if (atS l d).2=true then .inr ((true,()),((atS l d).1,())) else .inl ((d,()),(m,())):=by
 induction l with
 |nil=>rfl
 |cons e r ih=>
  by_cases h:inB e.1.1 e.1.2.1 d=true
  ·have hg:(vf e ((d,()),(m,()))).get = .inr ((true,()),(e,())):=if_pos h
   simp only [goL,hg,atS,if_pos h,if_true]
  ·have hg:(vf e ((d,()),(m,()))).get = .inl ((d,()),(m,())):=if_neg h
   simp only [goL,hg,atS,if_neg h]
   exact ih
theorem yln (l:List qk.den) (d:Int) {σ:Type} {a b:σ} {dr:qm [.d .bool] × qk.den × Unit} :
  (if isL (if (atS l d).2=true then (.inr ((true,()),((atS l d).1,())):σ ⊕ (qm [.d .bool] × qk.den × Unit)) else .inl a)=true then ((qff,false,()):qk.den × Bool × Unit)
   else ((jg dr (if (atS l d).2=true then (.inr ((true,()),((atS l d).1,())):σ ⊕ (qm [.d .bool] × qk.den × Unit)) else .inl a)).2.1,(jg dr (if (atS l d).2=true then (.inr ((true,()),((atS l d).1,())):σ ⊕ (qm [.d .bool] × qk.den × Unit)) else .inl a)).1.1,()))=((atS l d).1,(atS l d).2,()):=by
 cases h:(atS l d).2 with
 |true=>rfl
 |false=>
  rw [zhs l d h]
  rfl
theorem zl8:qa Tryz.prog 57 cAt:=
 conv qzp _ _ (fun w F x vs hr _=>by
  obtain ⟨l,d,_⟩:=x
  obtain ⟨v,vs',rfl,hv,_⟩:=hr
  have hlen:(l.length:Int)<=9223372036854775807:=qcg hv
  refine ⟨⟨⟨rfl,Int.le_refl _,Int.natCast_nonneg _,hlen⟩,qe9 (step:=vf) (fun e s=>⟨fun _=>trivial,fun _=>trivial⟩) _ _,fun _=>trivial,fun _=>trivial⟩,?_⟩
  have hres:qcb ((0,(l.length:Int),l,d,()),(qff,()))=_:=ypb l d qff
  show (if isL (qcb ((0,(l.length:Int),l,d,()),(qff,())))=true then ((qff,false,()):qk.den × Bool × Unit) else ((jg qc0 (qcb ((0,(l.length:Int),l,d,()),(qff,())))).2.1,(jg qc0 (qcb ((0,(l.length:Int),l,d,()),(qff,())))).1.1,()))=((atS l d).1,(atS l d).2,())
  rw [hres]
  exact yln l d (b:=((d,()),(qff,()))))
def qsf (h:ql.den):Bool:=(qeo h.2.2.1&&decide (h.2.2.2.1.length<=2000))&&h.2.2.2.1.all fun c=>xu c&&inB h.2.2.1.1.1 h.2.2.1.1.2.1 c.2.1
def zq1:Ct:=⟨[.d ql],[.bool],fun x=>(qsf x.1,()),fun _=>[]⟩
theorem zqs {T σ:Type} (p:T->σ->Bool) (l:List T) (s:σ):qne p (fun _ s=>s) l s=l.all fun e=>p e s:=by
 induction l with
 |nil=>rfl
 |cons e r ih=>simp only [qne,List.all_cons]; rw [ih]
abbrev zbt:Type:=Bool × jj.den × List qb.den
def qfo (s:qk.den):zbt:=(s.2.1,s.2.2.1,s.2.2.2.1)
theorem zt8 {a b:jj.den}:qre a b=true↔a=b:=by
 obtain ⟨a1,a2,a3,a4,_⟩:=a
 obtain ⟨b1,b2,b3,b4,_⟩:=b
 constructor
 ·intro h
  simp only [qre,Bool.and_eq_true,beq_iff_eq] at h
  obtain ⟨h1,h2,h3,h4,_⟩:=h
  rw [h1,h2,h3,h4]
 ·intro h
  cases h
  simp [qre]
theorem zaa {a b:qk.den}:qjf a b=true↔qfo a=qfo b:=by
 unfold qjf qfo
 simp only [Bool.and_eq_true,beq_iff_eq,zt8,qvf,Prod.mk.injEq]
def qd6 (st:Int->zbt) (b:Int):Int->List qk.den->Prop
 |a,[]=>a=b
 |a,s :: l=>s.1.1=a/\a < s.1.2.1/\s.2.2.2.2.1=(0:Int)/\(∀ d,a<=d->d < s.1.2.1->qfo s=st d)/\(∀ t ∈ l.head?,qfo s ≠ qfo t)/\qd6 st b s.1.2.1 l
theorem qd6.le {st:Int->zbt} {b:Int}:{a:Int} -> {l:List qk.den}->qd6 st b a l->a<=b
 |a,[],h=>Int.le_of_eq h
 |a,s :: l,h=>Int.le_trans (Int.le_of_lt h.2.1) (qd6.le h.2.2.2.2.2)
theorem qd6.at_ {st:Int->zbt} {b:Int} {s:qk.den} {l:List qk.den} {a:Int} (h:qd6 st b a (s :: l)):qfo s=st a:=h.2.2.2.1 a (Int.le_refl a) h.2.1
def qft:List qk.den->qk.den->List qk.den
 |[],s=>[s]
 |[x],s=>if qjf x s=true then [((x.1.1,s.1.2.1,()),x.2)] else [x,s]
 |x :: y :: r,s=>x :: qft (y :: r) s
theorem ztt (s:qk.den):(y:qk.den)->(r:List qk.den)->∃ y' r',qft (y :: r) s=y' :: r'/\qfo y'=qfo y
 |y,[]=>by
  unfold qft
  split
  ·exact ⟨_,_,rfl,rfl⟩
  ·exact ⟨_,_,rfl,rfl⟩
 |y,z :: r=>⟨y,_,rfl,rfl⟩
theorem qd6.push {st:Int->zbt} {m n:Int} {s:qk.den} (hs:s.1.1=m/\s.1.2.1=n/\s.2.2.2.2.1=(0:Int)) (hmn:m < n) (hst:∀ d,m<=d->d < n->qfo s=st d):{a:Int} -> {l:List qk.den}->qd6 st m a l->qd6 st n a (qft l s)
 |a,[],h=>by
  have h0:a=m:=h
  subst h0
  refine ⟨hs.1,by rw [hs.2.1]; exact hmn,hs.2.2,fun d h1 h2=>hst d h1 (by rw [hs.2.1] at h2; exact h2),fun t ht=>(by cases ht),hs.2.1⟩
 |a,[x],h=>by
  have hx:x.1.2.1=m:=h.2.2.2.2.2
  unfold qft
  by_cases hh:qjf x s=true
  ·rw [if_pos hh]
   have hc:=zaa.1 hh
   refine ⟨h.1,?_,h.2.2.1,fun d h1 h2=>?_,fun t ht=>(by cases ht),?_⟩
   ·show a < s.1.2.1
    rw [hs.2.1]
    have h1:a < x.1.2.1:=h.2.1
    rw [hx] at h1
    exact Int.lt_trans h1 hmn
   ·have h2':d < n:=by
     have:d < s.1.2.1:=h2
     rw [hs.2.1] at this
     exact this
    show qfo x=st d
    by_cases hd:d < m
    ·exact h.2.2.2.1 d h1 (by rw [hx]; exact hd)
    ·exact hc.trans (hst d (Int.not_lt.1 hd) h2')
   ·exact hs.2.1
  ·rw [if_neg hh]
   have hc:qfo x ≠ qfo s:=fun e=>hh (zaa.2 e)
   refine ⟨h.1,h.2.1,h.2.2.1,h.2.2.2.1,fun t ht=>?_,?_⟩
   ·simp at ht
    subst ht
    exact hc
   ·rw [hx]
    exact ⟨hs.1,by rw [hs.2.1]; exact hmn,hs.2.2,fun d h1 h2=>hst d h1 (by rw [hs.2.1] at h2; exact h2),fun t ht=>(by cases ht),hs.2.1⟩
 |a,x :: y :: r,h=>by
  refine ⟨h.1,h.2.1,h.2.2.1,h.2.2.2.1,fun t ht=>?_,qd6.push hs hmn hst h.2.2.2.2.2⟩
  obtain ⟨y',r',e,hc⟩:=ztt s y r
  rw [e] at ht
  simp at ht
  subst ht
  rw [hc]
  exact h.2.2.2.2.1 y (by simp)
def yl0 (h:ql.den):List qc.den:=(vu h).map (vn h)
def qr3 (now:qk.den) (out:List qk.den) (day:Int):List qk.den:=
 if now.1.1=day then out else qft out ((now.1.1,day,()),now.2)
def qku:List qc.den->qk.den->List qk.den->qk.den × List qk.den
 |[],now,out=>(now,out)
 |c :: l,now,out=>qku l (zgr ((c.2.1,now.1.2.1,()),now.2) c) (qr3 now out c.2.1)
def ynt (h:ql.den):qk.den:=((h.2.2.1.1.1,0,()),true,h.2.2.1.2.1,h.2.2.1.2.2.1,0,())
def qdx (h:ql.den):List qk.den:=qr3 (qku (yl0 h) (ynt h) []).1 (qku (yl0 h) (ynt h) []).2 h.2.2.1.1.2.1
noncomputable def zzp:Cx:=cx [] []
theorem qqh:CxOK Tryz.prog zzp:=zb (cs:=[]) (ps:=[]) qv trivial trivial
abbrev jz:Pt:=⟨68,0,⟨[(5,.d i64)],[.x 2 54 ql,.r 2 2 0,.x 3 24 zd,.r 3 3 0]⟩,⟨[],[.x 3 24 zd,.r 3 3 0]⟩,⟨[(4,.d .bool)],[]⟩⟩
def qz6 (x:jz.M.X):Fr jz.Out:=
 Fr.br (decide (x.1.1 < ((List.length x.2.1.2.2.2.1):Int))) (Fr.need (0<=x.1.1/\x.1.1 < ((List.length x.2.1.2.2.2.1):Int)) (Fr.br (decide (((List.length (List.getD x.2.1.2.2.2.1 (Int.toNat x.1.1) qc.dflt).2.2.2.2.1):Int) > 50)) (Fr.val (Rd.back ((false,()),()))) (Fr.val (Rd.next ((IntKind.i64.wrap (x.1.1+1),()),x.2.1,(x.2.2.1.1,()),()))))) (Fr.val (Rd.out ((),(x.2.2.1.1,()),())))
theorem zod:qe Tryz.prog (qo Tryz.f32 0) jz.M jz qz6:=
 qe.of_run qqh (bs:=0) (Λ:=qp) rfl rfl rfl (fun E=>qd _ 0) (fun x=>by kernel_rfl)
abbrev qe2:Type:=qm [] × jc [.x 2 54 ql,.r 2 2 0,.x 3 24 zd,.r 3 3 0]
def xi (e:qc.den) (s:qe2):Fr (qe2 ⊕ jz.R.X):=
 Fr.br (decide (((List.length e.2.2.2.2.1):Int) > 50)) (Fr.val (.inr ((false,()),()))) (Fr.val (.inl ((),s.2.1,(s.2.2.1.1,()),())))
def jm (x:jz.M.X):Int × List qc.den × qe2:=(x.1.1,x.2.1.2.2.2.1,x.1.2,x.2)
def qjd (x:jz.M.X):Prop:=True
def wm (s:qe2):jz.E.X:=((),(s.2.2.1.1,()),())
def xo:qe2:=(dfP _,dfM _)
def qi4:jz.R.X:=(dfP _,dfM _)
theorem zkz:qe Tryz.prog (.loop (qo Tryz.f32 0)) jz.M jz (FL xi jm qjd wm Rd.back xo qi4):=by
 refine qe.list zod xi jm qjd wm Rd.back xo qi4 ?_ ?_
 ·rintro ⟨⟨i,s⟩,m⟩ hg h0 h1 hb e he Q h
  have h0:0<=i:=h0
  have h1:i < (m.1.2.2.2.1.length:Int):=h1
  have hb:(m.1.2.2.2.1.length:Int)<=9223372036854775807:=hb
  have hd:m.1.2.2.2.1.getD i.toNat qc.dflt=e:=zr he
  have hw:=zx h0 h1 hb
  dsimp only [jm,xi,qz6,Fr.satP] at h ⊢
  simp only [hd,hw] at h ⊢
  refine ⟨fun _=>?_,fun hn=>absurd h1 (of_decide_eq_false hn)⟩
  repeat' first
   |exact h
   |exact ⟨h0,h1⟩
   |exact fun _=>⟨h0,h1⟩
   |exact h _ rfl trivial
   |refine ⟨?_,?_⟩
   |(intro (hc:_=true); replace h:=h.1 hc)
   |(intro (hc:_=false); replace h:=h.2 hc)
 ·rintro ⟨⟨i,s⟩,m⟩ hg h1 Q h
  exact ⟨fun hn=>absurd (of_decide_eq_true hn) h1,fun _=>h⟩
def zzo (Γ:Gm):St->Option Tr:=jz.han Γ jz.M (FL xi jm qjd wm Rd.back xo qi4)
def kj (y:jz.M.X):qe2 ⊕ jz.R.X:=goL xi ((jm y).2.1.drop (jm y).1.toNat) (jm y).2.2
def qxe (y:jz.M.X):Prop:=okL xi ((jm y).2.1.drop (jm y).1.toNat) (jm y).2.2
abbrev jb:Pt:=⟨68,2,⟨[(6,.d i64)],[.x 3 24 zd,.r 3 3 0]⟩,⟨[],[]⟩,⟨[(4,.d .bool)],[]⟩⟩
def qxb (x:jb.M.X):Fr jb.Out:=
 Fr.br (decide (x.1.1 < ((List.length x.2.1.1):Int))) (Fr.need (0<=x.1.1/\x.1.1 < ((List.length x.2.1.1):Int)) (Fr.br (bif bif decide (((List.length (List.getD x.2.1.1 (Int.toNat x.1.1) qt.dflt).2.2.1):Int) > 200) then true else decide (((List.length (List.getD x.2.1.1 (Int.toNat x.1.1) qt.dflt).2.2.2.1):Int) > 200) then true else decide (((List.length (List.getD x.2.1.1 (Int.toNat x.1.1) qt.dflt).2.2.2.2.1):Int) > 200)) (Fr.val (Rd.back ((false,()),()))) (Fr.val (Rd.next ((IntKind.i64.wrap (x.1.1+1),()),(x.2.1.1,()),()))))) (Fr.val (Rd.out ((),())))
theorem zl3:qe Tryz.prog (qo Tryz.f32 1) jb.M jb qxb:=
 qe.of_run qqh (bs:=0) (Λ:=qp) rfl rfl rfl (fun E=>qd _ 0) (fun x=>by kernel_rfl)
abbrev qd0:Type:=qm [] × jc [.x 3 24 zd,.r 3 3 0]
def qay (e:qt.den) (s:qd0):Fr (qd0 ⊕ jb.R.X):=
 Fr.br (bif bif decide (((List.length e.2.2.1):Int) > 200) then true else decide (((List.length e.2.2.2.1):Int) > 200) then true else decide (((List.length e.2.2.2.2.1):Int) > 200)) (Fr.val (.inr ((false,()),()))) (Fr.val (.inl ((),(s.2.1.1,()),())))
def xl (x:jb.M.X):Int × List qt.den × qd0:=(x.1.1,x.2.1.1,x.1.2,x.2)
def qhw (x:jb.M.X):Prop:=True
def qn1 (s:qd0):jb.E.X:=((),())
def qpu:qd0:=(dfP _,dfM _)
def qhh:jb.R.X:=(dfP _,dfM _)
theorem zfu:qe Tryz.prog (.loop (qo Tryz.f32 1)) jb.M jb (FL qay xl qhw qn1 Rd.back qpu qhh):=by
 refine qe.list zl3 qay xl qhw qn1 Rd.back qpu qhh ?_ ?_
 ·rintro ⟨⟨i,s⟩,m⟩ hg h0 h1 hb e he Q h
  have h0:0<=i:=h0
  have h1:i < (m.1.1.length:Int):=h1
  have hb:(m.1.1.length:Int)<=9223372036854775807:=hb
  have hd:m.1.1.getD i.toNat qt.dflt=e:=zr he
  have hw:=zx h0 h1 hb
  dsimp only [xl,qay,qxb,Fr.satP] at h ⊢
  simp only [hd,hw] at h ⊢
  refine ⟨fun _=>?_,fun hn=>absurd h1 (of_decide_eq_false hn)⟩
  repeat' first
   |exact h
   |exact ⟨h0,h1⟩
   |exact fun _=>⟨h0,h1⟩
   |exact h _ rfl trivial
   |refine ⟨?_,?_⟩
   |(intro (hc:_=true); replace h:=h.1 hc)
   |(intro (hc:_=false); replace h:=h.2 hc)
 ·rintro ⟨⟨i,s⟩,m⟩ hg h1 Q h
  exact ⟨fun hn=>absurd (of_decide_eq_true hn) h1,fun _=>h⟩
def zu2 (Γ:Gm):St->Option Tr:=jb.han Γ jb.M (FL qay xl qhw qn1 Rd.back qpu qhh)
def qgf (y:jb.M.X):qd0 ⊕ jb.R.X:=goL qay ((xl y).2.1.drop (xl y).1.toNat) (xl y).2.2
def quw (y:jb.M.X):Prop:=okL qay ((xl y).2.1.drop (xl y).1.toNat) (xl y).2.2
def qzo (x:qm [.d ql,.d zd]):Fr (qi [.bool]):=
 Fr.br (bif bif decide (((List.length x.1.2.2.2.1):Int) > 60) then true else decide (((List.length x.2.1.1):Int) > 100) then true else decide (((List.length x.1.2.2.1.2.2.1):Int) > 50)) (Fr.val (false,())) (Fr.need (InL (qjd ((0,()),x.1,(x.2.1.1,()),())) (jm ((0,()),x.1,(x.2.1.1,()),()))) (Fr.need (qxe ((0,()),x.1,(x.2.1.1,()),())) (Fr.br (isL (kj ((0,()),x.1,(x.2.1.1,()),()))) (Fr.need (InL (qhw ((0,()),((wm (qak xo (kj ((0,()),x.1,(x.2.1.1,()),())))).2.1.1,()),())) (xl ((0,()),((wm (qak xo (kj ((0,()),x.1,(x.2.1.1,()),())))).2.1.1,()),()))) (Fr.need (quw ((0,()),((wm (qak xo (kj ((0,()),x.1,(x.2.1.1,()),())))).2.1.1,()),())) (Fr.br (isL (qgf ((0,()),((wm (qak xo (goL xi (List.drop (jm ((0,()),x.1,(x.2.1.1,()),())).1.toNat (jm ((0,()),x.1,(x.2.1.1,()),())).2.1) (jm ((0,()),x.1,(x.2.1.1,()),())).2.2))).2.1.1,()),()))) (Fr.val (true,())) (Fr.val ((jg qhh (qgf ((0,()),((wm (qak xo (goL xi (List.drop (jm ((0,()),x.1,(x.2.1.1,()),())).1.toNat (jm ((0,()),x.1,(x.2.1.1,()),())).2.1) (jm ((0,()),x.1,(x.2.1.1,()),())).2.2))).2.1.1,()),()))).1.1,()))))) (Fr.val ((jg qi4 (kj ((0,()),x.1,(x.2.1.1,()),()))).1.1,())))))
theorem zfq:qa Tryz.prog 32 ⟨[.d ql,.d zd],[.bool],fun xs=>(qzo xs).get,fun xs=>[(qzo xs).ok]⟩:=
 qg qqh (Λ:=(fun k=>if k=0 then zzo zzp.Γ else zu2 zzp.Γ)) (fn:=Tryz.f32) (dfP [.d ql,.d zd]) (by kernel_rfl) (fun c E hc=>zgv hc (by kernel_rfl) (b0:=qo Tryz.f32 0) (b1:=qo Tryz.f32 1) (by kernel_rfl) (by kernel_rfl) (qe.han qqh rfl zkz) (qe.han qqh rfl zfu)) (fun x=>by kernel_rfl)
def quc (c:qc.den):Bool:=decide (c.2.2.2.2.1.length<=50)
def qx5 (v:qt.den):Bool:=decide (v.2.2.1.length<=200)&&(decide (v.2.2.2.1.length<=200)&&decide (v.2.2.2.2.1.length<=200))
def qr6 (h:ql.den) (t:zd.den):Bool:=(decide (h.2.2.2.1.length<=60)&&(decide (t.1.length<=100)&&decide (h.2.2.1.2.2.1.length<=50)))&&(h.2.2.2.1.all quc&&t.1.all qx5)
def zq0:Ct:=⟨[.d ql,.d zd],[.bool],fun x=>(qr6 x.1 x.2.1,()),fun _=>[]⟩
theorem qyf (n:Nat) (k:Nat):decide ((n:Int) > (k:Int)) = !decide (n<=k):=by
 rw [Bool.eq_iff_iff]
 simp only [Bool.not_eq_true',decide_eq_true_eq,decide_eq_false_iff_not]
 omega
theorem yhr (e:qc.den) (s:qe2):(xi e s).get=if quc e=true then .inl s else .inr ((false,()),()):=by
 show (if decide ((e.2.2.2.2.1.length:Int) > (50:Nat))=true then _ else _)=_
 rw [qyf]
 unfold quc
 cases decide (e.2.2.2.2.1.length<=50)<;>rfl
theorem yh7 (e:qt.den) (s:qd0):(qay e s).get=if qx5 e=true then .inl s else .inr ((false,()),()):=by
 show (if (bif bif decide ((e.2.2.1.length:Int) > (200:Nat)) then true else decide ((e.2.2.2.1.length:Int) > (200:Nat)) then true else decide ((e.2.2.2.2.1.length:Int) > (200:Nat)))=true then _ else _)=_
 rw [qyf,qyf,qyf]
 unfold qx5
 cases decide (e.2.2.1.length<=200)<;>cases decide (e.2.2.2.1.length<=200)<;>cases decide (e.2.2.2.2.1.length<=200)<;>rfl
theorem zdx {T σ:Type} (l:List T) (s:σ):ql5 (fun _ s=>s) l s=s:=by
 induction l with
 |nil=>rfl
 |cons e r ih=>exact ih
theorem yml:qa Tryz.prog 32 zq0:=
 conv zfq _ _ (fun w F x vs hr _=>by
  obtain ⟨h,t,_⟩:=x
  obtain ⟨v,vs',rfl,hv,v2,vs2,rfl,hv2,_⟩:=hr
  have hwf:=qs.wf hv.2.2
  have hwf2:=qs.wf hv2.2.2
  have hlen:(h.2.2.2.1.length:Int)<=9223372036854775807:=qm8 hwf.2.2.2.1.1
  have hlen2:(t.1.length:Int)<=9223372036854775807:=qm8 hwf2.1.1
  have hres:=qco (p:=fun e _=>quc e) (f:=fun _ s=>s) yhr h.2.2.2.1 ((),(h,(t,())))
  rw [qoj,zdx] at hres
  have hres':kj ((0,()),(h,(t,())))=if h.2.2.2.1.all quc=true then .inl ((),(h,(t,()))) else .inr ((false,()),()):=hres
  have hres2:=qco (p:=fun e _=>qx5 e) (f:=fun _ s=>s) yh7 t.1 ((),(t,()))
  rw [qoj,zdx] at hres2
  have hres2':qgf ((0,()),(t,()))=if t.1.all qx5=true then .inl ((),(t,())) else .inr ((false,()),()):=hres2
  have ho:∀ s,qxe s:=fun s=>qe9 (step:=xi) (fun e s=>⟨fun _=>trivial,fun _=>trivial⟩) _ _
  have ho1:∀ s,quw s:=fun s=>qe9 (step:=qay) (fun e s=>⟨fun _=>trivial,fun _=>trivial⟩) _ _
  have hcond:(bif bif decide ((h.2.2.2.1.length:Int) > (60:Nat)) then true else decide ((t.1.length:Int) > (100:Nat)) then true else decide ((h.2.2.1.2.2.1.length:Int) > (50:Nat))) = !(decide (h.2.2.2.1.length<=60)&&(decide (t.1.length<=100)&&decide (h.2.2.1.2.2.1.length<=50))):=by
   rw [qyf,qyf,qyf]
   cases decide (h.2.2.2.1.length<=60)<;>cases decide (t.1.length<=100)<;>cases decide (h.2.2.1.2.2.1.length<=50)<;>rfl
  have hin2:isL (kj ((0,()),(h,(t,()))))=true->(wm (qak xo (kj ((0,()),(h,(t,())))))).2.1=t:=by
   rw [hres']
   cases h.2.2.2.1.all quc with
   |true=>exact fun _=>rfl
   |false=>exact fun hh=>(by cases hh)
  have hlen3:isL (kj ((0,()),(h,(t,()))))=true->(((wm (qak xo (kj ((0,()),(h,(t,())))))).2.1.1.length:Int))<=9223372036854775807:=fun hh=>by
   rw [hin2 hh]
   exact hlen2
  refine ⟨⟨fun _=>trivial,fun _=>⟨⟨trivial,Int.le_refl _,Int.natCast_nonneg _,hlen⟩,ho _,fun hh=>⟨⟨trivial,Int.le_refl _,Int.natCast_nonneg _,hlen3 hh⟩,ho1 _,fun _=>trivial,fun _=>trivial⟩,fun _=>trivial⟩⟩,?_⟩
  show (if (bif bif decide ((h.2.2.2.1.length:Int) > (60:Nat)) then true else decide ((t.1.length:Int) > (100:Nat)) then true else decide ((h.2.2.1.2.2.1.length:Int) > (50:Nat)))=true then ((false,()):Bool × Unit) else
   if isL (kj ((0,()),(h,(t,()))))=true then (if isL (qgf ((0,()),((wm (qak xo (kj ((0,()),(h,(t,())))))).2.1,())))=true then (true,()) else ((jg qhh (qgf ((0,()),((wm (qak xo (kj ((0,()),(h,(t,())))))).2.1,())))).1.1,()))
   else ((jg qi4 (kj ((0,()),(h,(t,()))))).1.1,()))=(qr6 h t,())
  rw [hcond]
  unfold qr6
  by_cases hall:h.2.2.2.1.all quc=true
  ·rw [if_pos hall] at hres'
   rw [hin2 (by rw [hres']; rfl),hres',hres2',hall]
   cases (decide (h.2.2.2.1.length<=60)&&(decide (t.1.length<=100)&&decide (h.2.2.1.2.2.1.length<=50)))<;>cases t.1.all qx5<;>rfl
  ·have hall':h.2.2.2.1.all quc=false:=by simpa using hall
   rw [if_neg hall] at hres'
   rw [hres',hall']
   cases (decide (h.2.2.2.1.length<=60)&&(decide (t.1.length<=100)&&decide (h.2.2.1.2.2.1.length<=50)))<;>rfl)
def qks (age:Int):List qw.den->Int->Int
 |[],d=>d
 |b :: r,d=>if b.1 < age then qks age r d else b.2.1
def yfi:Ct:=⟨[.d (.sl qw),.d i64],[i64],fun x=>(qks x.2.1 x.1 10000,()),fun _=>[]⟩
def Fr.way {α:Type}:Fr α->Fr α
 |.br true x _=>Fr.way x
 |.br false _ y=>Fr.way y
 |.need p x=>.need p (Fr.way x)
 |.val v=>.val v
theorem Fr.way_ok {α:Type}:{f:Fr α}->(Fr.way f).ok->f.ok/\f.get=(Fr.way f).get
 |.br true x _,h=>by
  have:=Fr.way_ok (f:=x) h
  exact ⟨⟨fun _=>this.1,fun hb=>(by cases hb)⟩,this.2⟩
 |.br false _ y,h=>by
  have:=Fr.way_ok (f:=y) h
  exact ⟨⟨fun hb=>(by cases hb),fun _=>this.1⟩,this.2⟩
 |.need _ x,h=>by
  have:=Fr.way_ok (f:=x) h.2
  exact ⟨⟨h.1,this.1⟩,this.2⟩
 |.val _,_=>⟨trivial,rfl⟩
theorem Fr.way_eq {α:Type} {f g:Fr α} (h:Fr.way f=g) (hg:g.ok):f.ok/\f.get=g.get:=by
 subst h
 exact Fr.way_ok hg
theorem vt {P:Program} {f:FuncId} {ps:List PT} {rs:List Ty} {fr:qm ps->Fr (qi rs)} (h:qa P f ⟨ps,rs,fun xs=>(fr xs).get,fun xs=>[(fr xs).ok]⟩) (g:qm ps->qi rs) (ok:qm ps->List Prop)
  (hg:∀ w F xs vs,wn P w F ps xs vs->qq (ok xs)->(fr xs).ok/\(fr xs).get=g xs):qa P f ⟨ps,rs,g,ok⟩:=
 conv h g ok hg
noncomputable def yfx (x:qm [.d u64]):Fr (qi [i64]):=(qwr Tryz.prog (cx [] []) qp Tryz.f224 [.d u64] [i64] x).getD (Fr.need False (Fr.val (0,())))
theorem zwv:Fr.way (yfx (10000,()))=Fr.need (¬ (8:Int) < 0) (Fr.need (0<=(39:Int)/\(39:Int) < ((256:Nat):Int)) (Fr.val (14,()))):=by kernel_rfl
def yau:Ct:=⟨[.d u64],[i64],fun _=>(14,()),fun x=>[x.1=10000]⟩
theorem yng:qa Tryz.prog 224 yau:=
 vt (qg (zb (cs:=[]) (ps:=[]) qv trivial trivial) (Λ:=qp) (fn:=Tryz.f224) (fr:=yfx) (ps:=[.d u64]) (rs:=[i64]) (0,()) (by kernel_rfl) (fun c E _=>qd c 0) (fun x=>by kernel_rfl)) _ _
  (fun w F x vs _ hok=>by
   obtain ⟨n,_⟩:=x
   have hn:n=10000:=hok
   subst hn
   exact Fr.way_eq zwv ⟨by decide,⟨by decide,by decide⟩,trivial⟩)
def cLz:Ct:=⟨[.d u64],[i64],fun _=>(50,()),fun x=>[x.1=10000]⟩
theorem yp6:qa Tryz.prog 207 cLz:=
 conv (qg (zb (cs:=[(224,yau)]) (ps:=[]) qv ⟨yng,trivial⟩ trivial) (Λ:=qp) (fn:=Tryz.f207) (fr:=fun x=>Fr.need (x.1=10000) (Fr.val (IntKind.i64.wrap (64 - (yau.f (x.1,())).1),()))) (ps:=[.d u64]) (rs:=[i64]) (0,()) (by kernel_rfl) (fun c E _=>qd c 0) (fun x=>by kernel_rfl)) _ _
  (fun w F x vs _ hok=>⟨⟨hok,trivial⟩,rfl⟩)
abbrev dU:PT:=.d u64
def MD0:LS:=⟨[(2,dU),(8,dU),(9,dU),(10,dU),(11,dU),(13,dU),(14,dU),(15,dU),(16,dU)],[]⟩
def MD2:LS:=⟨[(2,dU),(8,dU),(9,dU),(10,dU),(13,dU),(14,dU),(15,dU),(16,dU),(17,dU),(18,dU)],[]⟩
def zlj:Pt:=⟨135,0,MD0,MD0,⟨[],[]⟩⟩
def zlk:Pt:=⟨135,2,MD2,MD2,⟨[],[]⟩⟩
def more (q yn r u:Int):Bool:=bif decide (q ≥ 4294967296) then true else decide (IntKind.u64.wrap (q * yn) > IntKind.u64.wrap (IntKind.u64.wrap (4294967296 * r)+u))
def fD0 (x:MD0.X):Fr zlj.Out:=
 match x with
 |((y,s,a,b,c,d,e,q,r,_),_)=>Fr.br (more q b r d)
  (Fr.br (decide (IntKind.u64.wrap (r+a) ≥ 4294967296))
   (Fr.val (Rd.out ((y,s,a,b,c,d,e,IntKind.u64.wrap (q - 1),IntKind.u64.wrap (r+a),()),())))
   (Fr.val (Rd.next ((y,s,a,b,c,d,e,IntKind.u64.wrap (q - 1),IntKind.u64.wrap (r+a),()),()))))
  (Fr.val (Rd.out ((y,s,a,b,c,d,e,q,r,()),())))
def fD2 (x:MD2.X):Fr zlk.Out:=
 match x with
 |((y,s,a,b,d,e,q,r,u,v,_),_)=>Fr.br (more v b r e)
  (Fr.br (decide (IntKind.u64.wrap (r+a) ≥ 4294967296))
   (Fr.val (Rd.out ((y,s,a,b,d,e,q,IntKind.u64.wrap (r+a),u,IntKind.u64.wrap (v - 1),()),())))
   (Fr.val (Rd.next ((y,s,a,b,d,e,q,IntKind.u64.wrap (r+a),u,IntKind.u64.wrap (v - 1),()),()))))
  (Fr.val (Rd.out ((y,s,a,b,d,e,q,r,u,v,()),())))
def FD0 (x:MD0.X):Fr zlj.Out:=Fr.need (more x.1.2.2.2.2.2.2.2.1 x.1.2.2.2.1 x.1.2.2.2.2.2.2.2.2.1 x.1.2.2.2.2.2.1=false) (Fr.val (.out x))
def FD2 (x:MD2.X):Fr zlk.Out:=Fr.need (more x.1.2.2.2.2.2.2.2.2.2.1 x.1.2.2.2.1 x.1.2.2.2.2.2.2.2.1 x.1.2.2.2.2.2.1=false) (Fr.val (.out x))
noncomputable def CD:Cx:=cx [(207,cLz)] []
theorem qy0:CxOK Tryz.prog CD:=zb qv ⟨yp6,trivial⟩ trivial
theorem yqd:qe Tryz.prog (qo Tryz.f190 0) MD0 zlj fD0:=qe.of_run qy0 (bs:=0) rfl rfl rfl (fun _=>qd _ 0) (fun x=>by kernel_rfl)
theorem yqe:qe Tryz.prog (qo Tryz.f190 1) MD2 zlk fD2:=qe.of_run qy0 (bs:=0) rfl rfl rfl (fun _=>qd _ 0) (fun x=>by kernel_rfl)
theorem ymf:qe Tryz.prog (.loop (qo Tryz.f190 0)) MD0 zlj FD0:=
 qe.loop (n:=135) (id:=0) yqd (inv:=fun x=>more x.1.2.2.2.2.2.2.2.1 x.1.2.2.2.1 x.1.2.2.2.2.2.2.2.2.1 x.1.2.2.2.2.2.1=false) (μ:=fun _=>0)
  (by
   rintro ⟨⟨y,s,a,b,c,d,e,q,r,_⟩,_⟩ hinv Q hq
   exact ⟨fun h=>(by rw [show more q b r d=false from hinv] at h; cases h),fun _=>hq.2⟩)
  (fun x Q h=>h.1)
theorem ymg:qe Tryz.prog (.loop (qo Tryz.f190 1)) MD2 zlk FD2:=
 qe.loop (n:=135) (id:=2) yqe (inv:=fun x=>more x.1.2.2.2.2.2.2.2.2.2.1 x.1.2.2.2.1 x.1.2.2.2.2.2.2.2.1 x.1.2.2.2.2.2.1=false) (μ:=fun _=>0)
  (by
   rintro ⟨⟨y,s,a,b,d,e,q,r,u,v,_⟩,_⟩ hinv Q hq
   exact ⟨fun h=>(by rw [show more v b r e=false from hinv] at h; cases h),fun _=>hq.2⟩)
  (fun x Q h=>h.1)
noncomputable def yri:Nat->St->Option Tr:=fun k=>if k=0 then zlj.han CD.Γ MD0 FD0 else zlk.han CD.Γ MD2 FD2
abbrev wU (n:Int):Int:=IntKind.u64.wrap n
def km (a:Int):Int:=wU (a * 2 ^ min (wU 50).toNat IntKind.u64.bits)
def qg9 (hi lo:Int):Int:=wU ((BitVec.ofInt IntKind.u64.bits (km hi) ||| BitVec.ofInt IntKind.u64.bits (lo.fdiv (2 ^ min (wU (64 - wU 50)).toNat IntKind.u64.bits))).toNat:Int)
def dQ (u y:Int):Int:=wU (u.tdiv (h32 (km y)))
def dR (u y:Int):Int:=wU (u - wU (dQ u y * h32 (km y)))
def ql2 (hi lo y:Int):Int:=wU (wU (wU (qg9 hi lo * 4294967296)+h32 (km lo)) - wU (dQ (qg9 hi lo) y * km y))
def zjv (hi lo y:Int):Fr (qi [u64,u64]):=
 Fr.need (y=10000) (Fr.need (¬ wU 50 < 0) (Fr.need (¬ (32:Int) < 0) (Fr.need (¬ wU 50 < 0) (Fr.need (¬ wU (64 - wU 50) < 0) (Fr.need (¬ wU 50 < 0) (Fr.need (¬ (32:Int) < 0)
  (Fr.need (h32 (km y) ≠ 0)
   (Fr.need (more (dQ (qg9 hi lo) y) (m32 (km y)) (dR (qg9 hi lo) y) (h32 (km lo))=false)
    (Fr.need (h32 (km y) ≠ 0)
     (Fr.need (more (dQ (ql2 hi lo y) y) (m32 (km y)) (dR (ql2 hi lo y) y) (m32 (km lo))=false)
      (Fr.need (¬ wU 50 < 0)
       (Fr.val (wU (wU (dQ (qg9 hi lo) y * 4294967296)+dQ (ql2 hi lo y) y),
        (wU (wU (wU (ql2 hi lo y * 4294967296)+m32 (km lo)) - wU (dQ (ql2 hi lo y) y * km y))).fdiv (2 ^ min (wU 50).toNat IntKind.u64.bits),())))))))))))))
def qns (x:qm [dU,dU,dU]):Fr (qi [u64,u64]):=
 Fr.br (x.2.2.1==0) (Fr.need False (Fr.val (0,0,())))
  (Fr.br (decide (x.2.2.1<=x.1)) (Fr.need False (Fr.val (0,0,())))
   (Fr.br (x.1==0) (Fr.need (x.2.2.1 ≠ 0) (Fr.need (x.2.2.1 ≠ 0) (Fr.val (IntKind.u64.wrap (x.2.1.tdiv x.2.2.1),x.2.1.tmod x.2.2.1,()))))
    (zjv x.1 x.2.1 x.2.2.1)))
theorem Fr.br_f {α:Type} {b:Bool} {x y:Fr α} {v:α} (hb:b=false) (h:y.ok/\y.get=v):(Fr.br b x y).ok/\(Fr.br b x y).get=v:=by
 subst hb
 exact ⟨⟨fun h=>(by cases h),fun _=>h.1⟩,h.2⟩
theorem Fr.br_t {α:Type} {b:Bool} {x y:Fr α} {v:α} (hb:b=true) (h:x.ok/\x.get=v):(Fr.br b x y).ok/\(Fr.br b x y).get=v:=by
 subst hb
 exact ⟨⟨fun _=>h.1,fun h=>(by cases h)⟩,h.2⟩
theorem Fr.need_ {α:Type} {p:Prop} {x:Fr α} {v:α} (hp:p) (h:x.ok/\x.get=v):(Fr.need p x).ok/\(Fr.need p x).get=v:=⟨⟨hp,h.1⟩,h.2⟩
theorem yhh:qa Tryz.prog 190 ⟨[dU,dU,dU],[u64,u64],fun xs=>(qns xs).get,fun xs=>[(qns xs).ok]⟩:=
 qg qy0 (Λ:=yri) (fn:=Tryz.f190) (fr:=qns) (ps:=[dU,dU,dU]) (rs:=[u64,u64]) (0,0,0,()) (by kernel_rfl)
  (fun c E hc=>zgv hc (by kernel_rfl) (b0:=qo Tryz.f190 0) (b1:=qo Tryz.f190 1) (by kernel_rfl) (by kernel_rfl) (qe.han qy0 rfl ymf) (qe.han qy0 rfl ymg)) (fun x=>by kernel_rfl)
theorem zl4 {a:Int}:km a=wU (a * 1125899906842624):=by
 have e1:wU 50=50:=by decide
 have e2:min (50:Int).toNat IntKind.u64.bits=50:=by decide
 unfold km
 rw [e1,e2]
 rfl
theorem ynz {a b:Int} (h1:0<=a) (h2:0<=b) (h3:b < 1125899906842624) (h4:a * 1125899906842624 < 18446744073709551616) :
  wU ((BitVec.ofInt IntKind.u64.bits (a * 1125899906842624) ||| BitVec.ofInt IntKind.u64.bits b).toNat:Int)=a * 1125899906842624+b:=by
 obtain ⟨m,rfl⟩:∃ m:Nat,a=m:=⟨a.toNat,by omega⟩
 obtain ⟨n,rfl⟩:∃ n:Nat,b=n:=⟨b.toNat,by omega⟩
 have e1:(BitVec.ofInt IntKind.u64.bits ((m:Int) * 1125899906842624)).toNat=m * 1125899906842624:=by
  rw [BitVec.toNat_ofInt]
  show (((m:Int) * 1125899906842624) % ((2 ^ 64:Nat):Int)).toNat=m * 1125899906842624
  omega
 have e2:(BitVec.ofInt IntKind.u64.bits (n:Int)).toNat=n:=by
  rw [BitVec.toNat_ofInt]
  show ((n:Int) % ((2 ^ 64:Nat):Int)).toNat=n
  omega
 have e3:(m * 1125899906842624 ||| n)=m * 1125899906842624+n:=by
  have:=Nat.shiftLeft_add_eq_or_of_lt (i:=50) (b:=n) (by omega) m
  rw [Nat.shiftLeft_eq] at this
  have e:(2:Nat) ^ 50=1125899906842624:=by decide
  rw [e] at this
  exact this.symm
 rw [BitVec.toNat_or,e1,e2,e3]
 show IntKind.u64.wrap _=_
 rw [qdh (by omega)]
 omega
theorem ypf {hi lo q1 q0 un32 un10 un1 un0 r1 un21:Int} (h1:0<=hi/\hi < 10000) (h2:0<=lo/\lo<=18446744073709551615)
  (e32:un32=hi * 1125899906842624+lo / 16384) (e10:un10=lo * 1125899906842624 % 18446744073709551616) (e1:un1=un10 / 4294967296) (e0:un0=un10 % 4294967296)
  (eq1:q1=un32 / 2621440000) (er:r1=un32 - q1 * 2621440000) (e21:un21=r1 * 4294967296+un1) (eq0:q0=un21 / 2621440000) :
  un0=0/\0<=un1/\un1 < 4294967296/\0<=q1/\q1 < 4294967296/\0<=r1/\r1 < 2621440000/\0<=q0/\q0 < 4294967296/\q1 * 4294967296+q0=(hi * 18446744073709551616+lo) / 10000/\(un21 - q0 * 2621440000) * 4294967296 / 1125899906842624=(hi * 18446744073709551616+lo) % 10000:=by
 have a1:un1=(lo % 16384) * 262144:=by omega
 have a0:un0=0:=by omega
 have a2:0<=un1/\un1 < 4294967296:=by omega
 clear e1 e0 e10
 have b1:0<=q1/\q1 < 4294967296:=by omega
 have b2:0<=r1/\r1 < 2621440000:=by omega
 have b3:0<=q0/\q0 < 4294967296:=by omega
 refine ⟨a0,a2.1,a2.2,b1.1,b1.2,b2.1,b2.2,b3.1,b3.2,?_,?_⟩
 ·omega
 ·omega
theorem zpo {q r u:Int} (h1:0<=q/\q < 4294967296):more q 0 r u=false:=by
 unfold more
 have e1:decide (q ≥ 4294967296)=false:=by simp; omega
 rw [e1,Int.mul_zero]
 have e2:IntKind.u64.wrap 0=0:=by decide
 rw [e2]
 have:0<=IntKind.u64.wrap (IntKind.u64.wrap (4294967296 * r)+u):=by
  rw [IntKind.wrap_u64]
  omega
 simp
 omega
theorem dqL {u:Int} (h:0<=u/\u < 18446744073709551616):wU (u.tdiv 2621440000)=u / 2621440000:=by
 rw [Int.tdiv_eq_ediv_of_nonneg h.1]
 exact qdh (by omega)
theorem g1L {q1 q0:Int} (h1:0<=q1/\q1 < 4294967296) (h0:0<=q0/\q0 < 4294967296):wU (wU (q1 * 4294967296)+q0)=q1 * 4294967296+q0:=by
 rw [show wU (q1 * 4294967296)=q1 * 4294967296 from qdh (by omega)]
 exact qdh (by omega)
theorem g2L {u q0:Int} (hq:q0=u / 2621440000) (hu:0<=u/\u < 18446744073709551616):wU (wU (wU (u * 4294967296)+0) - wU (q0 * 11258999068426240000))=(u - q0 * 2621440000) * 4294967296:=by
 unfold wU
 simp only [IntKind.wrap_u64]
 omega
theorem yra {u q1 u1:Int} (h:0<=u - q1 * 2621440000/\u - q1 * 2621440000 < 2621440000) (h1:0<=u1/\u1 < 4294967296):wU (wU (wU (u * 4294967296)+u1) - wU (q1 * 11258999068426240000))=(u - q1 * 2621440000) * 4294967296+u1:=by
 unfold wU
 simp only [IntKind.wrap_u64]
 omega
theorem yry {r u1:Int} (h:0<=r/\r < 2621440000) (h1:0<=u1/\u1 < 4294967296):0<=r * 4294967296+u1/\r * 4294967296+u1 < 18446744073709551616:=by omega
theorem yrz {hi lo:Int} (h1:0<=hi/\hi < 10000) (h2:0<=lo/\lo<=18446744073709551615):0<=hi * 1125899906842624+lo / 16384/\hi * 1125899906842624+lo / 16384 < 18446744073709551616:=by omega
theorem zrs {hi lo:Int} (h0:hi ≠ 0) (h1:0<=hi/\hi < 10000) (h2:0<=lo/\lo<=18446744073709551615) :
  (qns (hi,lo,10000,())).ok/\(qns (hi,lo,10000,())).get=((hi * 18446744073709551616+lo) / 10000,(hi * 18446744073709551616+lo) % 10000,()):=by
 have ey:km 10000=11258999068426240000:=by decide
 have ey1:h32 (km 10000)=2621440000:=by decide
 have ey0:m32 (km 10000)=0:=by decide
 have es:km hi=hi * 1125899906842624:=by rw [zl4]; exact qdh (by omega)
 have eu:qg9 hi lo=hi * 1125899906842624+lo / 16384:=by
  unfold qg9
  have e1:lo.fdiv (2 ^ min (wU (64 - wU 50)).toNat IntKind.u64.bits)=lo / 16384:=by
   have:(2:Int) ^ min (wU (64 - wU 50)).toNat IntKind.u64.bits=16384:=by decide
   rw [this,Int.fdiv_eq_ediv_of_nonneg _ (by decide)]
  rw [e1,es]
  exact ynz (by omega) (by omega) (by omega) (by omega)
 have el:km lo=lo * 1125899906842624 % 18446744073709551616:=by rw [zl4]; exact IntKind.wrap_u64 _
 have hs:0<=km lo/\km lo<=18446744073709551615:=by rw [el]; omega
 have eU1:h32 (km lo)=km lo / 4294967296:=zw6
 have eU0:m32 (km lo)=km lo % 4294967296:=zal hs
 have eq1:dQ (qg9 hi lo) 10000=qg9 hi lo / 2621440000:=by
  unfold dQ
  rw [ey1,eu]
  exact dqL (yrz h1 h2)
 obtain ⟨k0,k1,k2,k3,k4,k5,k6,k7,k8,k9,k10⟩:=ypf (q1:=dQ (qg9 hi lo) 10000) (un32:=qg9 hi lo) (un10:=km lo) (un1:=h32 (km lo)) (un0:=m32 (km lo)) (r1:=qg9 hi lo - dQ (qg9 hi lo) 10000 * 2621440000) h1 h2 eu el eU1 eU0 eq1 rfl rfl rfl
 have e21:ql2 hi lo 10000=(qg9 hi lo - dQ (qg9 hi lo) 10000 * 2621440000) * 4294967296+h32 (km lo):=by
  unfold ql2
  rw [ey]
  exact yra ⟨k5,k6⟩ ⟨k1,k2⟩
 have b21:=yry ⟨k5,k6⟩ ⟨k1,k2⟩
 rw [← e21] at k7 k8 k9 k10 b21
 have eq0:dQ (ql2 hi lo 10000) 10000=ql2 hi lo 10000 / 2621440000:=by
  unfold dQ
  rw [ey1]
  exact dqL b21
 rw [← eq0] at k7 k8 k9 k10
 have g1:wU (wU (dQ (qg9 hi lo) 10000 * 4294967296)+dQ (ql2 hi lo 10000) 10000)=(hi * 18446744073709551616+lo) / 10000:=by
  rw [← k9]
  exact g1L ⟨k3,k4⟩ ⟨k7,k8⟩
 have g2:(wU (wU (wU (ql2 hi lo 10000 * 4294967296)+m32 (km lo)) - wU (dQ (ql2 hi lo 10000) 10000 * km 10000))).fdiv (2 ^ min (wU 50).toNat IntKind.u64.bits)=(hi * 18446744073709551616+lo) % 10000:=by
  have e50:(2:Int) ^ min (wU 50).toNat IntKind.u64.bits=1125899906842624:=by decide
  rw [e50,ey,k0,Int.fdiv_eq_ediv_of_nonneg _ (by decide),← k10,g2L eq0 b21]
 have hge:¬ (10000:Int)<=hi:=by omega
 have h0':(hi==0)=false:=by simpa using h0
 refine Fr.br_f rfl (Fr.br_f (decide_eq_false hge) (Fr.br_f h0' ?_))
 show (zjv hi lo 10000).ok/\(zjv hi lo 10000).get=_
 refine Fr.need_ rfl (Fr.need_ (by decide) (Fr.need_ (by decide) (Fr.need_ (by decide) (Fr.need_ (by decide) (Fr.need_ (by decide) (Fr.need_ (by decide) (Fr.need_ ?_ (Fr.need_ ?_ (Fr.need_ ?_ (Fr.need_ ?_ (Fr.need_ (by decide) ⟨trivial,?_⟩)))))))))))
 ·rw [ey1]; decide
 ·rw [ey0]; exact zpo ⟨k3,k4⟩
 ·rw [ey1]; decide
 ·rw [ey0]; exact zpo ⟨k7,k8⟩
 ·exact Prod.ext g1 (Prod.ext g2 rfl)
def zgi:Ct:=⟨[dU,dU,dU],[u64,u64],fun x=>((x.1 * 18446744073709551616+x.2.1) / x.2.2.1,(x.1 * 18446744073709551616+x.2.1) % x.2.2.1,()),fun x=>[(x.1=0/\0 < x.2.2.1) ∨ (x.2.2.1=10000/\x.1 < 10000)]⟩
theorem ymd {lo y:Int} (b2:0<=lo/\lo<=18446744073709551615) (hy:0 < y):(qns (0,lo,y,())).ok/\(qns (0,lo,y,())).get=((0 * 18446744073709551616+lo) / y,(0 * 18446744073709551616+lo) % y,()):=by
 rw [Int.zero_mul,Int.zero_add]
 have e1:(y==0)=false:=by simp; omega
 have e2:¬ y<=(0:Int):=by omega
 have e3:y ≠ 0:=by omega
 refine Fr.br_f e1 (Fr.br_f (decide_eq_false e2) (Fr.br_t rfl (Fr.need_ e3 (Fr.need_ e3 ⟨trivial,?_⟩))))
 exact Prod.ext (IntWalk.u64_quo lo y ⟨b2.1,b2.2,by omega⟩) (Prod.ext (IntWalk.rem_in lo y b2.1) rfl)
theorem yhg : qa Tryz.prog 190 zgi :=
  vt yhh _ _ (fun w F x vs hr hok => by
    obtain ⟨hi, lo, y, _⟩ := x
    obtain ⟨v1, vs1, rfl, h1, v2, vs2, rfl, h2, v3, vs3, rfl, h3, _⟩ := hr
    have b1 : 0 <= hi /\ hi <= 18446744073709551615 := qvr h1
    have b2 : 0 <= lo /\ lo <= 18446744073709551615 := qvr h2
    have hok' : (hi = 0 /\ 0 < y) ∨ (y = 10000 /\ hi < 10000) := hok
    have hcase : (hi = 0 /\ 0 < y) ∨ (hi ≠ 0 /\ y = 10000 /\ hi < 10000) := by
      clear hok
      by_cases hz : hi = 0
      · exact .inl ⟨hz, by rcases hok' with h | h
                           · exact h.2
                           · rw [h.1]; decide⟩
      · rcases hok' with h | h
        · exact absurd h.1 hz
        · exact .inr ⟨hz, h⟩
    rcases hcase with ⟨rfl, hy⟩ | ⟨h0, rfl, hlt⟩
    · exact ymd b2 hy
    · exact zrs h0 ⟨b1.1, hlt⟩ b2)
def zp6:Code->Code
 |.seq _ (.scope c)=>c
 |_=>.skip
def zw7:Code->Code
 |.seq a _=>a
 |_=>.skip
noncomputable def zgb:Code:=(Tryz.f161.body.map zp6).getD .skip
noncomputable def yfd:Code:=(Tryz.f161.body.map zw7).getD .skip
noncomputable def yfe:Code:=(findLabel zgb 0).getD .skip
def MBd:LS:=⟨[(0,.d (.sl qw)),(1,.d i64)],[]⟩
def qys:Pt:=⟨20,0,MBd,⟨[],[]⟩,⟨[(4,.d i64)],[]⟩⟩
noncomputable def CB0:Cx:=cx [] []
theorem qyz:CxOK Tryz.prog CB0:=zb (cs:=[]) (ps:=[]) qv trivial trivial
def fBd (x:MBd.X):Fr qys.Out:=
 match x with
 |((l,a,_),_)=>Fr.br ((l.length:Int)==0) (Fr.val (Rd.back ((10000,()),())))
  (Fr.need (0<=(0:Int)/\(0:Int) < l.length)
   (Fr.br (decide ((l.getD (Int.toNat 0) qw.dflt).1 < a))
    (Fr.need (0<=(some (1:Int)).getD 0/\(some (1:Int)).getD 0<=(none:Option Int).getD l.length/\(none:Option Int).getD l.length<=l.length)
     (Fr.val (Rd.next ((List.take ((none:Option Int).getD l.length - (some (1:Int)).getD 0).toNat (List.drop ((some (1:Int)).getD 0).toNat l),a,()),()))))
    (Fr.need (0<=(0:Int)/\(0:Int) < l.length) (Fr.val (Rd.back (((l.getD (Int.toNat 0) qw.dflt).2.1,()),()))))))
def zzz (x:MBd.X):Fr qys.Out:=Fr.val (.back ((qks x.1.2.1 x.1.1 10000,()),()))
theorem yqa:qch Tryz.prog 0 zgb MBd qys fBd:=qch.of_run qyz (bs:=0) rfl rfl rfl (fun _=>qd _ 0) (fun x=>by kernel_rfl)
theorem yqb:qch Tryz.prog 0 yfe MBd qys fBd:=qch.of_run qyz (bs:=0) rfl rfl rfl (fun _=>qd _ 0) (fun x=>by kernel_rfl)
theorem yg3 (l:List qw.den) (a:Int) (Q:qys.Out->Prop) (hq:Q (.back ((qks a l 10000,()),()))) :
  (fBd ((l,a,()),())).satP fun
   |.next x'=>True/\x'.1.1.length < l.length/\(zzz x').satP Q
   |.out y=>Q (.out y)
   |.back z=>Q (.back z)
   |.pan p=>Q (.pan p):=by
 cases l with
 |nil=>exact ⟨fun _=>hq,fun h=>by cases h⟩
 |cons b r=>
  have h0:(0:Int) < ((b :: r).length:Int):=by simp only [List.length_cons]; omega
  have h1:(((b :: r).length:Int)==0)=false:=by simp; omega
  refine ⟨fun h=>(by rw [h1] at h; cases h),fun _=>⟨⟨Int.le_refl 0,h0⟩,fun h=>⟨⟨by decide,?_,Int.le_refl _⟩,trivial,?_,?_⟩,fun h=>⟨⟨Int.le_refl 0,h0⟩,?_⟩⟩⟩
  ·show (1:Int)<=((b :: r).length:Int)
   omega
  ·show (List.take (((b :: r).length:Int) - 1).toNat r).length < (b :: r).length
   rw [List.length_take]
   simp only [List.length_cons]
   omega
  ·show Q (.back ((qks a (List.take (((b :: r).length:Int) - 1).toNat r) 10000,()),()))
   have e:List.take (((b :: r).length:Int) - 1).toNat r=r:=List.take_of_length_le (by simp)
   have hc:b.1 < a:=of_decide_eq_true h
   rw [e]
   have:qks a (b :: r) 10000=qks a r 10000:=if_pos hc
   rw [← this]
   exact hq
  ·have hc:¬ b.1 < a:=of_decide_eq_false h
   have:qks a (b :: r) 10000=b.2.1:=if_neg hc
   rw [this] at hq
   exact hq
theorem ypd:qe Tryz.prog (.scope zgb) MBd qys zzz:=
 qch.scope (n:=20) (id:=0) (N:=MBd) (rest:=yfe) (by kernel_rfl) yqa yqb (inv:=fun _=>True) (μ:=fun x=>x.1.1.length)
  (by
   rintro ⟨⟨l,a,_⟩,_⟩ _ Q hq
   exact yg3 l a Q hq)
  (fun _ _ _=>trivial)
theorem yg5:qa Tryz.prog 161 yfi:=
 vt (zki (run:=qtc (yy Tryz.prog CB0 0 qp yfd 0) (qys.han CB0.Γ MBd zzz)) (fn:=Tryz.f161) (c:=.seq yfd (.scope zgb)) (ps:=[.d (.sl qw),.d i64]) (rs:=[i64])
  (fr:=fun x=>Fr.val (qks x.2.1 x.1 10000,())) ([],0,()) (by kernel_rfl) (by kernel_rfl)
  (fun E=>qlz (qif qyz (qd _ 0)) (qe.run qyz rfl ypd)) (fun x=>by kernel_rfl)) _ _ (fun _ _ _ _ _ _=>⟨trivial,rfl⟩)
def zap:qt.den:=(0,(0,0,0,0,()),[],[],[],0,())
def ym (day:Int):List qt.den->qt.den × Int
 |[]=>(zap,7)
 |v :: r=>if v.1<=day then (v,0) else ym day r
def qq4 (T:Ty) (n:Nat) (x:qm [.d (.sl T)]):Fr (qi [.sl T]):=
 Fr.need (x.1=[] ->
   (Fr.br true (Fr.val (([]:List T.den),())) (Fr.need (([]:List T.den).length+x.1.length<=maxLen/\(([]:List T.den).length+x.1.length) * n<=140737488355328) (Fr.val (([]:List T.den)++x.1,())))).ok /\
   (Fr.br true (Fr.val (([]:List T.den),())) (Fr.need (([]:List T.den).length+x.1.length<=maxLen/\(([]:List T.den).length+x.1.length) * n<=140737488355328) (Fr.val (([]:List T.den)++x.1,())))).get =
    (Fr.br false (Fr.val (([]:List T.den),())) (Fr.need (([]:List T.den).length+x.1.length<=maxLen/\(([]:List T.den).length+x.1.length) * n<=140737488355328) (Fr.val (([]:List T.den)++x.1,())))).get)
  (Fr.br false (Fr.val (([]:List T.den),())) (Fr.need (([]:List T.den).length+x.1.length<=maxLen/\(([]:List T.den).length+x.1.length) * n<=140737488355328) (Fr.val (([]:List T.den)++x.1,()))))
def qeb (T:Ty):Ct:=⟨[.d (.sl T)],[.sl T],fun x=>(x.1,()),fun x=>[x.1.length<=1000000]⟩
theorem qxy {T:Ty} {n:Nat} (hn:n<=1000) {l:List T.den} (hl:l.length<=1000000):(qq4 T n (l,())).ok/\(qq4 T n (l,())).get=(l,()):=by
 have h1:([]:List T.den).length+l.length<=maxLen/\(([]:List T.den).length+l.length) * n<=140737488355328:=by
  refine ⟨by simp only [List.length_nil]; unfold maxLen; omega,?_⟩
  have:(([]:List T.den).length+l.length) * n<=1000000 * 1000:=Nat.mul_le_mul (by simp only [List.length_nil]; omega) hn
  omega
 refine Fr.need_ (fun h=>?_) (Fr.br_f rfl (Fr.need_ h1 ⟨trivial,rfl⟩))
 subst h
 exact ⟨⟨fun _=>trivial,fun h=>by cases h⟩,rfl⟩
noncomputable def yko:Cx:=cx [] []
theorem qj0:CxOK Tryz.prog yko:=zb (cs:=[]) (ps:=[]) qv trivial trivial
theorem zvv:qa Tryz.prog 155 (qeb qw):=
 vt (qg qj0 (Λ:=qp) (fn:=Tryz.f155) (fr:=qq4 qw 16) (ps:=[.d (.sl qw)]) (rs:=[.sl qw]) ([],()) (by kernel_rfl) (fun c E _=>qd c 0) (fun x=>by kernel_rfl)) _ _
  (fun _ _ x _ _ hok=>qxy (by decide) hok)
theorem zvw:qa Tryz.prog 156 (qeb i64):=
 vt (qg qj0 (Λ:=qp) (fn:=Tryz.f156) (fr:=qq4 i64 8) (ps:=[.d (.sl i64)]) (rs:=[.sl i64]) ([],()) (by kernel_rfl) (fun c E _=>qd c 0) (fun x=>by kernel_rfl)) _ _
  (fun _ _ x _ _ hok=>qxy (by decide) hok)
theorem qld:qa Tryz.prog 70 (qeb qb):=
 vt (qg qj0 (Λ:=qp) (fn:=Tryz.f70) (fr:=qq4 qb 40) (ps:=[.d (.sl qb)]) (rs:=[.sl qb]) ([],()) (by kernel_rfl) (fun c E _=>qd c 0) (fun x=>by kernel_rfl)) _ _
  (fun _ _ x _ _ hok=>qxy (by decide) hok)
def qfp (g:Int->Bool):List Int->Int->Option Int
 |[],_=>none
 |x :: r,i=>if g x=true then some i else qfp g r (i+1)
abbrev fnB:PT:=.fn [i64] [.bool]
def MIx:LS:=⟨[(0,.d jd),(1,fnB),(7,.d i64),(8,.d i64)],[]⟩
def qyt:Pt:=⟨19,0,MIx,⟨[],[]⟩,⟨[(4,.d i64)],[]⟩⟩
def fIx (x:MIx.X):Fr qyt.Out:=
 match x with
 |((l,g,n,i,_),_)=>Fr.br (decide (i < n))
  (Fr.need (0<=i/\i < l.length)
   (Fr.br (g (l.getD i.toNat i64.dflt,())).1 (Fr.val (Rd.back ((i,()),())))
    (Fr.val (Rd.next ((l,g,n,IntKind.i64.wrap (i+1),()),())))))
  (Fr.val (Rd.out ((),())))
def qxn (l:List Int) (n i:Int):Prop:=0<=i/\i<=n/\n=l.length/\n<=9223372036854775807
def FIx (x:MIx.X):Fr qyt.Out:=
 Fr.need (qxn x.1.1 x.1.2.2.1 x.1.2.2.2.1) (Fr.br (qfp (fun n=>(x.1.2.1 (n,())).1) (x.1.1.drop x.1.2.2.2.1.toNat) x.1.2.2.2.1).isSome
   (Fr.val (.back (((qfp (fun n=>(x.1.2.1 (n,())).1) (x.1.1.drop x.1.2.2.2.1.toNat) x.1.2.2.2.1).getD (-1),()),()))) (Fr.val (.out ((),()))))
theorem yqg:qe Tryz.prog (qo Tryz.f225 0) MIx qyt fIx:=qe.of_run qj0 (bs:=0) rfl rfl rfl (fun _=>qd _ 0) (fun x=>by kernel_rfl)
theorem yps (l:List Int) (g:qi [i64]->qi [.bool]) (n i:Int) (hinv:qxn l n i) (Q:qyt.Out->Prop) (hq:(Fr.br (qfp (fun n=>(g (n,())).1) (l.drop i.toNat) i).isSome (Fr.val (Rd.back (((qfp (fun n=>(g (n,())).1) (l.drop i.toNat) i).getD (-1),()),()))) (Fr.val (Rd.out ((),())))  : Fr qyt.Out).satP Q) :
  (fIx ((l,g,n,i,()),())).satP fun
   |.next x'=>qxn x'.1.1 x'.1.2.2.1 x'.1.2.2.2.1/\(x'.1.2.2.1 - x'.1.2.2.2.1).toNat < (n - i).toNat/\(FIx x').satP Q
   |.out y=>Q (.out y)
   |.back z=>Q (.back z)
   |.pan p=>Q (.pan p):=by
 obtain ⟨h1,h2,h3,h4⟩:=hinv
 subst h3
 refine ⟨fun hi=>?_,fun hi=>?_⟩
 ·have hi':i < (l.length:Int):=of_decide_eq_true hi
  obtain ⟨k,rfl⟩:∃ k:Nat,i=k:=⟨i.toNat,by omega⟩
  have hl:k < l.length:=by omega
  have g1:l.getD (k:Int).toNat i64.dflt=l[k]:=by
   rw [show (k:Int).toNat=k by omega,List.getD_eq_getElem?_getD,List.getElem?_eq_getElem hl]; rfl
  have hw:IntKind.i64.wrap ((k:Int)+1)=k+1:=IntWalk.i64_in _ (by omega)
  have hd:l.drop (k:Int).toNat=l[k] :: l.drop (k+1):=by
   rw [show (k:Int).toNat=k by omega]
   exact (List.drop_eq_getElem_cons hl)
  rw [hd] at hq
  dsimp only [fIx,Fr.satP]
  rw [g1,hw]
  refine ⟨⟨by omega,by omega⟩,fun hb=>?_,fun hb=>?_⟩
  ·have:qfp (fun n=>(g (n,())).1) (l[k] :: l.drop (k+1)) k=some (k:Int):=if_pos hb
   rw [this] at hq
   exact hq.1 rfl
  ·have hb':¬ (g (l[k],())).1=true:=by rw [hb]; decide
   have:qfp (fun n=>(g (n,())).1) (l[k] :: l.drop (k+1)) k=qfp (fun n=>(g (n,())).1) (l.drop (k+1)) (k+1):=if_neg hb'
   rw [this] at hq
   have hI:qxn l l.length ((k:Int)+1):=⟨by omega,by omega,rfl,h4⟩
   refine ⟨hI,by omega,hI,?_⟩
   rw [show ((k:Int)+1).toNat=k+1 by omega]
   exact hq
 ·have hi':¬ i < (l.length:Int):=of_decide_eq_false hi
  have e:l.drop i.toNat=[]:=List.drop_eq_nil_of_le (by omega)
  rw [e] at hq
  exact hq.2 rfl
theorem ynj:qe Tryz.prog (.loop (qo Tryz.f225 0)) MIx qyt FIx:=by
 refine qe.loop (n:=19) (id:=0) yqg (inv:=fun x=>qxn x.1.1 x.1.2.2.1 x.1.2.2.2.1) (μ:=fun x=>(x.1.2.2.1 - x.1.2.2.2.1).toNat) ?_ (fun x Q h=>h.1)
 rintro ⟨⟨l,g,n,i,_⟩,_⟩ hinv Q hq
 exact yps l g n i hinv Q hq.2
def yat:Ct:=⟨[.d jd,fnB],[i64],fun x=>((qfp (fun n=>(x.2.1 (n,())).1) x.1 0).getD (-1),()),fun _=>[]⟩
theorem ymu:qa Tryz.prog 225 yat:=
 vt (qg qj0 (Λ:=fun _=>qyt.han yko.Γ MIx FIx) (fn:=Tryz.f225) (ps:=[.d jd,fnB]) (rs:=[i64])
  (fr:=fun x=>Fr.need (qxn x.1 x.1.length 0) (Fr.br (qfp (fun n=>(x.2.1 (n,())).1) x.1 0).isSome (Fr.val ((qfp (fun n=>(x.2.1 (n,())).1) x.1 0).getD (-1),())) (Fr.val (-1,())))) ([],fun _=>(false,()),()) (by kernel_rfl)
  (fun c E hc=>yz hc (by kernel_rfl) (b:=qo Tryz.f225 0) (by kernel_rfl) (qe.han qj0 rfl ynj)) (fun x=>by kernel_rfl)) _ _ (fun w F x vs hr _=>by
  obtain ⟨l,g,_⟩:=x
  obtain ⟨v,vs',rfl,hv,_⟩:=hr
  have hlen:(l.length:Int)<=9223372036854775807:=qcg hv
  have hI:qxn l l.length 0:=⟨by omega,by omega,rfl,hlen⟩
  refine Fr.need_ hI ?_
  cases hf:qfp (fun n=>(g (n,())).1) l 0 with
  |some k=>exact Fr.br_t rfl ⟨trivial,rfl⟩
  |none=>exact Fr.br_f rfl ⟨trivial,rfl⟩)
theorem qzt (g:Int->Bool):(l:List Int)->(i:Int)->0<=i->decide ((qfp g l i).getD (-1) ≥ 0)=l.any g
 |[],i,_=>rfl
 |x :: r,i,h=>by
  unfold qfp
  simp only [List.any_cons]
  split
  ·rename_i hg
   rw [hg]
   simpa using h
  ·rename_i hg
   rw [qzt g r (i+1) (by omega)]
   simp only [Bool.not_eq_true] at hg
   rw [hg]
   rfl
def yam:Ct:=⟨[.d jd,fnB],[.bool],fun x=>(x.1.any fun n=>(x.2.1 (n,())).1,()),fun _=>[]⟩
noncomputable def yo2:Cx:=cx [(225,yat)] []
theorem zzq:CxOK Tryz.prog yo2:=zb qv ⟨ymu,trivial⟩ trivial
theorem yll:qa Tryz.prog 208 yam:=
 vt (qg zzq (Λ:=qp) (fn:=Tryz.f208) (fr:=fun x=>Fr.val (decide ((yat.f (x.1,x.2.1,())).1 ≥ 0),())) (ps:=[.d jd,fnB]) (rs:=[.bool]) ([],fun _=>(false,()),()) (by kernel_rfl) (fun c E _=>qd c 0) (fun x=>by kernel_rfl)) _ _
  (fun _ _ x _ _ _=>by
   obtain ⟨l,g,_⟩:=x
   exact ⟨trivial,Prod.ext (qzt (fun n=>(g (n,())).1) l 0 (Int.le_refl 0)) rfl⟩)
def qzh (n:Int):Bool:=bif decide (n < 0) then true else decide (n > 100000)
def zb1:Ct:=⟨[.d i64],[.bool],fun x=>(qzh x.1,()),fun _=>[]⟩
theorem zwl:qa Tryz.prog 209 zb1:=
 vt (qg qj0 (Λ:=qp) (fn:=Tryz.f209) (fr:=fun x=>Fr.val (qzh x.1,())) (ps:=[.d i64]) (rs:=[.bool]) (0,()) (by kernel_rfl) (fun c E _=>qd c 0) (fun x=>by kernel_rfl)) _ _ (fun _ _ _ _ _ _=>⟨trivial,rfl⟩)
theorem yhp (l:List Int):(!l.any qzh)=wv l:=by
 unfold wv
 rw [List.not_any_eq_all_not]
 congr 1
 funext n
 unfold qzh
 rw [Bool.eq_iff_iff]
 by_cases h:n < 0
 ·simp [h]; omega
 ·simp [h]; omega
noncomputable def yo3:Cx:=cx [(208,yam),(209,zb1)] []
theorem zzr:CxOK Tryz.prog yo3:=zb qv ⟨yll,zwl,trivial⟩ trivial
theorem yhq:qa Tryz.prog 191 qh4:=
 vt (qg zzr (Λ:=qp) (fn:=Tryz.f191) (fr:=fun x=>Fr.need (∀ (y:qi [i64]),WfL [i64] y->True) (Fr.val (!(yam.f (x.1,fun y=>zb1.f (y.1,()),())).1,()))) (ps:=[.d jd]) (rs:=[.bool]) ([],()) (by kernel_rfl) (fun c E _=>qd c 0) (fun x=>by kernel_rfl)) _ _
  (fun _ _ x _ _ _=>by
   obtain ⟨l,_⟩:=x
   exact ⟨⟨fun _ _=>trivial,trivial⟩,Prod.ext (yhp l) rfl⟩)
def qqe (v:qt.den):Bool:=
 decide (1<=v.1/\v.1<=292194/\0<=v.2.2.2.2.2.1/\v.2.2.2.2.2.1<=1000000000000000/\v.2.2.1.length<=100/\1<=v.2.2.2.1.length/\v.2.2.2.1.length<=100/\v.2.2.2.2.1.length=8) &&
  (wv [v.2.1.1,v.2.1.2.1,v.2.1.2.2.1,v.2.1.2.2.2.1]&&(wv v.2.2.2.1&&(wv v.2.2.2.2.1&&qnf v.2.2.1)))
def zq7:Ct:=⟨[.d qt],[.bool],fun x=>(qqe x.1,()),fun _=>[]⟩
noncomputable def yo4:Cx:=cx [(191,qh4),(192,qql),(155,qeb qw),(156,qeb i64)] []
theorem zhf:CxOK Tryz.prog yo4:=zb qv ⟨yhq,zhu,zvv,zvw,trivial⟩ trivial
def zmq (a b:Int):Bool:=bif bif bif decide (a < 1) then true else decide (a > 292194) then true else decide (b < 0) then true else decide (b > 1000000000000000)
def zmr (n z p:Nat):Bool:=bif bif bif decide ((n:Int) > 100) then true else decide ((z:Int) < 1) then true else decide ((z:Int) > 100) then true else (p:Int) != 8
def zgu (x:qm [.d qt]):Fr (qi [.bool]):=
 Fr.br (zmq x.1.1 x.1.2.2.2.2.2.1) (Fr.val (false,()))
  (Fr.br (zmr x.1.2.2.1.length x.1.2.2.2.1.length x.1.2.2.2.2.1.length) (Fr.val (false,()))
   (Fr.val (bif bif bif (qh4.f ([x.1.2.1.1,x.1.2.1.2.1,x.1.2.1.2.2.1,x.1.2.1.2.2.2.1],())).1 then (qh4.f (x.1.2.2.2.1,())).1 else false then (qh4.f (x.1.2.2.2.2.1,())).1 else false then (qql.f (x.1.2.2.1,())).1 else false,())))
theorem ykd (a b:Int) (n z p:Nat):(!(zmq a b || zmr n z p))=decide (1<=a/\a<=292194/\0<=b/\b<=1000000000000000/\n<=100/\1<=z/\z<=100/\p=8):=by
 have e1:zmq a b=decide (a < 1 ∨ a > 292194 ∨ b < 0 ∨ b > 1000000000000000):=by
  unfold zmq
  simp only [cond_eq_ite,Bool.decide_or]
  cases decide (a < 1)<;>cases decide (a > 292194)<;>cases decide (b < 0)<;>simp
 have e2:zmr n z p=decide ((n:Int) > 100 ∨ (z:Int) < 1 ∨ (z:Int) > 100 ∨ (p:Int) ≠ 8):=by
  unfold zmr
  simp only [cond_eq_ite,Bool.decide_or]
  cases decide ((n:Int) > 100)<;>cases decide ((z:Int) < 1)<;>cases decide ((z:Int) > 100)<;>simp [bne,Bool.beq_eq_decide_eq]
 rw [e1,e2,Bool.eq_iff_iff]
 simp only [Bool.not_eq_true',Bool.or_eq_false_iff,decide_eq_false_iff_not,decide_eq_true_eq]
 omega
theorem yj6:qa Tryz.prog 159 zq7:=
 vt (qg zhf (Λ:=qp) (fn:=Tryz.f159) (fr:=zgu) (ps:=[.d qt]) (rs:=[.bool]) (qt.dflt,()) (by kernel_rfl) (fun c E _=>qd c 0) (fun x=>by kernel_rfl)) _ _
  (fun _ _ x _ _ _=>by
   obtain ⟨v,_⟩:=x
   show (zgu (v,())).ok/\(zgu (v,())).get=(qqe v,())
   unfold qqe
   rw [← ykd]
   unfold zgu
   cases h1:zmq v.1 v.2.2.2.2.2.1 with
   |true=>exact Fr.br_t rfl ⟨trivial,rfl⟩
   |false=>
    refine Fr.br_f rfl ?_
    cases h2:zmr v.2.2.1.length v.2.2.2.1.length v.2.2.2.2.1.length with
    |true=>exact Fr.br_t rfl ⟨trivial,rfl⟩
    |false=>
     refine Fr.br_f rfl ⟨trivial,Prod.ext ?_ rfl⟩
     show (bif bif bif wv _ then wv _ else false then wv _ else false then qnf _ else false)=_
     cases wv [v.2.1.1,v.2.1.2.1,v.2.1.2.2.1,v.2.1.2.2.2.1]<;>cases wv v.2.2.2.1<;>cases wv v.2.2.2.2.1<;>rfl)
def zmt (v:qt.den):Prop:=v.2.2.1.length<=1000000/\v.2.2.2.1.length<=1000000/\v.2.2.2.2.1.length<=1000000
def yq9:Ct:=⟨[.d qt],[qt],fun x=>(x.1,()),fun x=>[zmt x.1]⟩
theorem yn1:qa Tryz.prog 113 yq9:=
 vt (qg zhf (Λ:=qp) (fn:=Tryz.f113) (fr:=fun x=>Fr.need (x.1.2.2.1.length<=1000000) (Fr.need (x.1.2.2.2.1.length<=1000000) (Fr.need (x.1.2.2.2.2.1.length<=1000000) (Fr.val (x.1,()))))) (ps:=[.d qt]) (rs:=[qt]) (qt.dflt,()) (by kernel_rfl) (fun c E _=>qd c 0) (fun x=>by kernel_rfl)) _ _
  (fun _ _ x _ _ hok=>⟨⟨hok.1,hok.2.1,hok.2.2,trivial⟩,rfl⟩)
end Go.Proofs.YtgieagiaagoogaaGreat
