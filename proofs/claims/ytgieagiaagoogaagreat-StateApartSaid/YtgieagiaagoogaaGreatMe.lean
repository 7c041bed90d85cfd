/-
  Parts of the proof, one behind the other: I3, I4, I5, I6, I7, I8, H2, H3, H4, H5, H6, H7, H8, H9, I9, I10, I11, H10, H11, H12, I28, H13, H14, H15, H18, I14, I16, H20, I17, I18, I19.
-/
import Derived.Test.YtgieagiaagoogaaGreatMd
set_option linter.all false
abbrev ucd:=@Prod.ext
abbrev udc:=@List.take_of_length_le
abbrev udd:=@List.mem_map
abbrev ude:=@List.length_map
abbrev uds:=@Nat.le_of_lt
abbrev udt:=@Int.not_lt
abbrev udu:=@bne_iff_ne
abbrev udv:=@List.mem_range
abbrev udw:=@Option.some.inj
abbrev uea:=@Bool.and_false
abbrev ueb:=@Bool.cond_true_left
abbrev ufi:=@decide_eq_decide
abbrev ufj:=@Int.not_le
abbrev ufk:=@Bool.cond_false_right
abbrev ufl:=@List.range_succ
abbrev uge:=@List.take_append_getElem
abbrev ugf:=@Bool.and_eq_false_iff
namespace Go.Proofs.YtgieagiaagoogaaGreat
open Go Go.Ab Go.RowKit Go.Proofs
theorem qmu {Q:Nat->Bool}:(f f' i j:Nat)->j-i<=f->j-i<=f'->bsG Q f i j=bsG Q f' i j
 |0,0,_,_,_,_=>rfl
 |0,f'+1,i,j,h,_=>by simp only [bsG]; rw [if_neg (by omega)]
 |f+1,0,i,j,_,h=>by simp only [bsG]; rw [if_neg (by omega)]
 |f+1,f'+1,i,j,h,h'=>by
  simp only [bsG];split
  ·cases Q ((i+j)/2) with
   |true=>exact qmu f f' _ _ (by omega) (by omega)
   |false=>exact qmu f f' _ _ (by omega) (by omega)
  ·rfl
theorem qyi {Q:Nat->Bool} {i j:Nat} (h:i<j):bsG Q (j-i) i j=bif Q ((i+j)/2) then bsG Q (j-((i+j)/2+1)) ((i+j)/2+1) j else bsG Q ((i+j)/2-i) i ((i+j)/2):=by
 obtain ⟨f,hf⟩:∃ f,j-i=f+1:=⟨j-i-1,by omega⟩;rw [hf];simp only [bsG];rw [if_pos h];cases Q ((i+j)/2) with
 |true=>exact qmu _ _ _ _ (by omega) (by omega)
 |false=>exact qmu _ _ _ _ (by omega) (by omega)
theorem qlf {α:Type} {d:α} {m:Nat}:(f f' i j:Nat)->(l:List α)->0<i->0<j->i+j<=f->i+j<=f'->qb0 d m f i j l=qb0 d m f' i j l
 |0,_,i,j,_,_,_,_,_=>by omega
 |f+1,0,i,j,_,_,_,_,_=>by omega
 |f+1,f'+1,i,j,l,h1,h2,h3,h4=>by
  simp only [qb0];split
  ·rfl
  ·split
   ·exact qlf f f' _ _ _ (by omega) (by omega) (by omega) (by omega)
   ·exact qlf f f' _ _ _ (by omega) (by omega) (by omega) (by omega)
noncomputable def CI1:Cx:=cxK [] [] (mtK (cx [] []).Γ 231 qsy)
theorem zhy:CxOK Tryz.prog CI1:=qc4 qv trivial trivial (qoe vw.ct yk8)
abbrev qgj:Pt:=⟨58,0,⟨[(2,.d i64),(4,zi),(10,.d i64),(11,.d i64)],[.al 10000 0,.o 0 3 i64]⟩,⟨[(2,.d i64),(4,zi),(10,.d i64)],[.al 10000 0,.o 0 3 i64]⟩,⟨[],[]⟩⟩
noncomputable def zku (x:qgj.M.X):Fr qgj.Out:=
 let m:=x.1.1; let g:=x.1.2.1; let i:=x.1.2.2.1; let j:=x.1.2.2.2.1; let l:=x.2.1
 Fr.br (i != j)
  (Fr.br (decide (i>j))
   (Fr.need (0<=IntKind.i64.wrap (m-i))
    (Fr.need (0<=m)
     (Fr.need (IntKind.i64.wrap (m-i)+j<=(l.length:Int))
      (Fr.need (m+j<=(l.length:Int))
       (Fr.val (Rd.next ((m,(g.1,g.2),IntKind.i64.wrap (i-j),j,()),((qsy.f l (IntKind.i64.wrap (m-i),m,j,(g.1,g.2),())).1,()))))))))
   (Fr.need (0<=IntKind.i64.wrap (m-i))
    (Fr.need (0<=IntKind.i64.wrap (IntKind.i64.wrap (m+j)-i))
     (Fr.need (IntKind.i64.wrap (m-i)+i<=(l.length:Int))
      (Fr.need (IntKind.i64.wrap (IntKind.i64.wrap (m+j)-i)+i<=(l.length:Int))
       (Fr.val (Rd.next ((m,(g.1,g.2),i,IntKind.i64.wrap (j-i),()),((qsy.f l (IntKind.i64.wrap (m-i),IntKind.i64.wrap (IntKind.i64.wrap (m+j)-i),i,(g.1,g.2),())).1,())))))))))
  (Fr.val (Rd.out ((m,(g.1,g.2),i,()),(l,()))))
theorem ykz:qf Tryz.prog (qo Tryz.f222 0) qgj.M qgj zku:=
 qf.of_run zhy (bs:=0) (Λ:=qq) rfl rfl rfl (fun E=>qe _ 0) (fun x=>by kernel_rfl)
theorem qdb:(n a b:Nat)->(l:List Int)->(qaw 0 n a b l).length=l.length
 |0,_,_,_=>rfl
 |n+1,a,b,l=>by simp only [qaw]; rw [qdb n,kz]
structure InvRot (m i j:Int) (l:List Int):Prop where
 i0:0<i
 j0:0<j
 im:i<=m
 ml:m+j<=l.length
 big:(l.length:Int)<=4611686018427387903
def yas (x:qgj.M.X):Fr qgj.Out:=
 Fr.need (InvRot x.1.1 x.1.2.2.1 x.1.2.2.2.1 x.2.1) (Fr.val (Rd.out ((x.1.1,x.1.2.1,((qb0 0 x.1.1.toNat (x.1.2.2.1.toNat+x.1.2.2.2.1.toNat) x.1.2.2.1.toNat x.1.2.2.2.1.toNat x.2.1).1:Nat),()),
  ((qb0 0 x.1.1.toNat (x.1.2.2.1.toNat+x.1.2.2.2.1.toNat) x.1.2.2.1.toNat x.1.2.2.2.1.toNat x.2.1).2,()))))
theorem yoj (m i j:Int) (g:zi.den) (l:List Int) (hinv:InvRot m i j l) (Q:qgj.Out->Prop)
  (hq:Q (Rd.out ((m,g,((qb0 0 m.toNat (i.toNat+j.toNat) i.toNat j.toNat l).1:Nat),()),((qb0 0 m.toNat (i.toNat+j.toNat) i.toNat j.toNat l).2,())))):(zku ((m,g,i,j,()),(l,()))).satP fun
   |.next x'=>InvRot x'.1.1 x'.1.2.2.1 x'.1.2.2.2.1 x'.2.1/\x'.1.2.2.1.toNat+x'.1.2.2.2.1.toNat<i.toNat+j.toNat/\(yas x').satP Q
   |.out y=>Q (.out y)
   |.back z=>Q (.back z)
   |.pan p=>Q (.pan p):=by
 obtain ⟨h0,h1,h2,h3,h4⟩:=hinv;obtain ⟨f,hf⟩:∃ f,i.toNat+j.toNat=f+1:=⟨i.toNat+j.toNat-1,by omega⟩;have w1:IntKind.i64.wrap (m-i)=m-i:=IntWalk.i64_in _ (by omega);have w2:IntKind.i64.wrap (i-j)=i-j:=IntWalk.i64_in _ (by omega);have w3:IntKind.i64.wrap (m+j)=m+j:=IntWalk.i64_in _ (by omega);have w4:IntKind.i64.wrap (m+j-i)=m+j-i:=IntWalk.i64_in _ (by omega);have w5:IntKind.i64.wrap (j-i)=j-i:=IntWalk.i64_in _ (by omega);dsimp only [zku,Fr.satP,Ty.den,PT.den,qsy];rw [w1,w2,w3,w4,w5];rw [hf] at hq;simp only [qb0] at hq;refine ⟨fun hc=>⟨fun hd=>?_,fun hd=>?_⟩,fun hc=>?_⟩
 ·have hgt:i>j:=of_decide_eq_true hd;rw [if_neg (by omega),if_pos (by omega)] at hq;have hI:InvRot m (i-j) j (qaw 0 j.toNat (m-i).toNat m.toNat l):=⟨by omega,h1,by omega,by rw [qdb]; omega,by rw [qdb]; omega⟩;refine ⟨by omega,by omega,by omega,by omega,hI,by omega,hI,?_⟩;dsimp only [Ty.den,PT.den];rw [qlf _ f (i-j).toNat j.toNat _ (by omega) (by omega) (Nat.le_refl _) (by omega),show (i-j).toNat=i.toNat-j.toNat by omega,show (m-i).toNat=m.toNat-i.toNat by omega];exact hq
 ·have hle:¬ i>j:=uac hd;have hne:i≠j:=by simpa using hc
  rw [if_neg (by omega),if_neg (by omega)] at hq;have hI:InvRot m i (j-i) (qaw 0 i.toNat (m-i).toNat (m+j-i).toNat l):=⟨h0,by omega,h2,by rw [qdb]; omega,by rw [qdb]; omega⟩;refine ⟨by omega,by omega,by omega,by omega,hI,by omega,hI,?_⟩;dsimp only [Ty.den,PT.den];rw [qlf _ f i.toNat (j-i).toNat _ (by omega) (by omega) (Nat.le_refl _) (by omega),show (j-i).toNat=j.toNat-i.toNat by omega,show (m-i).toNat=m.toNat-i.toNat by omega,show (m+j-i).toNat=m.toNat+j.toNat-i.toNat by omega];exact hq
 ·have heq:i=j:=by simpa using hc
  rw [if_pos (by omega)] at hq;have:((i.toNat:Nat):Int)=i:=by omega
  rw [this] at hq;exact hq
theorem yj1:qf Tryz.prog (.loop (qo Tryz.f222 0)) qgj.M qgj yas:=by
 refine qf.loop (n:=58) (id:=0) ykz (inv:=fun x=>InvRot x.1.1 x.1.2.2.1 x.1.2.2.2.1 x.2.1) (μ:=fun x=>x.1.2.2.1.toNat+x.1.2.2.2.1.toNat) ?_ (fun x Q h=>h.1);rintro ⟨⟨m,g,i,j,_⟩,⟨l,_⟩⟩ hinv Q hq;exact yoj m i j g l hinv Q hq.2
noncomputable def ytd:Nat->St->Option Tr:=fun _=>qgj.han CI1.Γ qgj.M yas
theorem qtk {m:Nat}:(f i j:Nat)->(l:List Int)->0<i->0<j->i+j<=f->0<(qb0 0 m f i j l).1/\(qb0 0 m f i j l).1<=i/\(qb0 0 m f i j l).1<=j/\(qb0 0 m f i j l).2.length=l.length
 |0,i,j,l,_,_,_=>by omega
 |f+1,i,j,l,h1,h2,h3=>by
  simp only [qb0];split
  ·exact ⟨h1,ua3 _,by omega,rfl⟩
  ·split
   ·have:=qtk (m:=m) f (i-j) j (qaw 0 j (m-i) m l) (by omega) h2 (by omega);rw [qdb] at this;omega
   ·have:=qtk (m:=m) f i (j-i) (qaw 0 i (m-i) (m+j-i) l) h1 (by omega) (by omega);rw [qdb] at this;omega
noncomputable def ydm:Mt:=⟨3,i64,[.d i64,.d i64,.d i64,zi],[],fun l x=>(qvr 0 x.1.toNat x.2.1.toNat x.2.2.1.toNat l,()),fun l x=>[0<=x.1,x.1<x.2.1,x.2.1<x.2.2.1,x.2.2.1<=l.length,(l.length:Int)<=4611686018427387903]⟩
def roI (m i j:Int) (l:List Int):Int:=((qb0 0 m.toNat (i.toNat+j.toNat) i.toNat j.toNat l).1:Nat)
def roL (m i j:Int) (l:List Int):List Int:=(qb0 0 m.toNat (i.toNat+j.toNat) i.toNat j.toNat l).2
noncomputable def zes (l:List Int) (x:qn [.d i64,.d i64,.d i64,zi]):Fr (List Int×qi []):=
 let a:=x.1; let m:=x.2.1; let b:=x.2.2.1; let g:=x.2.2.2.1
 let i:=roI m (IntKind.i64.wrap (m-a)) (IntKind.i64.wrap (b-m)) l
 let r:=roL m (IntKind.i64.wrap (m-a)) (IntKind.i64.wrap (b-m)) l
 Fr.need (InvRot m (IntKind.i64.wrap (m-a)) (IntKind.i64.wrap (b-m)) l)
 (Fr.need (0<=IntKind.i64.wrap (m-i))
  (Fr.need (0<=m)
   (Fr.need (IntKind.i64.wrap (m-i)+i<=(r.length:Int))
    (Fr.need (m+i<=(r.length:Int))
     (Fr.val ((qsy.f r (IntKind.i64.wrap (m-i),m,i,(g.1,g.2),())).1,()))))))
theorem zy2:SoundMt Tryz.prog 222 ydm:=
 qrb (qkn zhy (Λ:=ytd) (fn:=Tryz.f222) (fr:=zes) (e:=3) (T:=i64) (ps:=[.d i64,.d i64,.d i64,zi]) (rs:=[]) (0,0,0,(fun _=>(0,()),fun _=>True),()) (by kernel_rfl) rfl rfl
  (fun c E hc=>jb hc (by kernel_rfl) (b:=qo Tryz.f222 0) (by kernel_rfl) (qf.han zhy rfl yj1)) (fun l x=>by kernel_rfl)) _ _ fun w F l xs vs _ _ _ hok=>by
  obtain ⟨a,m,b,g,rfl⟩:∃ (a m b:Int) (g:zi.den),xs=(a,m,b,g,()):=⟨xs.1,xs.2.1,xs.2.2.1,xs.2.2.2.1,rfl⟩;have hok':(0:Int)<=a/\(a:Int)<m/\(m:Int)<b/\(b:Int)<=(List.length (α:=Int) l:Int)/\(List.length (α:=Int) l:Int)<=4611686018427387903:=hok;obtain ⟨h1,h2,h3,h4,h5⟩:=hok';have w1:IntKind.i64.wrap (m-a)=m-a:=IntWalk.i64_in _ (by omega);have w2:IntKind.i64.wrap (b-m)=b-m:=IntWalk.i64_in _ (by omega);have hf:=qtk (m:=m.toNat) ((m-a).toNat+(b-m).toNat) (m-a).toNat (b-m).toNat l (by omega) (by omega) (Nat.le_refl _);dsimp only [zes,Fr.ok,Fr.get,Ty.den,PT.den,qsy,roI,roL];rw [w1,w2];have e1:qvr 0 a.toNat m.toNat b.toNat l=qaw 0 (qb0 0 m.toNat ((m-a).toNat+(b-m).toNat) (m-a).toNat (b-m).toNat l).1 (m.toNat-(qb0 0 m.toNat ((m-a).toNat+(b-m).toNat) (m-a).toNat (b-m).toNat l).1) m.toNat (qb0 0 m.toNat ((m-a).toNat+(b-m).toNat) (m-a).toNat (b-m).toNat l).2:=by
   unfold qvr;rw [show b.toNat-a.toNat=(m-a).toNat+(b-m).toNat by omega,show m.toNat-a.toNat=(m-a).toNat by omega,show b.toNat-m.toNat=(b-m).toNat by omega]
  generalize qb0 0 m.toNat ((m-a).toNat+(b-m).toNat) (m-a).toNat (b-m).toNat l=r at hf e1 ⊢;have w3:IntKind.i64.wrap (m-(r.1:Int))=m-r.1:=uag _ (by omega);rw [w3];refine ⟨⟨⟨by omega,by omega,by omega,by omega,h5⟩,by omega,by omega,by omega,by omega,trivial⟩,?_⟩;show (qaw 0 (r.1:Int).toNat (m-r.1).toNat m.toNat r.2,())=(qvr 0 a.toNat m.toNat b.toNat l,());rw [e1,show (r.1:Int).toNat=r.1 by omega,show (m-(r.1:Int)).toNat=m.toNat-r.1 by omega]
def wg (i j:Int):Int:=IntKind.i64.wrap ((IntKind.u64.wrap (IntKind.i64.wrap (i+j))).fdiv (2 ^ min (Int.toNat 1) IntKind.u64.bits))
theorem qs0 {i j:Nat} (h:i+j<=9223372036854775807):wg (i:Int) j=((i+j)/2:Nat):=ycw h
abbrev qju:Pt:=⟨220,0,⟨[(1,.d i64),(4,zi),(10,.d i64),(11,.d i64)],[.al 10000 0,.o 0 3 i64]⟩,⟨[(1,.d i64),(10,.d i64)],[.al 10000 0,.o 0 3 i64]⟩,⟨[],[]⟩⟩
def zs7 (x:qju.M.X):Fr qju.Out:=
 let c:=x.1.1; let g:=x.1.2.1; let i:=x.1.2.2.1; let j:=x.1.2.2.2.1; let l:=x.2.1
 Fr.br (decide (i<j))
  (Fr.need (¬(1:Int)<0)
   (Fr.need (0<=wg i j/\wg i j<(l.length:Int))
    (Fr.need ((wg i j).toNat<l.length)
     (Fr.need (0<=c/\c<(l.length:Int))
      (Fr.need ((c).toNat<l.length)
       (Fr.need (g.2 (l.getD (wg i j).toNat i64.dflt,l.getD c.toNat i64.dflt,()))
        (Fr.br (decide ((g.1 (l.getD (wg i j).toNat i64.dflt,l.getD c.toNat i64.dflt,())).1<0))
         (Fr.val (Rd.next ((c,(g.1,g.2),IntKind.i64.wrap (wg i j+1),j,()),(l,()))))
         (Fr.val (Rd.next ((c,(g.1,g.2),i,wg i j,()),(l,())))))))))))
  (Fr.val (Rd.out ((c,i,()),(l,()))))
theorem ypn:qf Tryz.prog (qo Tryz.f203 0) qju.M qju zs7:=
 qf.of_run vw (bs:=0) (Λ:=qq) rfl rfl rfl (fun E=>qe _ 0) (fun x=>by kernel_rfl)
structure InvS0 (c i j:Int) (g:zi.den) (l:List Int):Prop where
 c0:0<=c
 cl:c<l.length
 i0:0<=i
 ij:i<=j
 jl:j<=l.length
 big:(l.length:Int)<=4611686018427387903
 dom:qhx g l
def FS0 (x:qju.M.X):Fr qju.Out:=
 let c:=x.1.1; let g:=x.1.2.1; let i:=x.1.2.2.1; let j:=x.1.2.2.2.1; let l:=x.2.1
 Fr.need (InvS0 c i j g l) (Fr.val (Rd.out ((c,(bsG (fun h=>zb g (l.getD h 0) (l.getD c.toNat 0)) (j.toNat-i.toNat) i.toNat j.toNat:Nat),()),(l,()))))
theorem yq4 (c i j:Int) (g:zi.den) (l:List Int) (hinv:InvS0 c i j g l) (Q:qju.Out->Prop)
  (hq:Q (Rd.out ((c,(bsG (fun h=>zb g (l.getD h 0) (l.getD c.toNat 0)) (j.toNat-i.toNat) i.toNat j.toNat:Nat),()),(l,())))):(zs7 ((c,g,i,j,()),(l,()))).satP fun
   |.next x'=>InvS0 x'.1.1 x'.1.2.2.1 x'.1.2.2.2.1 x'.1.2.1 x'.2.1/\(x'.1.2.2.2.1-x'.1.2.2.1).toNat<(j-i).toNat/\(FS0 x').satP Q
   |.out y=>Q (.out y)
   |.back z=>Q (.back z)
   |.pan p=>Q (.pan p):=by
 obtain ⟨h0,h1,h2,h3,h4,hb,hd⟩:=hinv;obtain ⟨i',rfl⟩:∃ n:Nat,i=n:=⟨i.toNat,by omega⟩;obtain ⟨j',rfl⟩:∃ n:Nat,j=n:=⟨j.toNat,by omega⟩;obtain ⟨c',rfl⟩:∃ n:Nat,c=n:=⟨c.toNat,by omega⟩;have hm:wg (i':Int) j'=((i'+j')/2:Nat):=qs0 (by omega);have hw:IntKind.i64.wrap ((((i'+j')/2:Nat):Int)+1)=((i'+j')/2+1:Nat):=qot (by omega);dsimp only [zs7,Fr.satP,Ty.den,PT.den];rw [hm,hw];simp only [Int.toNat_natCast] at hq ⊢;refine ⟨fun hi=>?_,fun hi=>?_⟩
 ·have hlt:i'<j':=by have:(i':Int)<j':=ua5 hi; omega
  rw [qyi hlt] at hq;have hml:(i'+j')/2<l.length:=by omega
  have hcl:c'<l.length:=by omega
  refine ⟨by omega,⟨by omega,by omega⟩,by omega,⟨by omega,by omega⟩,by omega,hd _ (vu hml) _ (vu hcl),fun hc=>?_,fun hc=>?_⟩
  ·have hc':(zb g (l.getD ((i'+j')/2) 0) (l.getD c' 0))=true:=hc;rw [hc'] at hq;have hI:InvS0 (c':Int) ((i'+j')/2+1:Nat) j' g l:=⟨h0,h1,by omega,by omega,by omega,hb,hd⟩;exact ⟨hI,by omega,hI,hq⟩
  ·have hc':(zb g (l.getD ((i'+j')/2) 0) (l.getD c' 0))=false:=hc;rw [hc'] at hq;have hI:InvS0 (c':Int) i' ((i'+j')/2:Nat) g l:=⟨h0,h1,by omega,by omega,by omega,hb,hd⟩;exact ⟨hI,by omega,hI,hq⟩
 ·have hge:¬ i'<j':=by have:¬ (i':Int)<j':=uac hi; omega
  rw [show j'-i'=0 by omega] at hq;exact hq
theorem yos:qf Tryz.prog (.loop (qo Tryz.f203 0)) qju.M qju FS0:=by
 refine qf.loop (n:=220) (id:=0) ypn (inv:=fun x=>InvS0 x.1.1 x.1.2.2.1 x.1.2.2.2.1 x.1.2.1 x.2.1) (μ:=fun x=>(x.1.2.2.2.1-x.1.2.2.1).toNat) ?_ (fun x Q h=>h.1);rintro ⟨⟨c,g,i,j,_⟩,⟨l,_⟩⟩ hinv Q hq;exact yq4 c i j g l hinv Q hq.2
abbrev qjw:Pt:=⟨220,4,⟨[(2,.d i64),(4,zi),(14,.d i64),(15,.d i64)],[.al 10000 0,.o 0 3 i64]⟩,⟨[(2,.d i64),(14,.d i64)],[.al 10000 0,.o 0 3 i64]⟩,⟨[],[]⟩⟩
def zs9 (x:qjw.M.X):Fr qjw.Out:=
 let c:=x.1.1; let g:=x.1.2.1; let i:=x.1.2.2.1; let j:=x.1.2.2.2.1; let l:=x.2.1
 Fr.br (decide (i<j))
  (Fr.need (¬(1:Int)<0)
   (Fr.need (0<=c/\c<(l.length:Int))
    (Fr.need ((c).toNat<l.length)
     (Fr.need (0<=wg i j/\wg i j<(l.length:Int))
      (Fr.need ((wg i j).toNat<l.length)
       (Fr.need (g.2 (l.getD c.toNat i64.dflt,l.getD (wg i j).toNat i64.dflt,()))
        (Fr.br (!decide ((g.1 (l.getD c.toNat i64.dflt,l.getD (wg i j).toNat i64.dflt,())).1<0))
         (Fr.val (Rd.next ((c,(g.1,g.2),IntKind.i64.wrap (wg i j+1),j,()),(l,()))))
         (Fr.val (Rd.next ((c,(g.1,g.2),i,wg i j,()),(l,())))))))))))
  (Fr.val (Rd.out ((c,i,()),(l,()))))
theorem ypp:qf Tryz.prog (qo Tryz.f203 2) qjw.M qjw zs9:=
 qf.of_run vw (bs:=0) (Λ:=qq) rfl rfl rfl (fun E=>qe _ 0) (fun x=>by kernel_rfl)
structure InvS2 (c i j:Int) (g:zi.den) (l:List Int):Prop where
 c0:0<=c
 cl:c<l.length
 i0:0<=i
 ij:i<=j
 jl:j<=l.length
 big:(l.length:Int)<=4611686018427387903
 dom:qhx g l
def FS2 (x:qjw.M.X):Fr qjw.Out:=
 let c:=x.1.1; let g:=x.1.2.1; let i:=x.1.2.2.1; let j:=x.1.2.2.2.1; let l:=x.2.1
 Fr.need (InvS2 c i j g l) (Fr.val (Rd.out ((c,(bsG (fun h=>!zb g (l.getD c.toNat 0) (l.getD h 0)) (j.toNat-i.toNat) i.toNat j.toNat:Nat),()),(l,()))))
theorem yq6 (c i j:Int) (g:zi.den) (l:List Int) (hinv:InvS2 c i j g l) (Q:qjw.Out->Prop)
  (hq:Q (Rd.out ((c,(bsG (fun h=>!zb g (l.getD c.toNat 0) (l.getD h 0)) (j.toNat-i.toNat) i.toNat j.toNat:Nat),()),(l,())))):(zs9 ((c,g,i,j,()),(l,()))).satP fun
   |.next x'=>InvS2 x'.1.1 x'.1.2.2.1 x'.1.2.2.2.1 x'.1.2.1 x'.2.1/\(x'.1.2.2.2.1-x'.1.2.2.1).toNat<(j-i).toNat/\(FS2 x').satP Q
   |.out y=>Q (.out y)
   |.back z=>Q (.back z)
   |.pan p=>Q (.pan p):=by
 obtain ⟨h0,h1,h2,h3,h4,hb,hd⟩:=hinv;obtain ⟨i',rfl⟩:∃ n:Nat,i=n:=⟨i.toNat,by omega⟩;obtain ⟨j',rfl⟩:∃ n:Nat,j=n:=⟨j.toNat,by omega⟩;obtain ⟨c',rfl⟩:∃ n:Nat,c=n:=⟨c.toNat,by omega⟩;have hm:wg (i':Int) j'=((i'+j')/2:Nat):=qs0 (by omega);have hw:IntKind.i64.wrap ((((i'+j')/2:Nat):Int)+1)=((i'+j')/2+1:Nat):=qot (by omega);dsimp only [zs9,Fr.satP,Ty.den,PT.den];rw [hm,hw];simp only [Int.toNat_natCast] at hq ⊢;refine ⟨fun hi=>?_,fun hi=>?_⟩
 ·have hlt:i'<j':=by have:(i':Int)<j':=ua5 hi; omega
  rw [qyi hlt] at hq;have hml:(i'+j')/2<l.length:=by omega
  have hcl:c'<l.length:=by omega
  refine ⟨by omega,⟨by omega,by omega⟩,by omega,⟨by omega,by omega⟩,by omega,hd _ (vu hcl) _ (vu hml),fun hc=>?_,fun hc=>?_⟩
  ·have hc':(!zb g (l.getD c' 0) (l.getD ((i'+j')/2) 0))=true:=hc;rw [hc'] at hq;have hI:InvS2 (c':Int) ((i'+j')/2+1:Nat) j' g l:=⟨h0,h1,by omega,by omega,by omega,hb,hd⟩;exact ⟨hI,by omega,hI,hq⟩
  ·have hc':(!zb g (l.getD c' 0) (l.getD ((i'+j')/2) 0))=false:=hc;rw [hc'] at hq;have hI:InvS2 (c':Int) i' ((i'+j')/2:Nat) g l:=⟨h0,h1,by omega,by omega,by omega,hb,hd⟩;exact ⟨hI,by omega,hI,hq⟩
 ·have hge:¬ i'<j':=by have:¬ (i':Int)<j':=uac hi; omega
  rw [show j'-i'=0 by omega] at hq;exact hq
theorem you:qf Tryz.prog (.loop (qo Tryz.f203 2)) qjw.M qjw FS2:=by
 refine qf.loop (n:=220) (id:=4) ypp (inv:=fun x=>InvS2 x.1.1 x.1.2.2.1 x.1.2.2.2.1 x.1.2.1 x.2.1) (μ:=fun x=>(x.1.2.2.2.1-x.1.2.2.1).toNat) ?_ (fun x Q h=>h.1);rintro ⟨⟨c,g,i,j,_⟩,⟨l,_⟩⟩ hinv Q hq;exact yq6 c i j g l hinv Q hq.2
abbrev qjy:Pt:=⟨220,8,⟨[(1,.d i64),(2,.d i64),(3,.d i64),(4,zi),(18,.d i64),(19,.d i64),(20,.d i64),(21,.d i64),(22,.d i64)],[.al 10000 0,.o 0 3 i64]⟩,⟨[(1,.d i64),(2,.d i64),(3,.d i64),(4,zi),(18,.d i64),(19,.d i64),(20,.d i64)],[.al 10000 0,.o 0 3 i64]⟩,⟨[],[]⟩⟩
def ztb (x:qjy.M.X):Fr qjy.Out:=
 let a:=x.1.1; let m:=x.1.2.1; let b:=x.1.2.2.1; let g:=x.1.2.2.2.1; let mid:=x.1.2.2.2.2.1; let n:=x.1.2.2.2.2.2.1; let i:=x.1.2.2.2.2.2.2.1; let j:=x.1.2.2.2.2.2.2.2.1; let p:=x.1.2.2.2.2.2.2.2.2.1; let l:=x.2.1
 Fr.br (decide (i<j))
  (Fr.need (¬(1:Int)<0)
   (Fr.need (0<=IntKind.i64.wrap (p-wg i j)/\IntKind.i64.wrap (p-wg i j)<(l.length:Int))
    (Fr.need ((IntKind.i64.wrap (p-wg i j)).toNat<l.length)
     (Fr.need (0<=wg i j/\wg i j<(l.length:Int))
      (Fr.need ((wg i j).toNat<l.length)
       (Fr.need (g.2 (l.getD (IntKind.i64.wrap (p-wg i j)).toNat i64.dflt,l.getD (wg i j).toNat i64.dflt,()))
        (Fr.br (!decide ((g.1 (l.getD (IntKind.i64.wrap (p-wg i j)).toNat i64.dflt,l.getD (wg i j).toNat i64.dflt,())).1<0))
         (Fr.val (Rd.next ((a,m,b,(g.1,g.2),mid,n,IntKind.i64.wrap (wg i j+1),j,p,()),(l,()))))
         (Fr.val (Rd.next ((a,m,b,(g.1,g.2),mid,n,i,wg i j,p,()),(l,())))))))))))
  (Fr.val (Rd.out ((a,m,b,(g.1,g.2),mid,n,i,()),(l,()))))
theorem ypr:qf Tryz.prog (qo Tryz.f203 4) qjy.M qjy ztb:=
 qf.of_run vw (bs:=0) (Λ:=qq) rfl rfl rfl (fun E=>qe _ 0) (fun x=>by kernel_rfl)
structure InvS4 (p i j:Int) (g:zi.den) (l:List Int):Prop where
 p0:0<=p
 pl:p<i+l.length
 pj:j<=p+1
 i0:0<=i
 ij:i<=j
 jl:j<=l.length
 big:(l.length:Int)<=4611686018427387903
 dom:qhx g l
def FS4 (x:qjy.M.X):Fr qjy.Out:=
 let a:=x.1.1; let m:=x.1.2.1; let b:=x.1.2.2.1; let g:=x.1.2.2.2.1; let mid:=x.1.2.2.2.2.1; let n:=x.1.2.2.2.2.2.1; let i:=x.1.2.2.2.2.2.2.1; let j:=x.1.2.2.2.2.2.2.2.1; let p:=x.1.2.2.2.2.2.2.2.2.1; let l:=x.2.1
 Fr.need (InvS4 p i j g l) (Fr.val (Rd.out ((a,m,b,g,mid,n,(bsG (fun h=>!zb g (l.getD (p.toNat-h) 0) (l.getD h 0)) (j.toNat-i.toNat) i.toNat j.toNat:Nat),()),(l,()))))
theorem yq8 (a m b mid n p i j:Int) (g:zi.den) (l:List Int) (hinv:InvS4 p i j g l) (Q:qjy.Out->Prop)
  (hq:Q (Rd.out ((a,m,b,g,mid,n,(bsG (fun h=>!zb g (l.getD (p.toNat-h) 0) (l.getD h 0)) (j.toNat-i.toNat) i.toNat j.toNat:Nat),()),(l,())))):(ztb ((a,m,b,g,mid,n,i,j,p,()),(l,()))).satP fun
   |.next x'=>InvS4 x'.1.2.2.2.2.2.2.2.2.1 x'.1.2.2.2.2.2.2.1 x'.1.2.2.2.2.2.2.2.1 x'.1.2.2.2.1 x'.2.1/\(x'.1.2.2.2.2.2.2.2.1-x'.1.2.2.2.2.2.2.1).toNat<(j-i).toNat/\(FS4 x').satP Q
   |.out y=>Q (.out y)
   |.back z=>Q (.back z)
   |.pan p=>Q (.pan p):=by
 obtain ⟨h00,h0,h1,h2,h3,h4,hb,hd⟩:=hinv;obtain ⟨i',rfl⟩:∃ n:Nat,i=n:=⟨i.toNat,by omega⟩;obtain ⟨j',rfl⟩:∃ n:Nat,j=n:=⟨j.toNat,by omega⟩;obtain ⟨p',rfl⟩:∃ n:Nat,p=n:=⟨p.toNat,by omega⟩;have hm:wg (i':Int) j'=((i'+j')/2:Nat):=qs0 (by omega);have hw:IntKind.i64.wrap ((((i'+j')/2:Nat):Int)+1)=((i'+j')/2+1:Nat):=qot (by omega);dsimp only [ztb,Fr.satP,Ty.den,PT.den];rw [hm,hw];have hp:(i'<j')->IntKind.i64.wrap ((p':Int)-(((i'+j')/2:Nat):Int))=(p'-(i'+j')/2:Nat):=fun h=>qru (by omega) (by omega);simp only [Int.toNat_natCast] at hq ⊢;refine ⟨fun hi=>?_,fun hi=>?_⟩
 ·have hlt:i'<j':=by have:(i':Int)<j':=ua5 hi; omega
  rw [qyi hlt] at hq;rw [hp hlt];simp only [ucn];have hml:p'-(i'+j')/2<l.length:=by omega
  have hcl:(i'+j')/2<l.length:=by omega
  refine ⟨by omega,⟨by omega,by omega⟩,by omega,⟨by omega,by omega⟩,by omega,hd _ (vu hml) _ (vu hcl),fun hc=>?_,fun hc=>?_⟩
  ·have hc':(!zb g (l.getD (p'-(i'+j')/2) 0) (l.getD ((i'+j')/2) 0))=true:=hc;rw [hc'] at hq;have hI:InvS4 (p':Int) ((i'+j')/2+1:Nat) j' g l:=⟨h00,by omega,by omega,by omega,by omega,by omega,hb,hd⟩;exact ⟨hI,by omega,hI,hq⟩
  ·have hc':(!zb g (l.getD (p'-(i'+j')/2) 0) (l.getD ((i'+j')/2) 0))=false:=hc;rw [hc'] at hq;have hI:InvS4 (p':Int) i' ((i'+j')/2:Nat) g l:=⟨h00,by omega,by omega,by omega,by omega,by omega,hb,hd⟩;exact ⟨hI,by omega,hI,hq⟩
 ·have hge:¬ i'<j':=by have:¬ (i':Int)<j':=uac hi; omega
  rw [show j'-i'=0 by omega] at hq;exact hq
theorem yow:qf Tryz.prog (.loop (qo Tryz.f203 4)) qjy.M qjy FS4:=by
 refine qf.loop (n:=220) (id:=8) ypr (inv:=fun x=>InvS4 x.1.2.2.2.2.2.2.2.2.1 x.1.2.2.2.2.2.2.1 x.1.2.2.2.2.2.2.2.1 x.1.2.2.2.1 x.2.1) (μ:=fun x=>(x.1.2.2.2.2.2.2.2.1-x.1.2.2.2.2.2.2.1).toNat) ?_ (fun x Q h=>h.1);rintro ⟨⟨a,m,b,g,mid,n,i,j,p,_⟩,⟨l,_⟩⟩ hinv Q hq;exact yq8 a m b mid n p i j g l hinv Q hq.2
abbrev qjv:Pt:=⟨220,2,⟨[(10,.d i64),(13,.d i64)],[.al 10000 0,.o 0 3 i64]⟩,⟨[],[.al 10000 0,.o 0 3 i64]⟩,⟨[],[]⟩⟩
def zs8 (x:qjv.M.X):Fr qjv.Out:=
 let i:=x.1.1; let k:=x.1.2.1; let l:=x.2.1
 Fr.br (decide (k<IntKind.i64.wrap (i-1)))
  (Fr.need (0<=IntKind.i64.wrap (k+1)/\IntKind.i64.wrap (k+1)<(l.length:Int))
   (Fr.need ((IntKind.i64.wrap (k+1)).toNat<l.length)
    (Fr.need (0<=k/\k<(l.length:Int))
     (Fr.need (k.toNat<l.length)
      (Fr.need (0<=k/\k<(l.length:Int))
       (Fr.need (k.toNat<l.length)
        (Fr.need (0<=IntKind.i64.wrap (k+1)/\IntKind.i64.wrap (k+1)<((l.set k.toNat (l.getD (IntKind.i64.wrap (k+1)).toNat i64.dflt)).length:Int))
         (Fr.need ((IntKind.i64.wrap (k+1)).toNat<(l.set k.toNat (l.getD (IntKind.i64.wrap (k+1)).toNat i64.dflt)).length)
          (Fr.val (Rd.next ((i,IntKind.i64.wrap (k+1),()),((l.set k.toNat (l.getD (IntKind.i64.wrap (k+1)).toNat i64.dflt)).set (IntKind.i64.wrap (k+1)).toNat (l.getD k.toNat i64.dflt),()))))))))))))
  (Fr.val (Rd.out ((),(l,()))))
theorem ypo:qf Tryz.prog (qo Tryz.f203 1) qjv.M qjv zs8:=
 qf.of_run vw (bs:=0) (Λ:=qq) rfl rfl rfl (fun E=>qe _ 0) (fun x=>by kernel_rfl)
structure InvS1 (i k:Int) (l:List Int):Prop where
 k0:0<=k
 i0:0<=i
 il:i<=l.length
 big:(l.length:Int)<=4611686018427387903
def FS1 (x:qjv.M.X):Fr qjv.Out:=
 let i:=x.1.1; let k:=x.1.2.1; let l:=x.2.1
 Fr.need (InvS1 i k l) (Fr.val (Rd.out ((),(upS 0 (i-1-k).toNat k.toNat l,()))))
theorem yq5 (i k:Int) (l:List Int) (hinv:InvS1 i k l) (Q:qjv.Out->Prop) (hq:Q (Rd.out ((),(upS 0 (i-1-k).toNat k.toNat l,())))):(zs8 ((i,k,()),(l,()))).satP fun
   |.next x'=>InvS1 x'.1.1 x'.1.2.1 x'.2.1/\(x'.1.1-1-x'.1.2.1).toNat<(i-1-k).toNat/\(FS1 x').satP Q
   |.out y=>Q (.out y)
   |.back z=>Q (.back z)
   |.pan p=>Q (.pan p):=by
 obtain ⟨h0,h1,h2,h3⟩:=hinv;have w1:IntKind.i64.wrap (i-1)=i-1:=IntWalk.i64_in _ (by omega);dsimp only [zs8,Fr.satP,Ty.den,PT.den];rw [w1];simp only [List.length_set];refine ⟨fun hc=>?_,fun hc=>?_⟩
 ·have hlt:k<i-1:=of_decide_eq_true hc;have w2:IntKind.i64.wrap (k+1)=k+1:=IntWalk.i64_in _ (by omega);rw [w2];have hI:InvS1 i (k+1) (qcd l 0 k.toNat (k+1).toNat):=⟨by omega,by omega,by rw [kz]; omega,by rw [kz]; omega⟩;refine ⟨⟨by omega,by omega⟩,by omega,⟨by omega,by omega⟩,by omega,⟨by omega,by omega⟩,by omega,⟨by omega,by omega⟩,by omega,hI,by omega,hI,?_⟩;rw [show (i-1-k).toNat=(i-1-(k+1)).toNat+1 by omega] at hq;simp only [upS] at hq;dsimp only [Ty.den,PT.den];rw [show k.toNat+1=(k+1).toNat by omega] at hq;exact hq
 ·have hge:¬ k<i-1:=uac hc;rw [show (i-1-k).toNat=0 by omega] at hq;exact hq
theorem yot:qf Tryz.prog (.loop (qo Tryz.f203 1)) qjv.M qjv FS1:=by
 refine qf.loop (n:=220) (id:=2) ypo (inv:=fun x=>InvS1 x.1.1 x.1.2.1 x.2.1) (μ:=fun x=>(x.1.1-1-x.1.2.1).toNat) ?_ (fun x Q h=>h.1);rintro ⟨⟨i,k,_⟩,⟨l,_⟩⟩ hinv Q hq;exact yq5 i k l hinv Q hq.2
abbrev qjx:Pt:=⟨220,6,⟨[(14,.d i64),(17,.d i64)],[.al 10000 0,.o 0 3 i64]⟩,⟨[],[.al 10000 0,.o 0 3 i64]⟩,⟨[],[]⟩⟩
def zta (x:qjx.M.X):Fr qjx.Out:=
 let i:=x.1.1; let k:=x.1.2.1; let l:=x.2.1
 Fr.br (decide (k>i))
  (Fr.need (0<=IntKind.i64.wrap (k-1)/\IntKind.i64.wrap (k-1)<(l.length:Int))
   (Fr.need ((IntKind.i64.wrap (k-1)).toNat<l.length)
    (Fr.need (0<=k/\k<(l.length:Int))
     (Fr.need (k.toNat<l.length)
      (Fr.need (0<=k/\k<(l.length:Int))
       (Fr.need (k.toNat<l.length)
        (Fr.need (0<=IntKind.i64.wrap (k-1)/\IntKind.i64.wrap (k-1)<((l.set k.toNat (l.getD (IntKind.i64.wrap (k-1)).toNat i64.dflt)).length:Int))
         (Fr.need ((IntKind.i64.wrap (k-1)).toNat<(l.set k.toNat (l.getD (IntKind.i64.wrap (k-1)).toNat i64.dflt)).length)
          (Fr.val (Rd.next ((i,IntKind.i64.wrap (k-1),()),((l.set k.toNat (l.getD (IntKind.i64.wrap (k-1)).toNat i64.dflt)).set (IntKind.i64.wrap (k-1)).toNat (l.getD k.toNat i64.dflt),()))))))))))))
  (Fr.val (Rd.out ((),(l,()))))
theorem ypq:qf Tryz.prog (qo Tryz.f203 3) qjx.M qjx zta:=
 qf.of_run vw (bs:=0) (Λ:=qq) rfl rfl rfl (fun E=>qe _ 0) (fun x=>by kernel_rfl)
structure InvS3 (i k:Int) (l:List Int):Prop where
 i0:0<=i
 ik:i<=k
 kl:k<l.length
 big:(l.length:Int)<=4611686018427387903
def FS3 (x:qjx.M.X):Fr qjx.Out:=
 let i:=x.1.1; let k:=x.1.2.1; let l:=x.2.1
 Fr.need (InvS3 i k l) (Fr.val (Rd.out ((),(qk2 0 (k-i).toNat k.toNat l,()))))
theorem yq7 (i k:Int) (l:List Int) (hinv:InvS3 i k l) (Q:qjx.Out->Prop) (hq:Q (Rd.out ((),(qk2 0 (k-i).toNat k.toNat l,())))):(zta ((i,k,()),(l,()))).satP fun
   |.next x'=>InvS3 x'.1.1 x'.1.2.1 x'.2.1/\(x'.1.2.1-x'.1.1).toNat<(k-i).toNat/\(FS3 x').satP Q
   |.out y=>Q (.out y)
   |.back z=>Q (.back z)
   |.pan p=>Q (.pan p):=by
 obtain ⟨h0,h1,h2,h3⟩:=hinv;have w2:IntKind.i64.wrap (k-1)=k-1:=IntWalk.i64_in _ (by omega);dsimp only [zta,Fr.satP,Ty.den,PT.den];rw [w2];simp only [List.length_set];refine ⟨fun hc=>?_,fun hc=>?_⟩
 ·have hlt:k>i:=of_decide_eq_true hc;have hI:InvS3 i (k-1) (qcd l 0 k.toNat (k-1).toNat):=⟨by omega,by omega,by rw [kz]; omega,by rw [kz]; omega⟩;refine ⟨⟨by omega,by omega⟩,by omega,⟨by omega,by omega⟩,by omega,⟨by omega,by omega⟩,by omega,⟨by omega,by omega⟩,by omega,hI,by omega,hI,?_⟩;rw [show (k-i).toNat=(k-1-i).toNat+1 by omega] at hq;simp only [qk2] at hq;dsimp only [Ty.den,PT.den];rw [show k.toNat-1=(k-1).toNat by omega] at hq;exact hq
 ·have hge:¬ k>i:=uac hc;rw [show (k-i).toNat=0 by omega] at hq;exact hq
theorem yov:qf Tryz.prog (.loop (qo Tryz.f203 3)) qjx.M qjx FS3:=by
 refine qf.loop (n:=220) (id:=6) ypq (inv:=fun x=>InvS3 x.1.1 x.1.2.1 x.2.1) (μ:=fun x=>(x.1.2.1-x.1.1).toNat) ?_ (fun x Q h=>h.1);rintro ⟨⟨i,k,_⟩,⟨l,_⟩⟩ hinv Q hq;exact yq7 i k l hinv Q hq.2
structure SymOk (n:Nat) (a m b:Int) (g:zi.den) (l:List Int):Prop where
 a0:0<=a
 am:a<m
 mb:m<b
 bl:b<=l.length
 big:(l.length:Int)<=4611686018427387903
 size:b-a<=n
 dom:qhx g l
 key:∃ key:Int->Int,LtK (zb g) key l/\yj key (seg a.toNat m.toNat l)/\yj key (seg m.toNat b.toNat l)
noncomputable def qqm (n:Nat):Mt:=⟨3,i64,[.d i64,.d i64,.d i64,zi],[],fun l x=>(zj (zb x.2.2.2.1) x.1.toNat x.2.2.1.toNat l,()),fun l x=>[SymOk n x.1 x.2.1 x.2.2.1 x.2.2.2.1 l]⟩
noncomputable def CI2 (n:Nat):Cx:=cxK [] [] (orK (mtK (cx [] []).Γ 222 ydm) (mtK (cx [] []).Γ 203 (qqm n)))
theorem ylu {n:Nat} (h:SoundMt Tryz.prog 203 (qqm n)):CxOK Tryz.prog (CI2 n):=qc4 qv trivial trivial (zlr (qoe vw.ct zy2) (qoe vw.ct h))
noncomputable def yfy:Nat->St->Option Tr
 |0=>qju.han CI0.Γ qju.M FS0
 |1=>qjv.han CI0.Γ qjv.M FS1
 |2=>qjw.han CI0.Γ qjw.M FS2
 |3=>qjx.han CI0.Γ qjx.M FS3
 |_=>qjy.han CI0.Γ qjy.M FS4
theorem yjo {E:Env} {c:Code} (hc:Tryz.f203.body=some c):jw Tryz.prog E yfy c 0:=by
 have hn:(Tryz.f203.body.map zq)=some 5:=by kernel_rfl
 have b0:Tryz.f203.body.bind (Go.Ab.loopB · 0)=some (qo Tryz.f203 0):=by kernel_rfl
 have b1:Tryz.f203.body.bind (Go.Ab.loopB · 1)=some (qo Tryz.f203 1):=by kernel_rfl
 have b2:Tryz.f203.body.bind (Go.Ab.loopB · 2)=some (qo Tryz.f203 2):=by kernel_rfl
 have b3:Tryz.f203.body.bind (Go.Ab.loopB · 3)=some (qo Tryz.f203 3):=by kernel_rfl
 have b4:Tryz.f203.body.bind (Go.Ab.loopB · 4)=some (qo Tryz.f203 4):=by kernel_rfl
 have hb:∀ i,i<5->Tryz.f203.body.bind (Go.Ab.loopB · i)=some (qo Tryz.f203 i):=fun i hi=>match i,hi with
  |0,_=>b0
  |1,_=>b1
  |2,_=>b2
  |3,_=>b3
  |4,_=>b4
 rw [hc] at hn hb;simp only [udj,ua0] at hn;simp only [uee] at hb;refine lamAll c 0 fun i b' hb'=>?_;have hlt:=loopB_lt hb';rw [hn] at hlt;have e:=hb i hlt;rw [e] at hb';cases hb'
 match i,hlt with
 |0,_=>exact qf.han vw rfl yos
 |1,_=>exact qf.han vw rfl yot
 |2,_=>exact qf.han vw rfl you
 |3,_=>exact qf.han vw rfl yov
 |4,_=>exact qf.han vw rfl yow
def bs0 (c i j:Int) (g:zi.den) (l:List Int):Int:=(bsG (fun h=>zb g (l.getD h 0) (l.getD c.toNat 0)) (j.toNat-i.toNat) i.toNat j.toNat:Nat)
def bs2 (c i j:Int) (g:zi.den) (l:List Int):Int:=(bsG (fun h=>!zb g (l.getD c.toNat 0) (l.getD h 0)) (j.toNat-i.toNat) i.toNat j.toNat:Nat)
def bs4 (p i j:Int) (g:zi.den) (l:List Int):Int:=(bsG (fun h=>!zb g (l.getD (p.toNat-h) 0) (l.getD h 0)) (j.toNat-i.toNat) i.toNat j.toNat:Nat)
noncomputable def zb5 (n:Nat) (mid en b:Int) (g:zi.den) (l:List Int):Fr (List Int×qi []):=
 Fr.br (bif decide (mid<en) then decide (en<b) else false) (Fr.need (SymOk n mid en b (g.1,g.2) l) (Fr.val (((qqm n).f l (mid,en,b,(g.1,g.2),())).1,()))) (Fr.val (l,()))
noncomputable def zb4 (n:Nat) (a st mid en b:Int) (g:zi.den) (l:List Int):Fr (List Int×qi []):=
 Fr.br (bif decide (a<st) then decide (st<mid) else false) (Fr.need (SymOk n a st mid (g.1,g.2) l) (zb5 n mid en b g ((qqm n).f l (a,st,mid,(g.1,g.2),())).1)) (zb5 n mid en b g l)
noncomputable def zhp (n:Nat) (a m b st mid en:Int) (g:zi.den) (l:List Int):Fr (List Int×qi []):=
 Fr.br (bif decide (st<m) then decide (m<en) else false)
  (Fr.need (0<=st) (Fr.need (st<m) (Fr.need (m<en) (Fr.need (en<=(l.length:Int)) (Fr.need ((l.length:Int)<=4611686018427387903) (zb4 n a st mid en b g (ydm.f l (st,m,en,(g.1,g.2),())).1))))))
  (zb4 n a st mid en b g l)
noncomputable def zb3 (n:Nat) (a m b mid i j:Int) (g:zi.den) (l:List Int):Fr (List Int×qi []):=
 let p:=IntKind.i64.wrap (IntKind.i64.wrap (mid+m)-1)
 Fr.need (InvS4 p i j (g.1,g.2) l) (zhp n a m b (bs4 p i j (g.1,g.2) l) mid (IntKind.i64.wrap (IntKind.i64.wrap (mid+m)-bs4 p i j (g.1,g.2) l)) g l)
noncomputable def qu6 (n:Nat) (l:List Int) (x:qn [.d i64,.d i64,.d i64,zi]):Fr (List Int×qi []):=
 let a:=x.1; let m:=x.2.1; let b:=x.2.2.1; let g:=x.2.2.2.1
 Fr.br (IntKind.i64.wrap (m-a)==1)
  (Fr.need (InvS0 a m b (g.1,g.2) l) (Fr.need (InvS1 (bs0 a m b (g.1,g.2) l) a l) (Fr.val (upS 0 (bs0 a m b (g.1,g.2) l-1-a).toNat a.toNat l,()))))
  (Fr.br (IntKind.i64.wrap (b-m)==1)
   (Fr.need (InvS2 m a m (g.1,g.2) l) (Fr.need (InvS3 (bs2 m a m (g.1,g.2) l) m l) (Fr.val (qk2 0 (m-bs2 m a m (g.1,g.2) l).toNat m.toNat l,()))))
   (Fr.need (¬(1:Int)<0)
    (Fr.br (decide (m>wg a b))
     (zb3 n a m b (wg a b) (IntKind.i64.wrap (IntKind.i64.wrap (wg a b+m)-b)) (wg a b) g l)
     (zb3 n a m b (wg a b) a m g l))))
theorem ykq (n:Nat) (l:List Int) (x:qn [.d i64,.d i64,.d i64,zi]):zho Tryz.prog (CI2 n) yfy Tryz.f203 3 i64 [.d i64,.d i64,.d i64,zi] [] l x=some (qu6 n l x):=by kernel_rfl
theorem qzs {Q:Nat->Bool}:(f i j:Nat)->i<=j->i<=bsG Q f i j/\bsG Q f i j<=j
 |0,i,j,h=>⟨ua3 _,h⟩
 |f+1,i,j,h=>by
  simp only [bsG];split
  ·cases Q ((i+j)/2) with
   |true=>
    have:=qzs (Q:=Q) f ((i+j)/2+1) j (by omega);simp only [ue4];omega
   |false=>
    have:=qzs (Q:=Q) f i ((i+j)/2) (by omega);simp only [cond_false];omega
  ·exact ⟨ua3 _,h⟩
structure Sym3 (lt:Int->Int->Bool) (key:Int->Int) (a m b st:Nat) (l:List Int):Prop where
 s1:a<=st
 s2:st<=m
 s3:st<=(a+b)/2
 s4:(a+b)/2<=b
 e1:m+st<=(a+b)/2+m
 e2:(a+b)/2+m<=b+st
 len1:(xo 0 m st ((a+b)/2+m-st) l).length=l.length
 same1:zd key l (xo 0 m st ((a+b)/2+m-st) l)
 sA1:yj key (seg a st (xo 0 m st ((a+b)/2+m-st) l))
 sB1:yj key (seg st ((a+b)/2) (xo 0 m st ((a+b)/2+m-st) l))
 len2:(if a<st/\st<(a+b)/2 then zj lt a ((a+b)/2) (xo 0 m st ((a+b)/2+m-st) l) else xo 0 m st ((a+b)/2+m-st) l).length=l.length
 same2:zd key l (if a<st/\st<(a+b)/2 then zj lt a ((a+b)/2) (xo 0 m st ((a+b)/2+m-st) l) else xo 0 m st ((a+b)/2+m-st) l)
 sA2:yj key (seg ((a+b)/2) ((a+b)/2+m-st) (if a<st/\st<(a+b)/2 then zj lt a ((a+b)/2) (xo 0 m st ((a+b)/2+m-st) l) else xo 0 m st ((a+b)/2+m-st) l))
 sB2:yj key (seg ((a+b)/2+m-st) b (if a<st/\st<(a+b)/2 then zj lt a ((a+b)/2) (xo 0 m st ((a+b)/2+m-st) l) else xo 0 m st ((a+b)/2+m-st) l))
theorem ys9 {lt:Int->Int->Bool} {key:Int->Int} {a m b:Nat} {l:List Int} (h1:a<m) (h2:m<b) (h3:b<=l.length) (hl:LtK lt key l) (sA:yj key (seg a m l)) (sB:yj key (seg m b l)) :
  Sym3 lt key a m b (qbp lt 0 a m b l) l:=by
 obtain ⟨p,q,hL,hp,hA,hB,hq⟩:=zfr (uds h1) (uds h2) h3;have hAB:LtK lt key (seg a m l++seg m b l):=hl.sub fun z hz=>by
  rw [hL];rcases ubc.1 hz with h|h
  ·exact ubq _ (ucg _ h)
  ·exact ubq _ (ubq _ (ucg _ h))
 obtain ⟨A1,A2,B1,B2,eA,eB,e1,e2,f1,f2⟩:=zfy (d:=(0:Int)) (q:=q) hp hA hB h1 h2 hAB sA sB;rw [← hL] at e1 e2;rw [eA] at sA hA;rw [eB] at sB hB;rw [eA,eB] at hL;generalize qbp lt 0 a m b l=st at e1 e2 ⊢;subst hL;simp only [uas] at hA hB h3;have pA:=uc0.1 sA;have pB:=uc0.1 sB;have hen:(a+b)/2+m-st=m+B1.length:=by omega
 have hR:xo 0 m st ((a+b)/2+m-st) (p++(A1++A2++(B1++B2++q)))=p++(A1++(B1++(A2++(B2++q)))):=by
  rw [hen];unfold xo;split
  ·rename_i hc;have:=zqj (d:=(0:Int)) (a:=st) (m:=m) (b:=m+B1.length) (x:=A2) (y:=B1) (p:=p++A1) (q:=B2++q) (by omega) (by omega) (by simp; omega) (by omega) rfl;simpa using this
  ·rename_i hc;by_cases hb1:B1=[]
   ·subst hb1; simp
   ·have:=ufh.2 hb1;have:A2=[]:=ucw.1 (by omega);subst this; simp
 have same1:zd key (p++(A1++A2++(B1++B2++q))) (p++(A1++(B1++(A2++(B2++q))))):=by
  have h:=(zd.refl p).app (((zd.refl A1).app (zd.swap (key:=key) fun x hx y hy=>by have:=f2 y hy x hx; omega:zd key (A2++B1) (B1++A2))).app (zd.refl (B2++q)));simpa using h
 have hl1:LtK lt key (p++(A1++(B1++(A2++(B2++q))))):=hl.sub fun z hz=>same1.mem.1 hz;have g1:seg a st (p++(A1++(B1++(A2++(B2++q)))))=A1:=qol hp (by omega);have g2:seg st ((a+b)/2) (p++(A1++(B1++(A2++(B2++q)))))=B1:=by
  have:=qol (p:=p++A1) (s:=B1) (q:=A2++(B2++q)) (a:=st) (b:=(a+b)/2) (by simp; omega) (by omega);simpa using this
 have hX:∀ T:List Int,T.length=A1.length+B1.length->seg ((a+b)/2) ((a+b)/2+m-st) (p++(T++(A2++(B2++q))))=A2/\seg ((a+b)/2+m-st) b (p++(T++(A2++(B2++q))))=B2:=fun T hT=>by
  have k1:=qol (p:=p++T) (s:=A2) (q:=B2++q) (a:=(a+b)/2) (b:=(a+b)/2+m-st) (by simp; omega) (by omega);have k2:=qol (p:=p++T++A2) (s:=B2) (q:=q) (a:=(a+b)/2+m-st) (b:=b) (by simp; omega) (by omega);exact ⟨by simpa using k1,by simpa using k2⟩
 have hlen:(p++(A1++(B1++(A2++(B2++q))))).length=(p++(A1++A2++(B1++B2++q))).length:=by simp; omega
 have hpart:a<st/\st<(a+b)/2->zj lt a ((a+b)/2) (p++(A1++(B1++(A2++(B2++q)))))=p++(jq lt (A1++B1)++(A2++(B2++q))):=fun hc=>by
  have:=qii (lt:=lt) (a:=a) (b:=(a+b)/2) (p:=p) (s:=A1++B1) (q:=A2++(B2++q)) hp (by simp; omega);simpa using this
 refine ⟨by omega,by omega,by omega,by omega,by omega,by omega,by rw [hR]; exact hlen,by rw [hR]; exact same1,by rw [hR,g1]; exact pA.1,by rw [hR,g2]; exact pB.1,?_,?_,?_,?_⟩
 ·rw [hR];split
  ·rw [qc9 (by omega) (by simp; omega)];exact hlen
  ·exact hlen
 ·rw [hR];split
  ·exact same1.trans (qta (by omega) (by simp; omega) hl1)
  ·exact same1
 ·rw [hR];split
  ·rename_i hc;rw [hpart hc,(hX _ (by rw [qaq]; simp)).1];exact pA.2.1
  ·have:=(hX (A1++B1) (by simp)).1;rw [show p++(A1++(B1++(A2++(B2++q))))=p++((A1++B1)++(A2++(B2++q))) by simp,this];exact pA.2.1
 ·rw [hR];split
  ·rename_i hc;rw [hpart hc,(hX _ (by rw [qaq]; simp)).2];exact pB.2.1
  ·have:=(hX (A1++B1) (by simp)).2;rw [show p++(A1++(B1++(A2++(B2++q))))=p++((A1++B1)++(A2++(B2++q))) by simp,this];exact pB.2.1
theorem zzp {lt:Int->Int->Bool} {key:Int->Int} {a m b:Nat} {l:List Int} (h1:a<m) (h2:m<b) (h3:b<=l.length) (hl:LtK lt key l) (sA:yj key (seg a m l)) (sB:yj key (seg m b l)) :
  qv7 lt 0 a m b l=zj lt a b l:=by
 obtain ⟨p,q,hL,hp,hA,hB,hq⟩:=zfr (uds h1) (uds h2) h3;generalize seg a m l=A at hL hA sA;generalize seg m b l=B at hL hB sB;subst hL;have hAB:LtK lt key (A++B):=hl.sub fun z hz=>by
  rcases ubc.1 hz with h|h
  ·exact ubq _ (ucg _ h)
  ·exact ubq _ (ubq _ (ucg _ h))
 rw [yk9 hp hA hB h1 h2 hAB sA sB];have:=qii (lt:=lt) (a:=a) (b:=b) (p:=p) (s:=A++B) (q:=q) hp (by simp; omega);rw [← this];simp
theorem zcl (p q:Prop) [Decidable p] [Decidable q]:(bif decide p then decide q else false)=decide (p/\q):=by
 by_cases p<;>by_cases q<;>simp_all
theorem zmw {n:Nat} {mid en b:Nat} {g:zi.den} {l:List Int} (h:mid<en/\en<b->SymOk n mid en b g l) :
  (zb5 n mid en b g l).ok/\(zb5 n mid en b g l).get=((if mid<en/\en<b then zj (zb g) mid b l else l),()):=by
 unfold zb5;have hd:(bif decide ((mid:Int)<en) then decide ((en:Int)<b) else false)=decide (mid<en/\en<b):=by
  rw [zcl,ufi];omega
 rw [hd];by_cases hc:mid<en/\en<b
 ·rw [uan hc,if_pos hc];exact ⟨⟨fun _=>⟨h hc,trivial⟩,fun hb=>by cases hb⟩,rfl⟩
 ·rw [uao hc,if_neg hc];exact ⟨⟨fun hb=>(by cases hb),fun _=>trivial⟩,rfl⟩
theorem zmv {n:Nat} {a st mid en b:Nat} {g:zi.den} {l:List Int} (h:a<st/\st<mid->SymOk n a st mid g l)
  (k:mid<en/\en<b->SymOk n mid en b g (if a<st/\st<mid then zj (zb g) a mid l else l)) :
  (zb4 n a st mid en b g l).ok/\(zb4 n a st mid en b g l).get=((if mid<en/\en<b then zj (zb g) mid b (if a<st/\st<mid then zj (zb g) a mid l else l) else (if a<st/\st<mid then zj (zb g) a mid l else l)),()):=by
 unfold zb4;have hd:(bif decide ((a:Int)<st) then decide ((st:Int)<mid) else false)=decide (a<st/\st<mid):=by
  rw [zcl,ufi];omega
 rw [hd];by_cases hc:a<st/\st<mid
 ·rw [if_pos hc] at k ⊢;rw [uan hc];obtain ⟨h1,h2⟩:=zmw k;exact ⟨⟨fun _=>⟨h hc,h1⟩,fun hb=>by cases hb⟩,h2⟩
 ·rw [if_neg hc] at k ⊢;rw [uao hc];obtain ⟨h1,h2⟩:=zmw k;exact ⟨⟨fun hb=>(by cases hb),fun _=>h1⟩,h2⟩
theorem yfb {n:Nat} {a m b st mid en:Nat} {g:zi.den} {l:List Int} (hen:en<=l.length) (hbig:(l.length:Int)<=4611686018427387903)
  (h:a<st/\st<mid->SymOk n a st mid g (xo 0 m st en l))
  (k:mid<en/\en<b->SymOk n mid en b g (if a<st/\st<mid then zj (zb g) a mid (xo 0 m st en l) else xo 0 m st en l)) :
  (zhp n a m b st mid en g l).ok/\(zhp n a m b st mid en g l).get=((if mid<en/\en<b then zj (zb g) mid b (if a<st/\st<mid then zj (zb g) a mid (xo 0 m st en l) else xo 0 m st en l) else (if a<st/\st<mid then zj (zb g) a mid (xo 0 m st en l) else xo 0 m st en l)),()):=by
 unfold zhp;have hd:(bif decide ((st:Int)<m) then decide ((m:Int)<en) else false)=decide (st<m/\m<en):=by
  rw [zcl,ufi];omega
 rw [hd];by_cases hc:st<m/\m<en
 ·have e:xo 0 m st en l=qvr 0 st m en l:=by unfold xo; rw [if_pos hc]
  rw [e] at h k ⊢;rw [uan hc];obtain ⟨h1,h2⟩:=zmv h k;exact ⟨⟨fun _=>⟨by omega,by omega,by omega,by omega,hbig,h1⟩,fun hb=>by cases hb⟩,h2⟩
 ·have e:xo 0 m st en l=l:=by unfold xo; rw [if_neg hc]
  rw [e] at h k ⊢;rw [uao hc];obtain ⟨h1,h2⟩:=zmv h k;exact ⟨⟨fun hb=>(by cases hb),fun _=>h1⟩,h2⟩
theorem zzr (n a m b:Nat) (g:zi.den) (l:List Int) (h:SymOk (n+1) a m b g l):(qu6 n l ((a:Int),(m:Int),(b:Int),g,())).ok/\(qu6 n l ((a:Int),(m:Int),(b:Int),g,())).get=(zj (zb g) a b l,()):=by
 obtain ⟨_,h1,h2,h3,hbig,hsize,hdom,key,hl,sA,sB⟩:=h;simp only [ucn] at sA sB;have h1':a<m:=by omega
 have h2':m<b:=by omega
 have h3':b<=l.length:=by omega
 have hX:=zzp h1' h2' h3' hl sA sB;rw [← hX];have w1:IntKind.i64.wrap ((m:Int)-a)=(m-a:Nat):=qru (by omega) (by omega);have w2:IntKind.i64.wrap ((b:Int)-m)=(b-m:Nat):=qru (by omega) (by omega);have hmid:wg (a:Int) b=((a+b)/2:Nat):=qs0 (by omega);dsimp only [qu6];rw [w1,w2,hmid];by_cases c1:m-a=1
 ·have hc:(((m-a:Nat):Int)==1)=true:=by rw [c1]; rfl
  rw [hc];unfold qv7;rw [if_pos c1];obtain ⟨r1,r2⟩:=qzs (Q:=fun h=>zb g (l.getD h 0) (l.getD a 0)) (b-m) m b (by omega);have hb0:bs0 (a:Int) m b g l=(bsG (fun h=>zb g (l.getD h 0) (l.getD a 0)) (b-m) m b:Nat):=rfl;have e:(g.1,g.2)=g:=rfl;simp only [e];rw [hb0];generalize bsG (fun h=>zb g (l.getD h 0) (l.getD a 0)) (b-m) m b=r at r1 r2 ⊢;refine ⟨⟨fun _=>⟨⟨by omega,by omega,by omega,by omega,by omega,hbig,hdom⟩,⟨by omega,by omega,by omega,hbig⟩,trivial⟩,fun hb=>by cases hb⟩,?_⟩;show (upS 0 ((r:Int)-1-a).toNat (a:Int).toNat l,())=_;rw [show ((r:Int)-1-a).toNat=r-1-a by omega];rfl
 ·have hc:(((m-a:Nat):Int)==1)=false:=by rw [ucu]; omega
  rw [hc];by_cases c2:b-m=1
  ·have hc:(((b-m:Nat):Int)==1)=true:=by rw [c2]; rfl
   rw [hc];unfold qv7;rw [if_neg c1,if_pos c2];obtain ⟨r1,r2⟩:=qzs (Q:=fun h=>!zb g (l.getD m 0) (l.getD h 0)) (m-a) a m (by omega);have hb0:bs2 (m:Int) a m g l=(bsG (fun h=>!zb g (l.getD m 0) (l.getD h 0)) (m-a) a m:Nat):=rfl;have e:(g.1,g.2)=g:=rfl;simp only [e];rw [hb0];generalize bsG (fun h=>!zb g (l.getD m 0) (l.getD h 0)) (m-a) a m=r at r1 r2 ⊢;refine ⟨⟨fun hb=>(by cases hb),fun _=>⟨fun _=>⟨⟨by omega,by omega,by omega,by omega,by omega,hbig,hdom⟩,⟨by omega,by omega,by omega,hbig⟩,trivial⟩,fun hb=>by cases hb⟩⟩,?_⟩;show (qk2 0 ((m:Int)-r).toNat (m:Int).toNat l,())=_;rw [show ((m:Int)-r).toNat=m-r by omega];rfl
  ·have hc:(((b-m:Nat):Int)==1)=false:=by rw [ucu]; omega
   rw [hc];have s3:=ys9 h1' h2' h3' hl sA sB;have key3:∀ i j:Nat,(i=if (a+b)/2<m then (a+b)/2+m-b else a)->(j=if (a+b)/2<m then (a+b)/2 else m) ->
     (zb3 n a m b ((a+b)/2:Nat) i j g l).ok/\(zb3 n a m b ((a+b)/2:Nat) i j g l).get=(qv7 (zb g) 0 a m b l,()):=fun i j hi hj=>by
    have wp:IntKind.i64.wrap (IntKind.i64.wrap ((((a+b)/2:Nat):Int)+m)-1)=((a+b)/2+m-1:Nat):=by
     rw [zcj (by omega),zlx (by omega) (by omega)]
    have hS:bs4 (((a+b)/2+m-1:Nat):Int) i j g l=(qbp (zb g) 0 a m b l:Nat):=by
     unfold bs4 qbp;simp only [Int.toNat_natCast];rw [← hi,← hj]
    dsimp only [zb3];have e:(g.1,g.2)=g:=rfl;rw [wp,e,hS];have we:IntKind.i64.wrap (IntKind.i64.wrap ((((a+b)/2:Nat):Int)+m)-(qbp (zb g) 0 a m b l:Nat))=((a+b)/2+m-qbp (zb g) 0 a m b l:Nat):=by
     have:=s3.s3;rw [zcj (by omega),qru (by omega) (by omega)]
    rw [we];have hSx:qv7 (zb g) 0 a m b l=(if (a+b)/2<(a+b)/2+m-qbp (zb g) 0 a m b l/\(a+b)/2+m-qbp (zb g) 0 a m b l<b then zj (zb g) ((a+b)/2) b (if a<qbp (zb g) 0 a m b l/\qbp (zb g) 0 a m b l<(a+b)/2 then zj (zb g) a ((a+b)/2) (xo 0 m (qbp (zb g) 0 a m b l) ((a+b)/2+m-qbp (zb g) 0 a m b l) l) else xo 0 m (qbp (zb g) 0 a m b l) ((a+b)/2+m-qbp (zb g) 0 a m b l) l) else (if a<qbp (zb g) 0 a m b l/\qbp (zb g) 0 a m b l<(a+b)/2 then zj (zb g) a ((a+b)/2) (xo 0 m (qbp (zb g) 0 a m b l) ((a+b)/2+m-qbp (zb g) 0 a m b l) l) else xo 0 m (qbp (zb g) 0 a m b l) ((a+b)/2+m-qbp (zb g) 0 a m b l) l)):=by
     conv=>lhs; unfold qv7
     rw [if_neg c1,if_neg c2]
    rw [hSx];generalize qbp (zb g) 0 a m b l=st at s3 ⊢;obtain ⟨q1,q2,q3,q4,q5,q6,len1,same1,sA1,sB1,len2,same2,sA2,sB2⟩:=s3;obtain ⟨o1,o2⟩:=yfb (n:=n) (a:=a) (m:=m) (b:=b) (st:=st) (mid:=(a+b)/2) (en:=(a+b)/2+m-st) (g:=g) (l:=l) (by omega) hbig
     (fun hc=>⟨by omega,by omega,by omega,by omega,by omega,by omega,hdom.sub fun z hz=>same1.mem.1 hz,key,hl.sub fun z hz=>same1.mem.1 hz,sA1,sB1⟩)
     (fun hc=>⟨by omega,by omega,by omega,by omega,by omega,by omega,hdom.sub fun z hz=>same2.mem.1 hz,key,hl.sub fun z hz=>same2.mem.1 hz,sA2,sB2⟩)
    refine ⟨⟨?_,o1⟩,o2⟩;refine ⟨by omega,?_,?_,by omega,?_,?_,hbig,hdom⟩<;>(subst hi hj; split<;>omega)
   by_cases cm:m>(a+b)/2
   ·have hd:decide ((m:Int)>((a+b)/2:Nat))=true:=uan (by omega);rw [hd];have wi:IntKind.i64.wrap (IntKind.i64.wrap ((((a+b)/2:Nat):Int)+m)-b)=((a+b)/2+m-b:Nat):=by
     rw [zcj (by omega),qru (by omega) (by omega)]
    rw [wi];obtain ⟨k1,k2⟩:=key3 ((a+b)/2+m-b) ((a+b)/2) (by rw [if_pos (by omega)]) (by rw [if_pos (by omega)]);exact ⟨⟨fun hb=>(by cases hb),fun _=>⟨fun hb=>(by cases hb),fun _=>⟨by omega,fun _=>k1,fun hb=>by cases hb⟩⟩⟩,k2⟩
   ·have hd:decide ((m:Int)>((a+b)/2:Nat))=false:=uao (by omega);rw [hd];obtain ⟨k1,k2⟩:=key3 a m (by rw [if_neg (by omega)]) (by rw [if_neg (by omega)]);exact ⟨⟨fun hb=>(by cases hb),fun _=>⟨fun hb=>(by cases hb),fun _=>⟨by omega,fun hb=>(by cases hb),fun _=>k1⟩⟩⟩,k2⟩
theorem zzq:(n:Nat)->SoundMt Tryz.prog 203 (qqm n)
 |0=>by
  have hf:Tryz.prog.funcs[203]? = some Tryz.f203:=by kernel_rfl
  obtain ⟨c,hb⟩:∃ c,Tryz.f203.body=some c:=⟨_,rfl⟩;refine ⟨rfl,rfl,enters hf hb (by kernel_rfl),fun w F l xs v vs rows _ _ _ _ _ _ _ hok=>?_⟩;have h:SymOk 0 xs.1 xs.2.1 xs.2.2.1 xs.2.2.2.1 l:=hok;have h1:=h.am;have h2:=h.mb;have h3:=h.size;omega
 |n+1=>by
  refine qrb (qkn (ylu (zzq n)) (Λ:=yfy) (fn:=Tryz.f203) (fr:=qu6 n) (e:=3) (T:=i64) (ps:=[.d i64,.d i64,.d i64,zi]) (rs:=[]) (0,0,0,(fun _=>(0,()),fun _=>True),()) (by kernel_rfl) rfl rfl
   (fun c E hc=>yjo hc) (ykq n)) _ _ fun w F l xs vs _ _ _ hok=>?_
  obtain ⟨a,m,b,g,rfl⟩:∃ (a m b:Int) (g:zi.den),xs=(a,m,b,g,()):=⟨xs.1,xs.2.1,xs.2.2.1,xs.2.2.2.1,rfl⟩;have h:SymOk (n+1) a m b g l:=hok;have h0:=h.a0;have h1:=h.am;have h2:=h.mb;obtain ⟨a',rfl⟩:∃ n:Nat,a=n:=⟨a.toNat,by omega⟩;obtain ⟨m',rfl⟩:∃ n:Nat,m=n:=⟨m.toNat,by omega⟩;obtain ⟨b',rfl⟩:∃ n:Nat,b=n:=⟨b.toNat,by omega⟩;exact zzr n a' m' b' g l h
theorem qp5 {lt:Int->Int->Bool} {w n:Nat} (hw:0<w):(f f' a:Nat)->(l:List Int)->n<f+a->n<f'+a->qc3 lt w n f a l=qc3 lt w n f' a l
 |0,0,_,_,_,_=>rfl
 |0,f'+1,a,l,h,_=>by simp only [qc3]; rw [if_neg (by omega)]
 |f+1,0,a,l,_,h=>by simp only [qc3]; rw [if_neg (by omega)]
 |f+1,f'+1,a,l,h,h'=>by
  simp only [qc3];split
  ·exact qp5 hw f f' _ _ (by omega) (by omega)
  ·rfl
theorem qmo {lt:Int->Int->Bool} {n:Nat}:(f f' w:Nat)->(l:List Int)->0<w->n<=f+w->n<=f'+w->xm lt n f w l=xm lt n f' w l
 |0,0,_,_,_,_,_=>rfl
 |0,f'+1,w,l,hw,h,_=>by simp only [xm]; rw [if_neg (by omega)]
 |f+1,0,w,l,hw,_,h=>by simp only [xm]; rw [if_neg (by omega)]
 |f+1,f'+1,w,l,hw,h,h'=>by
  simp only [xm];split
  ·exact qmo f f' _ _ (by omega) (by omega) (by omega)
  ·rfl
abbrev big:Nat:=4611686018427387903
noncomputable def CI3:Cx:=cxK [] [] (orK (mtK (cx [] []).Γ 202 qkm) (mtK (cx [] []).Γ 203 (qqm big)))
theorem qnt:CxOK Tryz.prog CI3:=qc4 qv trivial trivial (zlr (qoe vw.ct zxv) (qoe vw.ct (zzq big)))
abbrev qgg:Pt:=⟨63,0,⟨[(1,.d i64),(2,zi),(6,.d i64),(7,.d i64),(8,.d i64)],[.al 10000 0,.o 0 3 i64]⟩,⟨[(1,.d i64),(2,zi),(6,.d i64),(7,.d i64)],[.al 10000 0,.o 0 3 i64]⟩,⟨[],[]⟩⟩
noncomputable def zkj (x:qgg.M.X):Fr qgg.Out:=
 let n:=x.1.1; let g:=x.1.2.1; let bs:=x.1.2.2.1; let a:=x.1.2.2.2.1; let b:=x.1.2.2.2.2.1; let l:=x.2.1
 Fr.br (decide (b<=n))
  (Fr.need (0<=a)
   (Fr.need (a<=b)
    (Fr.need (b<=(l.length:Int))
     (Fr.need ((l.length:Int)<=4611686018427387903)
      (Fr.need (qgu (g.1,g.2) l)
       (Fr.val (Rd.next ((n,(g.1,g.2),bs,b,IntKind.i64.wrap (b+bs),()),((qkm.f l (a,b,(g.1,g.2),())).1,())))))))))
  (Fr.val (Rd.out ((n,(g.1,g.2),bs,a,()),(l,()))))
theorem yku:qf Tryz.prog (qo Tryz.f183 0) qgg.M qgg zkj:=
 qf.of_run qnt (bs:=0) (Λ:=qq) rfl rfl rfl (fun E=>qe _ 0) (fun x=>by kernel_rfl)
structure InvBlk (n bs a b:Int) (g:zi.den) (l:List Int):Prop where
 nl:n=l.length
 big:n<=4611686018427387903
 bs0:bs=20
 a0:0<=a
 an:a<=n
 ab:b=a+20
 ord:qgu g l
def qnx (n a:Int) (g:zi.den) (l:List Int):Nat×List Int:=qc3 (zb g) 20 n.toNat (n.toNat+1) a.toNat l
def yan (x:qgg.M.X):Fr qgg.Out:=
 let n:=x.1.1; let g:=x.1.2.1; let bs:=x.1.2.2.1; let a:=x.1.2.2.2.1; let b:=x.1.2.2.2.2.1; let l:=x.2.1
 Fr.need (InvBlk n bs a b g l) (Fr.val (Rd.out ((n,g,bs,((qnx n a g l).1:Nat),()),((qnx n a g l).2,()))))
theorem qvj {lt:Int->Int->Bool} {a b:Nat} {l:List Int} {x:Int} (h:x∈zj lt a b l):x∈l:=by
 unfold zj at h;rcases List.mem_append.1 h with h|h
 ·exact uep h
 ·rcases ubc.1 h with h|h
  ·exact uep (ucm (qpw.1 h))
  ·exact ucm h
theorem yoe (n bs a b:Int) (g:zi.den) (l:List Int) (hinv:InvBlk n bs a b g l) (Q:qgg.Out->Prop)
  (hq:Q (Rd.out ((n,g,bs,((qnx n a g l).1:Nat),()),((qnx n a g l).2,())))):(zkj ((n,g,bs,a,b,()),(l,()))).satP fun
   |.next x'=>InvBlk x'.1.1 x'.1.2.2.1 x'.1.2.2.2.1 x'.1.2.2.2.2.1 x'.1.2.1 x'.2.1/\(x'.1.1-x'.1.2.2.2.1).toNat<(n-a).toNat/\(yan x').satP Q
   |.out y=>Q (.out y)
   |.back z=>Q (.back z)
   |.pan p=>Q (.pan p):=by
 obtain ⟨h0,h1,h2,h3,h4,h5,h6⟩:=hinv;subst h2 h5;dsimp only [zkj,Fr.satP,Ty.den,PT.den,qkm];refine ⟨fun hi=>?_,fun hi=>?_⟩
 ·have hle:a+20<=n:=ua5 hi;have w:IntKind.i64.wrap (a+20+20)=a+20+20:=uag _ (by omega);rw [w];have hlen:(zj (zb g) a.toNat (a+20).toNat l).length=l.length:=qc9 (by omega) (by omega);have hI:InvBlk n 20 (a+20) (a+20+20) g (zj (zb g) a.toNat (a+20).toNat l):=⟨by rw [hlen]; exact h0,h1,rfl,by omega,hle,rfl,h6.sub fun x hx=>qvj hx⟩;refine ⟨h3,by omega,by omega,by omega,h6,hI,by omega,hI,?_⟩;have e:qnx n a g l=qnx n (a+20) g (zj (zb g) a.toNat (a+20).toNat l):=by
   unfold qnx;rw [show n.toNat+1=n.toNat+1 from rfl]
   conv=>lhs; unfold qc3
   rw [if_pos (by omega),show a.toNat+20=(a+20).toNat by omega];exact qp5 (by omega) _ _ _ _ (by omega) (by omega)
  rw [e] at hq;exact hq
 ·have hgt:¬ a+20<=n:=uac hi;have e:qnx n a g l=(a.toNat,l):=by
   unfold qnx qc3;rw [if_neg (by omega)]
  rw [e] at hq;have e2:((a.toNat:Nat):Int)=a:=by omega
  simp only [e2] at hq;exact hq
theorem yjw:qf Tryz.prog (.loop (qo Tryz.f183 0)) qgg.M qgg yan:=by
 refine qf.loop (n:=63) (id:=0) yku (inv:=fun x=>InvBlk x.1.1 x.1.2.2.1 x.1.2.2.2.1 x.1.2.2.2.2.1 x.1.2.1 x.2.1) (μ:=fun x=>(x.1.1-x.1.2.2.2.1).toNat) ?_ (fun x Q h=>h.1);rintro ⟨⟨n,g,bs,a,b,_⟩,⟨l,_⟩⟩ hinv Q hq;exact yoe n bs a b g l hinv Q hq.2
abbrev qgi:Pt:=⟨63,4,⟨[(1,.d i64),(2,zi),(6,.d i64),(7,.d i64),(8,.d i64)],[.al 10000 0,.o 0 3 i64]⟩,⟨[(1,.d i64),(2,zi),(6,.d i64),(7,.d i64)],[.al 10000 0,.o 0 3 i64]⟩,⟨[],[]⟩⟩
noncomputable def zdo:Code:=((Go.Ab.loopB (qo Tryz.f183 1) 0).getD .skip)
noncomputable def zks (x:qgi.M.X):Fr qgi.Out:=
 let n:=x.1.1; let g:=x.1.2.1; let bs:=x.1.2.2.1; let a:=x.1.2.2.2.1; let b:=x.1.2.2.2.2.1; let l:=x.2.1
 Fr.br (decide (b<=n))
  (Fr.need (SymOk big a (IntKind.i64.wrap (a+bs)) b (g.1,g.2) l)
   (Fr.val (Rd.next ((n,(g.1,g.2),bs,b,IntKind.i64.wrap (b+IntKind.i64.wrap (2*bs)),()),(((qqm big).f l (a,IntKind.i64.wrap (a+bs),b,(g.1,g.2),())).1,())))))
  (Fr.val (Rd.out ((n,(g.1,g.2),bs,a,()),(l,()))))
theorem ykx:qf Tryz.prog zdo qgi.M qgi zks:=
 qf.of_run qnt (bs:=0) (Λ:=qq) rfl rfl rfl (fun E=>qe _ 0) (fun x=>by kernel_rfl)
structure InvPas (n bs a b:Int) (g:zi.den) (l:List Int):Prop where
 nl:n=l.length
 big:n<=4611686018427387903
 bs0:0<bs
 bsn:bs<n
 a0:0<=a
 an:a<=n
 ab:b=a+2*bs
 mul:∃ c:Nat,a.toNat=c*(2*bs.toNat)
 dom:qhx g l
 key:∃ key:Int->Int,LtK (zb g) key l/\∀ k:Nat,a.toNat<=k*bs.toNat->yj key (seg (k*bs.toNat) (k*bs.toNat+bs.toNat) l)
def qhi (n bs a:Int) (g:zi.den) (l:List Int):Nat×List Int:=qc3 (zb g) (2*bs.toNat) n.toNat (n.toNat+1) a.toNat l
def yar (x:qgi.M.X):Fr qgi.Out:=
 let n:=x.1.1; let g:=x.1.2.1; let bs:=x.1.2.2.1; let a:=x.1.2.2.2.1; let b:=x.1.2.2.2.2.1; let l:=x.2.1
 Fr.need (InvPas n bs a b g l) (Fr.val (Rd.out ((n,g,bs,((qhi n bs a g l).1:Nat),()),((qhi n bs a g l).2,()))))
theorem yoi (n bs a b:Int) (g:zi.den) (l:List Int) (hinv:InvPas n bs a b g l) (Q:qgi.Out->Prop)
  (hq:Q (Rd.out ((n,g,bs,((qhi n bs a g l).1:Nat),()),((qhi n bs a g l).2,())))):(zks ((n,g,bs,a,b,()),(l,()))).satP fun
   |.next x'=>InvPas x'.1.1 x'.1.2.2.1 x'.1.2.2.2.1 x'.1.2.2.2.2.1 x'.1.2.1 x'.2.1/\(x'.1.1-x'.1.2.2.2.1).toNat<(n-a).toNat/\(yar x').satP Q
   |.out y=>Q (.out y)
   |.back z=>Q (.back z)
   |.pan p=>Q (.pan p):=by
 obtain ⟨h0,h1,h2,h3,h4,h5,h6,⟨c,h7⟩,h8,key,h9,h10⟩:=hinv;subst h6;dsimp only [zks,Fr.satP,Ty.den,PT.den,qqm];have w1:IntKind.i64.wrap (a+bs)=a+bs:=IntWalk.i64_in _ (by omega);have w2:IntKind.i64.wrap (2*bs)=2*bs:=IntWalk.i64_in _ (by omega);rw [w1,w2];refine ⟨fun hi=>?_,fun hi=>?_⟩
 ·have hle:a+2*bs<=n:=ua5 hi;have hle':a.toNat+2*bs.toNat<=l.length:=by omega
  have hseg1:yj key (seg a.toNat (a+bs).toNat l):=by
   have:=h10 (2*c) (by rw [h7,← ueq,ud5 c 2]; exact ua3 _)
   rwa [show 2*c*bs.toNat=a.toNat by rw [h7,← ueq,ud5 c 2],show a.toNat+bs.toNat=(a+bs).toNat by omega] at this
  have hseg2:yj key (seg (a+bs).toNat (a+2*bs).toNat l):=by
   have e:(2*c+1)*bs.toNat=(a+bs).toNat:=by
    rw [uay,show 2*c*bs.toNat=a.toNat by rw [h7,← ueq,ud5 c 2]];omega
   have:=h10 (2*c+1) (by omega)
   rwa [e,show (a+bs).toNat+bs.toNat=(a+2*bs).toNat by omega] at this
  have hlen:(zj (zb g) a.toNat (a+2*bs).toNat l).length=l.length:=qc9 (by omega) (by omega);by_cases hbig:a+2*bs+2*bs<=9223372036854775807
  ·have w3:IntKind.i64.wrap (a+2*bs+2*bs)=a+2*bs+2*bs:=uag _ (by omega);rw [w3];have hI:InvPas n bs (a+2*bs) (a+2*bs+2*bs) g (zj (zb g) a.toNat (a+2*bs).toNat l):=⟨by rw [hlen]; exact h0,h1,h2,h3,by omega,hle,rfl,⟨c+1,by rw [uay,← h7]; omega⟩,h8.sub fun x hx=>qvj hx,key,h9.sub fun x hx=>qvj hx,fun k hk=>by
    rw [qlg (c:=(a+2*bs).toNat) (qz3 (by omega) (by omega) (ua3 _)) hk];exact h10 k (by omega)⟩
   refine ⟨⟨h4,by omega,by omega,by omega,by omega,by simp only [big]; omega,h8,key,h9,hseg1,hseg2⟩,hI,by omega,hI,?_⟩;have e:qhi n bs a g l=qhi n bs (a+2*bs) g (zj (zb g) a.toNat (a+2*bs).toNat l):=by
    unfold qhi
    conv=>lhs; unfold qc3
    rw [if_pos (by omega),show a.toNat+2*bs.toNat=(a+2*bs).toNat by omega];exact qp5 (by omega) _ _ _ _ (by omega) (by omega)
   rw [e] at hq;exact hq
  ·exfalso;omega
 ·have hgt:¬ a+2*bs<=n:=uac hi;have e:qhi n bs a g l=(a.toNat,l):=by
   unfold qhi qc3;rw [if_neg (by omega)]
  rw [e] at hq;have e2:((a.toNat:Nat):Int)=a:=by omega
  simp only [e2] at hq;exact hq
theorem yj0:qf Tryz.prog (.loop zdo) qgi.M qgi yar:=by
 refine qf.loop (n:=63) (id:=4) ykx (inv:=fun x=>InvPas x.1.1 x.1.2.2.1 x.1.2.2.2.1 x.1.2.2.2.2.1 x.1.2.1 x.2.1) (μ:=fun x=>(x.1.1-x.1.2.2.2.1).toNat) ?_ (fun x Q h=>h.1);rintro ⟨⟨n,g,bs,a,b,_⟩,⟨l,_⟩⟩ hinv Q hq;exact yoi n bs a b g l hinv Q hq.2
noncomputable def yp8:Nat->St->Option Tr:=fun _=>qgi.han CI3.Γ qgi.M yar
abbrev qgf:Pt:=⟨63,2,⟨[(1,.d i64),(2,zi),(6,.d i64)],[.al 10000 0,.o 0 3 i64]⟩,⟨[],[.al 10000 0,.o 0 3 i64]⟩,⟨[],[]⟩⟩
noncomputable def zki (x:qgf.M.X):Fr qgf.Out:=
 let n:=x.1.1; let g:=x.1.2.1; let bs:=x.1.2.2.1; let l:=x.2.1
 let r:=qhi n bs 0 (g.1,g.2) l
 Fr.br (decide (bs<n))
  (Fr.need (InvPas n bs 0 (IntKind.i64.wrap (2*bs)) (g.1,g.2) l)
   (Fr.br (decide (IntKind.i64.wrap ((r.1:Int)+bs)<n))
    (Fr.need (SymOk big r.1 (IntKind.i64.wrap ((r.1:Int)+bs)) n (g.1,g.2) r.2)
     (Fr.val (Rd.next ((n,(g.1,g.2),IntKind.i64.wrap (bs*2),()),(((qqm big).f r.2 ((r.1:Int),IntKind.i64.wrap ((r.1:Int)+bs),n,(g.1,g.2),())).1,())))))
    (Fr.val (Rd.next ((n,(g.1,g.2),IntKind.i64.wrap (bs*2),()),(r.2,()))))))
  (Fr.val (Rd.out ((),(l,()))))
theorem yjn {E:Env}:jw Tryz.prog E yp8 (qo Tryz.f183 1) 0:=
 ydd (b:=zdo) (by kernel_rfl) (by kernel_rfl) (qf.han qnt rfl yj0)
theorem ykt:qf Tryz.prog (qo Tryz.f183 1) qgf.M qgf zki:=
 qf.of_run qnt (bs:=0) (Λ:=yp8) rfl rfl rfl (fun E=>yjn) (fun x=>by kernel_rfl)
structure InvAll (n bs:Int) (g:zi.den) (l:List Int):Prop where
 nl:n=l.length
 big:n<=4611686018427387903
 bs0:0<bs
 dom:qhx g l
 key:∃ key:Int->Int,LtK (zb g) key l/\zhs key bs.toNat l
def yal (x:qgf.M.X):Fr qgf.Out:=
 let n:=x.1.1; let g:=x.1.2.1; let bs:=x.1.2.2.1; let l:=x.2.1
 Fr.need (InvAll n bs g l) (Fr.val (Rd.out ((),(xm (zb g) n.toNat n.toNat bs.toNat l,()))))
theorem yod (n bs:Int) (g:zi.den) (l:List Int) (hinv:InvAll n bs g l) (Q:qgf.Out->Prop)
  (hq:Q (Rd.out ((),(xm (zb g) n.toNat n.toNat bs.toNat l,())))):(zki ((n,g,bs,()),(l,()))).satP fun
   |.next x'=>InvAll x'.1.1 x'.1.2.2.1 x'.1.2.1 x'.2.1/\(x'.1.1-x'.1.2.2.1).toNat<(n-bs).toNat/\(yal x').satP Q
   |.out y=>Q (.out y)
   |.back z=>Q (.back z)
   |.pan p=>Q (.pan p):=by
 obtain ⟨h0,h1,h2,h3,key,h4,h5⟩:=hinv;dsimp only [zki,Fr.satP,Ty.den,PT.den,qqm];refine ⟨fun hi=>?_,fun hi=>?_⟩
 ·have hlt:bs<n:=ua5 hi;have w1:IntKind.i64.wrap (2*bs)=2*bs:=uag _ (by omega);have w2:IntKind.i64.wrap (bs*2)=bs*2:=uag _ (by omega);have hr:=qll (key:=key) (lt:=zb g) (w:=2*bs.toNat) (n:=n.toNat) (by omega) (n.toNat+1) 0 l (by omega) (by omega) (by omega) ⟨0,by simp⟩ h4 (fun k hk=>by omega);obtain ⟨p1,p2,p3⟩:=zbf (lt:=zb g) (w:=bs.toNat) (n:=n.toNat) (l:=l) (key:=key) (by omega) (by omega) h4 h5;have hpas:qh4 (zb g) bs.toNat n.toNat l=if (qhi n bs 0 g l).1+bs.toNat<n.toNat then zj (zb g) (qhi n bs 0 g l).1 n.toNat (qhi n bs 0 g l).2 else (qhi n bs 0 g l).2:=rfl
  have hstep:xm (zb g) n.toNat n.toNat bs.toNat l=xm (zb g) n.toNat n.toNat (bs*2).toNat (qh4 (zb g) bs.toNat n.toNat l):=by
   obtain ⟨f,hf⟩:∃ f,n.toNat=f+1:=⟨n.toNat-1,by omega⟩
   conv=>lhs; rw [show xm (zb g) n.toNat n.toNat bs.toNat l=xm (zb g) n.toNat (f+1) bs.toNat l by rw [← hf]]
   simp only [xm];rw [if_pos (by omega),show (bs*2).toNat=2*bs.toNat by omega];exact qmo _ _ _ _ (by omega) (by omega) (by omega)
  have hI:InvAll n (bs*2) g (qh4 (zb g) bs.toNat n.toNat l):=⟨by omega,h1,by omega,h3.sub fun x hx=>p2.mem.1 hx,key,h4.sub fun x hx=>p2.mem.1 hx,by rw [show (bs*2).toNat=2*bs.toNat by omega]; exact p1⟩;have hfin:InvAll n (bs*2) g (qh4 (zb g) bs.toNat n.toNat l)/\(n-bs*2).toNat<(n-bs).toNat/\InvAll n (bs*2) g (qh4 (zb g) bs.toNat n.toNat l)/\Q (Rd.out ((),(xm (zb g) n.toNat n.toNat (bs*2).toNat (qh4 (zb g) bs.toNat n.toNat l),()))):=⟨hI,by omega,hI,by rw [← hstep]; exact hq⟩;rw [w1,w2];have hb:(qc3 (zb g) (2*bs.toNat) n.toNat (n.toNat+1) 0 l)=qhi n bs 0 g l:=rfl;rw [hb] at hr;refine ⟨⟨h0,h1,h2,hlt,ua4 _,by omega,by omega,⟨0,by simp⟩,h3,key,h4,fun k _=>h5 k⟩,?_⟩;have e:(g.1,g.2)=g:=rfl;simp only [e];generalize qhi n bs 0 g l=r at hr hpas ⊢;obtain ⟨⟨c,hc⟩,q2,q3,q4,q5,q6,q7⟩:=hr;have w3:IntKind.i64.wrap ((r.1:Int)+bs)=r.1+bs:=uag _ (by omega);rw [w3];refine ⟨fun hj=>?_,fun hj=>?_⟩
  ·have hj':(r.1:Int)+bs<n:=ua5 hj;rw [if_pos (by omega)] at hpas;have hd:r.2.drop r.1=l.drop r.1:=q6;have hm1:2*c*bs.toNat=r.1:=by rw [hc,← ueq,ud5 c 2]
   have hm2:(2*c+1)*bs.toNat=r.1+bs.toNat:=by rw [uay,hm1]
   have s1:yj key (seg r.1 (r.1+bs.toNat) r.2):=by
    rw [qlg hd (ua3 _),← hm1];exact h5 (2*c)
   have s2:yj key (seg (r.1+bs.toNat) n.toNat r.2):=by
    have:seg (r.1+bs.toNat) n.toNat r.2=seg (r.1+bs.toNat) (r.1+bs.toNat+bs.toNat) r.2:=by
     unfold seg;rw [List.take_of_length_le (by omega),List.take_of_length_le (by omega)]
    rw [this,qlg hd (by omega),← hm2];exact h5 (2*c+1)
   refine ⟨⟨by omega,by omega,by omega,by omega,by omega,by simp only [big]; omega,h3.sub fun x hx=>q5.mem.1 hx,key,h4.sub fun x hx=>q5.mem.1 hx,?_,?_⟩,?_⟩
   ·rw [show ((r.1:Int)+bs).toNat=r.1+bs.toNat by omega];exact s1
   ·rw [show ((r.1:Int)+bs).toNat=r.1+bs.toNat by omega];exact s2
   ·rw [hpas] at hfin;exact hfin
  ·have hj':¬ (r.1:Int)+bs<n:=uac hj;rw [if_neg (by omega)] at hpas;rw [hpas] at hfin;exact hfin
 ·have hge:¬ bs<n:=uac hi;have:xm (zb g) n.toNat n.toNat bs.toNat l=l:=by
   rw [qmo _ 0 _ _ (by omega) (by omega) (by omega)];rfl
  rw [this] at hq;exact hq
theorem yjv:qf Tryz.prog (.loop (qo Tryz.f183 1)) qgf.M qgf yal:=by
 refine qf.loop (n:=63) (id:=2) ykt (inv:=fun x=>InvAll x.1.1 x.1.2.2.1 x.1.2.1 x.2.1) (μ:=fun x=>(x.1.1-x.1.2.2.1).toNat) ?_ (fun x Q h=>h.1);rintro ⟨⟨n,g,bs,_⟩,⟨l,_⟩⟩ hinv Q hq;exact yod n bs g l hinv Q hq.2
noncomputable def yrw:Nat->St->Option Tr
 |0=>qgg.han CI3.Γ qgg.M yan
 |_=>qgf.han CI3.Γ qgf.M yal
noncomputable def zhj:Mt:=⟨3,i64,[.d i64,zi],[],fun l x=>(jq (zb x.2.1) l,()),fun l x=>[x.1=l.length,(l.length:Int)<=4611686018427387903,qgu x.2.1 l]⟩
noncomputable def zpq (l:List Int) (x:qn [.d i64,zi]):Fr (List Int×qi []):=
 let n:=x.1; let g:=x.2.1
 let r:=qnx n 0 (g.1,g.2) l
 Fr.need (InvBlk n 20 0 20 (g.1,g.2) l)
 (Fr.need ((0:Int)<=r.1)
  (Fr.need ((r.1:Int)<=n)
   (Fr.need (n<=(r.2.length:Int))
    (Fr.need ((r.2.length:Int)<=4611686018427387903)
     (Fr.need (qgu (g.1,g.2) r.2)
      (Fr.need (InvAll n 20 (g.1,g.2) (qkm.f r.2 ((r.1:Int),n,(g.1,g.2),())).1)
       (Fr.val (xm (zb (g.1,g.2)) n.toNat n.toNat (20:Int).toNat (qkm.f r.2 ((r.1:Int),n,(g.1,g.2),())).1,()))))))))
theorem yk5:SoundMt Tryz.prog 183 zhj:=
 qrb (qkn qnt (Λ:=yrw) (fn:=Tryz.f183) (fr:=zpq) (e:=3) (T:=i64) (ps:=[.d i64,zi]) (rs:=[]) (0,(fun _=>(0,()),fun _=>True),()) (by kernel_rfl) rfl rfl
  (fun c E hc=>zhf hc (by kernel_rfl) (b0:=qo Tryz.f183 0) (b1:=qo Tryz.f183 1) (by kernel_rfl) (by kernel_rfl) (qf.han qnt rfl yjw) (qf.han qnt rfl yjv)) (fun l x=>by kernel_rfl)) _ _ fun w F l xs vs _ _ _ hok=>by
  obtain ⟨n,g,rfl⟩:∃ (n:Int) (g:zi.den),xs=(n,g,()):=⟨xs.1,xs.2.1,rfl⟩;have hok':(n:Int)=(List.length (α:=Int) l:Int)/\(List.length (α:=Int) l:Int)<=4611686018427387903/\qgu g l:=hok;obtain ⟨h1,h2,h3,key,h4⟩:=hok';subst h1;have hr:=qll (key:=key) (lt:=zb g) (w:=20) (n:=List.length (α:=Int) l) (by omega) (List.length (α:=Int) l+1) 0 l (by omega) (by omega) rfl ⟨0,by simp⟩ h4 (fun k hk=>by omega);have hS:=zu6 h4;unfold zdz at hS;have hb:qnx (List.length (α:=Int) l:Int) 0 g l=qc3 (zb g) 20 (List.length (α:=Int) l) (List.length (α:=Int) l+1) 0 l:=rfl;dsimp only [zpq,Fr.ok,Fr.get,Ty.den,PT.den,qkm,zhj];have e:(g.1,g.2)=g:=rfl;simp only [e,hb];simp only at hS;generalize qc3 (zb g) 20 (List.length (α:=Int) l) (List.length (α:=Int) l+1) 0 l=r at hr hS ⊢;obtain ⟨p1,p2,p3⟩:=hr.last h4;have q2:=hr.le;have q4:=hr.len;have hm:∀ x∈r.2,x∈l:=fun x hx=>hr.same.mem.1 hx;have hm2:∀ x∈zj (zb g) r.1 (List.length (α:=Int) l) r.2,x∈l:=fun x hx=>p2.mem.1 hx;refine ⟨⟨⟨rfl,h2,rfl,by omega,by omega,rfl,h3,key,h4⟩,by omega,by omega,by omega,by omega,⟨h3.sub hm,key,h4.sub hm⟩,⟨congrArg (fun n:Nat=>(n:Int)) p3.symm,h2,by omega,h3.sub hm2,key,h4.sub hm2,p1⟩,trivial⟩,?_⟩;show (xm (zb g) (List.length (α:=Int) l) (List.length (α:=Int) l) 20 (zj (zb g) r.1 (List.length (α:=Int) l) r.2),())=(jq (zb g) l,());rw [hS]
noncomputable def CI4:Cx:=cxK [] [] (mtK (cx [] []).Γ 183 zhj)
theorem ylv:CxOK Tryz.prog CI4:=qc4 qv trivial trivial (qoe vw.ct yk5)
noncomputable def zhi:Mt:=⟨3,i64,[zi],[],fun l x=>(jq (zb x.1) l,()),fun l x=>[(l.length:Int)<=4611686018427387903,qgu x.1 l]⟩
noncomputable def yi5 (l:List Int) (x:qn [zi]):Fr (List Int×qi []):=
 Fr.need ((l.length:Int)=l.length) (Fr.need ((l.length:Int)<=4611686018427387903) (Fr.need (qgu (x.1.1,x.1.2) l) (Fr.val ((zhj.f l ((l.length:Int),(x.1.1,x.1.2),())).1,()))))
theorem yk2:SoundMt Tryz.prog 146 zhi:=
 qrb (qkn ylv (Λ:=qq) (fn:=Tryz.f146) (fr:=yi5) (e:=3) (T:=i64) (ps:=[zi]) (rs:=[]) ((fun _=>(0,()),fun _=>True),()) (by kernel_rfl) rfl rfl
  (fun c E _=>qe c 0) (fun l x=>by kernel_rfl)) _ _ fun w F l xs vs _ _ _ hok=>by
  obtain ⟨g,rfl⟩:∃ g:zi.den,xs=(g,()):=⟨xs.1,rfl⟩;exact ⟨⟨rfl,hok.1,hok.2,trivial⟩,rfl⟩
noncomputable def CH2:Cx:=cx [(210,qwo),(184,qja)] []
theorem zhu:CxOK Tryz.prog CH2:=zc qv ⟨zpz,zdh,trivial⟩ trivial
def srt:List Int->Bool
 |a::b::r=>decide (a<=b)&&srt (b::r)
 |_=>true
theorem zmq:(l:List Int)->(a b:Int)->srt (l++[a,b])=(srt (l++[a])&&decide (a<=b))
 |[],a,b=>by simp [srt]
 |[x],a,b=>by simp [srt]
 |x::y::l,a,b=>by
  have:=zmq (y::l) a b;simp only [uaz,srt] at this ⊢;rw [this,Bool.and_assoc]
abbrev qfl:Pt:=⟨21,0,⟨[(0,.d jg),(3,.d i64)],[]⟩,⟨[],[]⟩,⟨[(2,.d .bool)],[]⟩⟩
def zkv (x:qfl.M.X):Fr qfl.Out:=
 Fr.br (decide (x.1.2.1>0))
  (Fr.need (0<=x.1.2.1/\x.1.2.1<x.1.1.length)
   (Fr.need (0<=IntKind.i64.wrap (x.1.2.1-1)/\IntKind.i64.wrap (x.1.2.1-1)<x.1.1.length)
    (Fr.br (qwo.f (x.1.1.getD x.1.2.1.toNat i64.dflt,x.1.1.getD (IntKind.i64.wrap (x.1.2.1-1)).toNat i64.dflt,())).1
     (Fr.val (Rd.back ((false,()),())))
     (Fr.val (Rd.next ((x.1.1,IntKind.i64.wrap (x.1.2.1-1),()),()))))))
  (Fr.val (Rd.out ((),())))
theorem yk0:qf Tryz.prog (qo Tryz.f193 0) qfl.M qfl zkv:=
 qf.of_run zhu (bs:=0) (Λ:=qq) rfl rfl rfl (fun E=>qe _ 0) (fun x=>by kernel_rfl)
def InS (l:List Int) (i:Int):Prop:=-1<=i/\i<l.length/\(l.length:Int)<=9223372036854775807
def yat (x:qfl.M.X):Fr qfl.Out:=
 Fr.need (InS x.1.1 x.1.2.1) (Fr.br (srt (x.1.1.take (x.1.2.1+1).toNat)) (Fr.val (Rd.out ((),()))) (Fr.val (Rd.back ((false,()),()))))
theorem ye2 (l:List Int) (k:Nat) (h:k+1<l.length):srt (l.take (k+2))=(srt (l.take (k+1))&&decide (l[k]<=l[k+1])):=by
 have e1:l.take (k+1)=l.take k++[l[k]]:=(uge (show k<l.length by omega)).symm;have e2:l.take (k+2)=l.take k++[l[k],l[k+1]]:=by
  have e3:l.take (k+2)=l.take (k+1)++[l[k+1]]:=(uge h).symm;rw [e3,e1,ubf];rfl
 rw [e2,e1,zmq]
theorem yok (l:List Int) (i:Int) (hinv:InS l i) (Q:qfl.Out->Prop)
  (hq:(Fr.br (srt (l.take (i+1).toNat)) (Fr.val (Rd.out ((),()))) (Fr.val (Rd.back ((false,()),()))):Fr qfl.Out).satP Q) :
  (zkv ((l,i,()),())).satP fun
   |.next x'=>InS x'.1.1 x'.1.2.1/\x'.1.2.1.toNat<i.toNat/\(yat x').satP Q
   |.out y=>Q (.out y)
   |.back z=>Q (.back z)
   |.pan p=>Q (.pan p):=by
 obtain ⟨h1,h2,h3⟩:=hinv;refine ⟨fun hi=>?_,fun hi=>?_⟩
 ·have hi':i>0:=ua5 hi;obtain ⟨k,hk⟩:∃ k:Nat,i=k+1:=⟨(i-1).toNat,by omega⟩;subst hk;have hw:IntKind.i64.wrap ((k:Int)+1-1)=k:=by rw [show (k:Int)+1-1=k by omega]; exact uag _ (by omega)
  have hl:k+1<l.length:=by omega
  have g1:l.getD ((k:Int)+1).toNat i64.dflt=l[k+1]:=by
   rw [show ((k:Int)+1).toNat=k+1 by omega,ua6,ua7 hl]; rfl
  have g2:l.getD (k:Int).toNat i64.dflt=l[k]:=by
   rw [show (k:Int).toNat=k by omega,ua6,ua7 (show k<l.length by omega)]; rfl
  have e1:((k:Int)+1+1).toNat=k+2:=by omega
  rw [e1,ye2 l k hl] at hq;dsimp only [zkv,Fr.satP,qwo];rw [hw,g1,g2];have hI:InS l k:=⟨by omega,by omega,h3⟩;refine ⟨⟨(show (0:Int)<=(k:Int)+1 by omega),h2⟩,⟨(show (0:Int)<=(k:Int) by omega),(show (k:Int)<(l.length:Int) by omega)⟩,fun hc=>?_,fun hc=>?_⟩
  ·have hc':¬ l[k]<=l[k+1]:=by have:=ua5 hc; exact ufj.2 this
   rw [uao hc',uea] at hq;exact hq.2 rfl
  ·have hc':l[k]<=l[k+1]:=by have:=uac hc; exact udt.1 this
   rw [uan hc',ue6] at hq;exact ⟨hI,by omega,hI,by rw [show ((k:Int)+1).toNat=k+1 by omega]; exact hq⟩
 ·have hi':¬ i>0:=uac hi;have hle:(i+1).toNat<=1:=by omega
  have:srt (l.take (i+1).toNat)=true:=by
   rcases uar (i+1).toNat 1 with h|h
   ·rw [show (i+1).toNat=0 by omega]; rfl
   ·rw [show (i+1).toNat=1 by omega];cases l<;>rfl
  rw [this] at hq;exact hq.1 rfl
theorem yj2:qf Tryz.prog (.loop (qo Tryz.f193 0)) qfl.M qfl yat:=by
 refine qf.loop (n:=21) (id:=0) yk0 (inv:=fun x=>InS x.1.1 x.1.2.1) (μ:=fun x=>x.1.2.1.toNat) ?_ (fun x Q h=>h.1);rintro ⟨⟨l,i,_⟩,_⟩ hinv Q hq;exact yok l i hinv Q hq.2
noncomputable def yte:Nat->St->Option Tr:=fun _=>qfl.han CH2.Γ qfl.M yat
def zcp:Ct:=⟨[.d jg],[.bool],fun x=>(srt x.1,()),fun _=>[]⟩
def zxj (x:qn [.d jg]):Fr (qi [.bool]):=
 Fr.need (InS x.1 (IntKind.i64.wrap (x.1.length-1))) (Fr.br (srt (x.1.take (IntKind.i64.wrap (x.1.length-1)+1).toNat)) (Fr.val (true,())) (Fr.val (false,())))
theorem zzm:qa Tryz.prog 193 zcp:=
 conv (qg zhu (Λ:=yte) (fn:=Tryz.f193) (fr:=zxj) (ps:=[.d jg]) (rs:=[.bool]) ([],()) (by kernel_rfl)
  (fun c E hc=>jb hc (by kernel_rfl) (b:=qo Tryz.f193 0) (by kernel_rfl) (qf.han zhu rfl yj2)) (fun x=>by kernel_rfl)) _ _ fun w F xs vs hr _=>by
  obtain ⟨l,_⟩:=xs;obtain ⟨v,vs',rfl,hv,_⟩:=hr;have hwf:=qs.wf hv.2.2;have hlen:l.length<=maxLen:=hwf.1;have hw:IntKind.i64.wrap ((l.length:Int)-1)=l.length-1:=uag _ (by simp only [maxLen] at hlen; omega);have ht:l.take ((l.length:Int)-1+1).toNat=l:=udc (by omega);refine ⟨⟨?_,fun _=>trivial,fun _=>trivial⟩,?_⟩
  ·show InS l (IntKind.i64.wrap ((l.length:Int)-1));rw [hw];simp only [maxLen] at hlen;exact ⟨by omega,by omega,by omega⟩
  ·show (if srt (l.take (IntKind.i64.wrap ((l.length:Int)-1)+1).toNat)=true then (true,()) else (false,()))=(srt l,());rw [hw,ht];cases srt l<;>rfl
noncomputable def CH3:Cx:=cx [(193,zcp),(184,qja)] []
theorem zvm:CxOK Tryz.prog CH3:=zc qv ⟨zzm,zdh,trivial⟩ trivial
def qu3 (x:qn [.d qc]):Fr (qi [.bool]):=
 Fr.br (bif decide (x.1.1≥0) then decide (x.1.1<8) else false) (Fr.br (bif decide (x.1.2.2.2.2.1≥1) then decide (x.1.2.2.2.2.1<=10000) else false) (Fr.br (zcp.f ([0,x.1.2.2.2.1,IntKind.i64.wrap (x.1.2.1-1),IntKind.i64.wrap (x.1.2.2.1-1),999999999999999],())).1 (Fr.val (decide (x.1.2.2.2.1<x.1.2.1),())) (Fr.val (false,()))) (Fr.val (false,()))) (Fr.val (false,()))
theorem zkm:qa Tryz.prog 160 ⟨[.d qc],[.bool],fun xs=>(qu3 xs).get,fun xs=>[(qu3 xs).ok]⟩:=
 qg zvm (Λ:=qq) (fn:=Tryz.f160) (dfP [.d qc]) (by kernel_rfl) (fun c E _=>qe c 0) (fun x=>by kernel_rfl)
def zkl (x:qn [.d i64,.d i64]):Fr (qi [i64]):=
 Fr.br (qja.f (x.1,())).1 (Fr.br (qja.f (x.2.1,())).1 (Fr.val (0,())) (Fr.val (-1,()))) (Fr.br (qja.f (x.2.1,())).1 (Fr.val (1,())) (Fr.br (decide (x.1<x.2.1)) (Fr.val (-1,())) (Fr.br (decide (x.1>x.2.1)) (Fr.val (1,())) (Fr.val (0,())))))
theorem zxe:qa Tryz.prog 148 ⟨[.d i64,.d i64],[i64],fun xs=>(zkl xs).get,fun xs=>[(zkl xs).ok]⟩:=
 qg zvm (Λ:=qq) (fn:=Tryz.f148) (dfP [.d i64,.d i64]) (by kernel_rfl) (fun c E _=>qe c 0) (fun x=>by kernel_rfl)
def zkp (x:qn [.d zy,.d i64]):Fr (qi [.bool]):=
 Fr.val (bif decide (x.2.1≥(qwn.f ((x.1.1,x.1.2.1,()),())).1.1) then decide (x.2.1<(qwn.f ((x.1.1,x.1.2.1,()),())).1.2.1) else false,())
theorem zxh:qa Tryz.prog 43 ⟨[.d zy,.d i64],[.bool],fun xs=>(zkp xs).get,fun xs=>[(zkp xs).ok]⟩:=
 qg zvl (Λ:=qq) (fn:=Tryz.f43) (dfP [.d zy,.d i64]) (by kernel_rfl) (fun c E _=>qe c 0) (fun x=>by kernel_rfl)
def qy4 (x:qn [.d zy]):Fr (qi [i64]):=
 Fr.val (IntKind.i64.wrap ((qwn.f ((x.1.1,x.1.2.1,()),())).1.2.1-(qwn.f ((x.1.1,x.1.2.1,()),())).1.1),())
theorem znz:qa Tryz.prog 68 ⟨[.d zy],[i64],fun xs=>(qy4 xs).get,fun xs=>[(qy4 xs).ok]⟩:=
 qg zvl (Λ:=qq) (fn:=Tryz.f68) (dfP [.d zy]) (by kernel_rfl) (fun c E _=>qe c 0) (fun x=>by kernel_rfl)
theorem ygw {n:Int} (h:Wf i64 n) : -9223372036854775808<=n/\n<=9223372036854775807:=h
theorem zf5 {n:Int} (h : -9223372036854775808<=n/\n<=9223372036854775807):(n = -9223372036854775808/\IntKind.i64.wrap (n-1)=9223372036854775807)∨(-9223372036854775808<n/\IntKind.i64.wrap (n-1)=n-1):=by
 by_cases hn:n = -9223372036854775808
 ·left;subst hn;exact ⟨rfl,by kernel_rfl⟩
 ·right;exact ⟨by omega,qdi (by omega)⟩
theorem ybo (p l g d s:Int) (hl : -9223372036854775808<=l/\l<=9223372036854775807) (hg : -9223372036854775808<=g/\g<=9223372036854775807) :
  (srt [0,d,IntKind.i64.wrap (l-1),IntKind.i64.wrap (g-1),999999999999999]&&decide (d<l))=decide (0<=d/\d<l/\l<=g/\g<=1000000000000000):=by
 rw [uau];simp only [srt,ua1,uab];rcases zf5 hl with ⟨h1,h2⟩|⟨h1,h2⟩<;>rcases zf5 hg with ⟨h3,h4⟩|⟨h3,h4⟩<;>rw [h2,h4]
 ·omega
 ·omega
 ·omega
 ·constructor
  ·rintro ⟨⟨a1,a2,a3,a4,_⟩,a5⟩;exact ⟨a1,a5,by omega,by omega⟩
  ·rintro ⟨a1,a2,a3,a4⟩;exact ⟨⟨a1,by omega,by omega,by omega,trivial⟩,a2⟩
theorem zi7:qa Tryz.prog 160 qf7:=
 conv zkm _ _ (fun w F x vs hr _=>by
  obtain ⟨⟨p,l,g,d,s,_⟩,_⟩:=x;obtain ⟨v,vs',rfl,hv,_⟩:=hr;have hwf:=qs.wf hv.2.2;refine ⟨by simp [qr,Fr.ok,qu3],?_⟩;have hb:=ybo p l g d s (ygw hwf.2.1) (ygw hwf.2.2.1);show (if (bif decide (p≥0) then decide (p<8) else false)=true then (if (bif decide (s≥1) then decide (s<=10000) else false)=true then (if srt [0,d,IntKind.i64.wrap (l-1),IntKind.i64.wrap (g-1),999999999999999]=true then (decide (d<l),()) else (false,())) else (false,())) else (false,()))=(qhl p l g d s,());have h1:(if srt [0,d,IntKind.i64.wrap (l-1),IntKind.i64.wrap (g-1),999999999999999]=true then ((decide (d<l),()):Bool×Unit) else (false,()))=(decide (0<=d/\d<l/\l<=g/\g<=1000000000000000),()):=by
   rw [← hb];cases srt [0,d,IntKind.i64.wrap (l-1),IntKind.i64.wrap (g-1),999999999999999]<;>rfl
  rw [h1];have h2:∀ (a b c:Bool),(if a=true then (if b=true then ((c,()):Bool×Unit) else (false,())) else (false,()))=(a&&(b&&c),()):=fun a b c=>by cases a<;>cases b<;>rfl
  rw [h2];congr 1;rw [uau];simp only [qhl,ufk,ua1,uab];exact ⟨fun ⟨⟨a1,a2⟩,⟨a3,a4⟩,a5⟩=>⟨a1,a2,a3,a4,a5⟩,fun ⟨a1,a2,a3,a4,a5⟩=>⟨⟨a1,a2⟩,⟨a3,a4⟩,a5⟩⟩)
def zr2 (a b:Int):Int:=if a<b then -1 else if b<a then 1 else 0
def ybd:Ct:=⟨[.d i64,.d i64],[i64],fun x=>(zr2 x.1 x.2.1,()),fun _=>[]⟩
theorem ynd:qa Tryz.prog 148 ybd:=
 conv zxe _ _ (fun _ _ x _ _ _=>by
  obtain ⟨a,b,_⟩:=x;refine ⟨by simp [qr,Fr.ok,zkl],?_⟩;show (if decide (a<b)=true then ((-1:Int),()) else if decide (a>b)=true then (1,()) else (0,()))=(if a<b then -1 else if b<a then 1 else 0,());by_cases h1:a<b
  ·rw [if_pos (uan h1),if_pos h1]
  ·rw [if_neg (by simp [h1]),if_neg h1];by_cases h2:b<a
   ·rw [if_pos (uan h2),if_pos h2]
   ·rw [if_neg (by simpa using h2),if_neg h2])
theorem yqx (a b d:Int):(bif decide (d≥(qsv (a,b,())).1) then decide (d<(qsv (a,b,())).2.1) else false)=inB a b d:=by
 unfold qsv;by_cases h:wk (a,b,())=true
 ·rw [if_pos h];obtain ⟨h1,h2,h3⟩:=qcw.1 h;simp only [ufk,inB];rw [uau];simp only [ua1,uab,Ty.den,PT.den];constructor
  ·rintro ⟨a1,a2⟩; exact ⟨h1,h3,a1,a2⟩
  ·rintro ⟨_,_,a1,a2⟩; exact ⟨a1,a2⟩
 ·rw [if_neg h];have h':¬ (1<=a/\a<b/\b<=292195):=fun hh=>h (qcw.2 hh);simp only [ufk,inB];rw [uau];simp only [ua1,uab];constructor
  ·rintro ⟨a1,a2⟩;have a1':(0:Int)<=d:=a1;have a2':d<(0:Int):=a2;omega
  ·rintro ⟨a1,a2,a3,a4⟩;exact absurd ⟨a1,by omega,a2⟩ h'
theorem qlv:qa Tryz.prog 43 cIn:=
 conv zxh _ _ (fun _ _ x _ _ _=>by
  obtain ⟨⟨a,b,_⟩,d,_⟩:=x;refine ⟨by simp [qr,Fr.ok,zkp],?_⟩;exact ubb (·,()) (yqx a b d))
def qsz (a b:Int):Int:=if wk (a,b,())=true then b-a else 0
def qi9:Ct:=⟨[.d zy],[i64],fun x=>(qsz x.1.1 x.1.2.1,()),fun _=>[]⟩
theorem zlh:qa Tryz.prog 68 qi9:=
 conv znz _ _ (fun _ _ x _ _ _=>by
  obtain ⟨⟨a,b,_⟩,_⟩:=x;refine ⟨by simp [qr,Fr.ok,qy4],?_⟩;show (IntKind.i64.wrap ((qsv (a,b,())).2.1-(qsv (a,b,())).1),())=(qsz a b,());unfold qsv qsz;by_cases h:wk (a,b,())=true
  ·rw [if_pos h,if_pos h];obtain ⟨h1,h2,h3⟩:=qcw.1 h;have hw:IntKind.i64.wrap (b-a)=b-a:=qdi (by omega);exact ubb (·,()) hw
  ·rw [if_neg h,if_neg h];rfl)
abbrev qy:Ty:=.pair i64 (.pair i64 .unit)
noncomputable def CH4:Cx:=cx [(160,qf7),(195,qf7)] []
theorem xj:CxOK Tryz.prog CH4:=zc qv ⟨zi7,zwk,trivial⟩ trivial
abbrev je:Pt:=⟨26,0,⟨[(5,.d i64),(0,.d (.sl qc)),(1,.d (.sl qc))],[]⟩,⟨[],[]⟩,⟨[(4,.d .bool)],[]⟩⟩
def qxw (x:je.M.X):Fr je.Out:=
 Fr.br (decide (x.1.1 < ↑(List.length x.1.2.1))) (Fr.need (0<=x.1.1/\x.1.1 < ↑(List.length x.1.2.1)) (Fr.need (0<=x.1.1/\x.1.1 < ↑(List.length x.1.2.2.1)) (Fr.br (!((List.getD x.1.2.1 (Int.toNat x.1.1) qc.dflt).1==(List.getD x.1.2.2.1 (Int.toNat x.1.1) qc.dflt).1&&((List.getD x.1.2.1 (Int.toNat x.1.1) qc.dflt).2.1==(List.getD x.1.2.2.1 (Int.toNat x.1.1) qc.dflt).2.1&&((List.getD x.1.2.1 (Int.toNat x.1.1) qc.dflt).2.2.1==(List.getD x.1.2.2.1 (Int.toNat x.1.1) qc.dflt).2.2.1&&((List.getD x.1.2.1 (Int.toNat x.1.1) qc.dflt).2.2.2.1==(List.getD x.1.2.2.1 (Int.toNat x.1.1) qc.dflt).2.2.2.1&&((List.getD x.1.2.1 (Int.toNat x.1.1) qc.dflt).2.2.2.2.1==(List.getD x.1.2.2.1 (Int.toNat x.1.1) qc.dflt).2.2.2.2.1&&true)))))) (Fr.val (Rd.back ((false,()),()))) (Fr.val (Rd.next ((IntKind.i64.wrap (x.1.1+1),x.1.2.1,x.1.2.2.1,()),())))))) (Fr.val (Rd.out ((),())))
theorem zmh:qf Tryz.prog (qo Tryz.f103 0) je.M je qxw:=
 qf.of_run xj (bs:=0) (Λ:=qq) rfl rfl rfl (fun E=>qe _ 0) (fun x=>by kernel_rfl)
abbrev qd4:Type:=qn [.d (.sl qc)]×jd []
def qa2 (e:(qc.den×qc.den)) (s:qd4):Fr (qd4 ⊕ je.R.X):=
 Fr.br (!(e.1.1==e.2.1&&(e.1.2.1==e.2.2.1&&(e.1.2.2.1==e.2.2.2.1&&(e.1.2.2.2.1==e.2.2.2.2.1&&(e.1.2.2.2.2.1==e.2.2.2.2.2.1&&true)))))) (Fr.val (.inr ((false,()),()))) (Fr.val (.inl ((s.1.1,()),())))
def xp (x:je.M.X):Int×List (qc.den×qc.den)×qd4:=(x.1.1,x.1.2.1.zip x.1.2.2.1,x.1.2.2,x.2)
def qh1 (x:je.M.X):Prop:=x.1.2.1.length=x.1.2.2.1.length
def qoh (s:qd4):je.E.X:=((),())
def qp9:qd4:=(dfP _,dfM _)
def qhm:je.R.X:=(dfP _,dfM _)
theorem zge:qf Tryz.prog (.loop (qo Tryz.f103 0)) je.M je (FL qa2 xp qh1 qoh Rd.back qp9 qhm):=by
 refine qf.list zmh qa2 xp qh1 qoh Rd.back qp9 qhm ?_ ?_
 ·rintro ⟨⟨i,l,s⟩,m⟩ hg h0 h1 hb e he Q h;have hz:l.length=s.1.length:=hg;have h0:0<=i:=h0;have h1:i<(l.length:Int):=qhw hz h1;have hb:(l.length:Int)<=9223372036854775807:=qhv hz hb;have h1z:i<(s.1.length:Int):=by rw [← hz]; exact h1
  have hd:l.getD i.toNat qc.dflt=e.1:=zp (qfr he);have hdz:s.1.getD i.toNat qc.dflt=e.2:=zp (qft he);have hw:=zu h0 h1 hb;dsimp only [xp,qa2,qxw,Fr.satP] at h ⊢;simp only [hd,hw,hdz] at h ⊢;refine ⟨fun _=>?_,fun hn=>absurd h1 (of_decide_eq_false hn)⟩
  repeat' first
   |exact h
   |exact ⟨h0,h1⟩
   |exact fun _=>⟨h0,h1⟩
   |exact ⟨h0,h1z⟩
   |exact fun _=>⟨h0,h1z⟩
   |exact h _ rfl hz
   |refine ⟨?_,?_⟩
   |(intro (hc:_=true); replace h:=h.1 hc)
   |(intro (hc:_=false); replace h:=h.2 hc)
 ·rintro ⟨⟨i,l,s⟩,m⟩ hg h1 Q h;have hz:l.length=s.1.length:=hg;exact ⟨fun hn=>absurd (ua5 hn) (qfs hz h1),fun _=>h⟩
def zvj (Γ:Gm):St->Option Tr:=je.han Γ je.M (FL qa2 xp qh1 qoh Rd.back qp9 qhm)
def qgl (y:je.M.X):qd4 ⊕ je.R.X:=goL qa2 ((xp y).2.1.drop (xp y).1.toNat) (xp y).2.2
def zlp (y:je.M.X):Prop:=okL qa2 ((xp y).2.1.drop (xp y).1.toNat) (xp y).2.2
abbrev wz:Pt:=⟨26,0,⟨[(14,.d i64),(13,.d i64),(12,.d (.sl qc)),(1,.d (.sl qc))],[]⟩,⟨[],[]⟩,⟨[(4,.d .bool)],[]⟩⟩
def zkh (x:wz.M.X):Fr wz.Out:=
 Fr.br (decide (x.1.1<x.1.2.1)) (Fr.need (0<=x.1.1/\x.1.1 < ↑(List.length x.1.2.2.1)) (Fr.need (0<=x.1.1/\x.1.1 < ↑(List.length x.1.2.2.2.1)) (Fr.br (!((List.getD x.1.2.2.1 (Int.toNat x.1.1) qc.dflt).1==(List.getD x.1.2.2.2.1 (Int.toNat x.1.1) qc.dflt).1&&((List.getD x.1.2.2.1 (Int.toNat x.1.1) qc.dflt).2.1==(List.getD x.1.2.2.2.1 (Int.toNat x.1.1) qc.dflt).2.1&&((List.getD x.1.2.2.1 (Int.toNat x.1.1) qc.dflt).2.2.1==(List.getD x.1.2.2.2.1 (Int.toNat x.1.1) qc.dflt).2.2.1&&((List.getD x.1.2.2.1 (Int.toNat x.1.1) qc.dflt).2.2.2.1==(List.getD x.1.2.2.2.1 (Int.toNat x.1.1) qc.dflt).2.2.2.1&&((List.getD x.1.2.2.1 (Int.toNat x.1.1) qc.dflt).2.2.2.2.1==(List.getD x.1.2.2.2.1 (Int.toNat x.1.1) qc.dflt).2.2.2.2.1&&true)))))) (Fr.val (Rd.back ((false,()),()))) (Fr.val (Rd.next ((IntKind.i64.wrap (x.1.1+1),x.1.2.1,x.1.2.2.1,x.1.2.2.2.1,()),())))))) (Fr.val (Rd.out ((),())))
theorem zzf:qf Tryz.prog (qo Tryz.f157 0) wz.M wz zkh:=
 qf.of_run xj (bs:=0) (Λ:=qq) rfl rfl rfl (fun E=>qe _ 0) (fun x=>by kernel_rfl)
abbrev qik:Type:=qn [.d (.sl qc)]×jd []
def qdz (e:(qc.den×qc.den)) (s:qik):Fr (qik ⊕ wz.R.X):=
 Fr.br (!(e.1.1==e.2.1&&(e.1.2.1==e.2.2.1&&(e.1.2.2.1==e.2.2.2.1&&(e.1.2.2.2.1==e.2.2.2.2.1&&(e.1.2.2.2.2.1==e.2.2.2.2.2.1&&true)))))) (Fr.val (.inr ((false,()),()))) (Fr.val (.inl ((s.1.1,()),())))
def qdc (x:wz.M.X):Int×List (qc.den×qc.den)×qik:=(x.1.1,x.1.2.2.1.zip x.1.2.2.2.1,x.1.2.2.2,x.2)
def qm0 (x:wz.M.X):Prop:=x.1.2.1=(x.1.2.2.1.length:Int)/\x.1.2.2.1.length=x.1.2.2.2.1.length
def qvf (s:qik):wz.E.X:=((),())
def qyq:qik:=(dfP _,dfM _)
def qn6:wz.R.X:=(dfP _,dfM _)
theorem zto:qf Tryz.prog (.loop (qo Tryz.f157 0)) wz.M wz (FL qdz qdc qm0 qvf Rd.back qyq qn6):=by
 refine qf.list zzf qdz qdc qm0 qvf Rd.back qyq qn6 ?_ ?_
 ·rintro ⟨⟨i,n,l,s⟩,m⟩ hg h0 h1 hb e he Q h;obtain ⟨hg,hz⟩:n=(l.length:Int)/\l.length=s.1.length:=hg;subst hg;have h0:0<=i:=h0;have h1:i<(l.length:Int):=qhw hz h1;have hb:(l.length:Int)<=9223372036854775807:=qhv hz hb;have h1z:i<(s.1.length:Int):=by rw [← hz]; exact h1
  have hd:l.getD i.toNat qc.dflt=e.1:=zp (qfr he);have hdz:s.1.getD i.toNat qc.dflt=e.2:=zp (qft he);have hw:=zu h0 h1 hb;dsimp only [qdc,qdz,zkh,Fr.satP] at h ⊢;simp only [hd,hw,hdz] at h ⊢;refine ⟨fun _=>?_,fun hn=>absurd h1 (of_decide_eq_false hn)⟩
  repeat' first
   |exact h
   |exact ⟨h0,h1⟩
   |exact fun _=>⟨h0,h1⟩
   |exact ⟨h0,h1z⟩
   |exact fun _=>⟨h0,h1z⟩
   |exact h _ rfl ⟨rfl,hz⟩
   |refine ⟨?_,?_⟩
   |(intro (hc:_=true); replace h:=h.1 hc)
   |(intro (hc:_=false); replace h:=h.2 hc)
 ·rintro ⟨⟨i,n,l,s⟩,m⟩ hg h1 Q h;obtain ⟨hg,hz⟩:n=(l.length:Int)/\l.length=s.1.length:=hg;subst hg;exact ⟨fun hn=>absurd (ua5 hn) (qfs hz h1),fun _=>h⟩
def ylk (Γ:Gm):St->Option Tr:=wz.han Γ wz.M (FL qdz qdc qm0 qvf Rd.back qyq qn6)
def ql6 (y:wz.M.X):qik ⊕ wz.R.X:=goL qdz ((qdc y).2.1.drop (qdc y).1.toNat) (qdc y).2.2
def zyh (y:wz.M.X):Prop:=okL qdz ((qdc y).2.1.drop (qdc y).1.toNat) (qdc y).2.2
abbrev zk:Pt:=⟨32,0,⟨[(8,.d i64),(7,.d i64),(6,.d (.sl qc)),(0,.d (.sl qc)),(3,.d i64)],[]⟩,⟨[(0,.d (.sl qc))],[]⟩,⟨[(2,.d .bool)],[]⟩⟩
def qph (x:zk.M.X):Fr zk.Out:=
 Fr.br (decide (x.1.1<x.1.2.1)) (Fr.need (0<=x.1.1/\x.1.1 < ↑(List.length x.1.2.2.1)) (Fr.br (bif decide ((List.getD x.1.2.2.1 (Int.toNat x.1.1) qc.dflt).1<=x.1.2.2.2.2.1) then true else !(qf7.f (((List.getD x.1.2.2.1 (Int.toNat x.1.1) qc.dflt).1,(List.getD x.1.2.2.1 (Int.toNat x.1.1) qc.dflt).2.1,(List.getD x.1.2.2.1 (Int.toNat x.1.1) qc.dflt).2.2.1,(List.getD x.1.2.2.1 (Int.toNat x.1.1) qc.dflt).2.2.2.1,(List.getD x.1.2.2.1 (Int.toNat x.1.1) qc.dflt).2.2.2.2.1,()),())).1) (Fr.val (Rd.back ((false,()),()))) (Fr.val (Rd.next ((IntKind.i64.wrap (x.1.1+1),x.1.2.1,x.1.2.2.1,x.1.2.2.2.1,(List.getD x.1.2.2.1 (Int.toNat x.1.1) qc.dflt).1,()),()))))) (Fr.val (Rd.out ((x.1.2.2.2.1,()),())))
theorem qzm:qf Tryz.prog (qo Tryz.f143 0) zk.M zk qph:=
 qf.of_run xj (bs:=0) (Λ:=qq) rfl rfl rfl (fun E=>qe _ 0) (fun x=>by kernel_rfl)
abbrev zl:Type:=qn [.d (.sl qc),.d i64]×jd []
def vq (e:qc.den) (s:zl):Fr (zl ⊕ zk.R.X):=
 Fr.br (bif decide (e.1<=s.1.2.1) then true else !(qf7.f ((e.1,e.2.1,e.2.2.1,e.2.2.2.1,e.2.2.2.2.1,()),())).1) (Fr.val (.inr ((false,()),()))) (Fr.val (.inl ((s.1.1,e.1,()),())))
def jt (x:zk.M.X):Int×List qc.den×zl:=(x.1.1,x.1.2.2.1,x.1.2.2.2,x.2)
def qd8 (x:zk.M.X):Prop:=x.1.2.1=(x.1.2.2.1.length:Int)
def ju (s:zl):zk.E.X:=((s.1.1,()),())
def ko:zl:=(dfP _,dfM _)
def qdu:zk.R.X:=(dfP _,dfM _)
theorem qxo:qf Tryz.prog (.loop (qo Tryz.f143 0)) zk.M zk (FL vq jt qd8 ju Rd.back ko qdu):=by
 refine qf.list qzm vq jt qd8 ju Rd.back ko qdu ?_ ?_
 ·rintro ⟨⟨i,n,l,s⟩,m⟩ hg h0 h1 hb e he Q h;have hg:n=(l.length:Int):=hg;subst hg;have h0:0<=i:=h0;have h1:i<(l.length:Int):=h1;have hb:(l.length:Int)<=9223372036854775807:=hb;have hd:l.getD i.toNat qc.dflt=e:=zp he;have hw:=zu h0 h1 hb;dsimp only [jt,vq,qph,Fr.satP] at h ⊢;simp only [hd,hw] at h ⊢;refine ⟨fun _=>?_,fun hn=>absurd h1 (of_decide_eq_false hn)⟩
  repeat' first
   |exact h
   |exact ⟨h0,h1⟩
   |exact fun _=>⟨h0,h1⟩
   |exact h _ rfl rfl
   |refine ⟨?_,?_⟩
   |(intro (hc:_=true); replace h:=h.1 hc)
   |(intro (hc:_=false); replace h:=h.2 hc)
 ·rintro ⟨⟨i,n,l,s⟩,m⟩ hg h1 Q h;have hg:n=(l.length:Int):=hg;subst hg;exact ⟨fun hn=>absurd (ua5 hn) h1,fun _=>h⟩
def zd3 (Γ:Gm):St->Option Tr:=zk.han Γ zk.M (FL vq jt qd8 ju Rd.back ko qdu)
def ky (y:zk.M.X):zl ⊕ zk.R.X:=goL vq ((jt y).2.1.drop (jt y).1.toNat) (jt y).2.2
def qze (y:zk.M.X):Prop:=okL vq ((jt y).2.1.drop (jt y).1.toNat) (jt y).2.2
abbrev yk:Pt:=⟨40,0,⟨[(3,.d i64),(0,.d (.sl qc))],[]⟩,⟨[],[]⟩,⟨[(2,.d .bool)],[]⟩⟩
def qtz (x:yk.M.X):Fr yk.Out:=
 Fr.br (decide (x.1.1 < ↑(List.length x.1.2.1))) (Fr.need (0<=x.1.1/\x.1.1 < ↑(List.length x.1.2.1)) (Fr.br (!(qf7.f (((List.getD x.1.2.1 (Int.toNat x.1.1) qc.dflt).1,(List.getD x.1.2.1 (Int.toNat x.1.1) qc.dflt).2.1,(List.getD x.1.2.1 (Int.toNat x.1.1) qc.dflt).2.2.1,(List.getD x.1.2.1 (Int.toNat x.1.1) qc.dflt).2.2.2.1,(List.getD x.1.2.1 (Int.toNat x.1.1) qc.dflt).2.2.2.2.1,()),())).1) (Fr.val (Rd.back ((false,()),()))) (Fr.br (decide (x.1.1>0)) (Fr.need (0<=x.1.1/\x.1.1 < ↑(List.length x.1.2.1)) (Fr.need (0<=IntKind.i64.wrap (x.1.1-1)/\IntKind.i64.wrap (x.1.1-1) < ↑(List.length x.1.2.1)) (Fr.br (decide ((List.getD x.1.2.1 (Int.toNat x.1.1) qc.dflt).1<=(List.getD x.1.2.1 (IntKind.i64.wrap (x.1.1-1)).toNat qc.dflt).1)) (Fr.val (Rd.back ((false,()),()))) (Fr.val (Rd.next ((IntKind.i64.wrap (x.1.1+1),x.1.2.1,()),())))))) (Fr.val (Rd.next ((IntKind.i64.wrap (x.1.1+1),x.1.2.1,()),())))))) (Fr.val (Rd.out ((),())))
theorem zdx:qf Tryz.prog (qo Tryz.f166 0) yk.M yk qtz:=
 qf.of_run xj (bs:=0) (Λ:=qq) rfl rfl rfl (fun E=>qe _ 0) (fun x=>by kernel_rfl)
abbrev qa1:Type:=(qn []×jd [])×Int×qc.den
def xf (e:qc.den) (s:qa1):Fr (qa1 ⊕ yk.R.X):=
 Fr.br (!(qf7.f ((e.1,e.2.1,e.2.2.1,e.2.2.2.1,e.2.2.2.2.1,()),())).1) (Fr.val (.inr ((false,()),()))) (Fr.br (decide (s.2.1>0)) (Fr.br (decide (e.1<=s.2.2.1)) (Fr.val (.inr ((false,()),()))) (Fr.val (.inl (((),()),s.2.1+1,e)))) (Fr.val (.inl (((),()),s.2.1+1,e))))
def ki (x:yk.M.X):Int×List qc.den×qa1:=(x.1.1,x.1.2.1,(x.1.2.2,x.2),x.1.1,x.1.2.1.getD (x.1.1-1).toNat qc.dflt)
def qf2 (x:yk.M.X):Prop:=True
def qkq (s:qa1):yk.E.X:=((),())
def qmd:qa1:=((dfP _,dfM _),0,qc.dflt)
def qfd:yk.R.X:=(dfP _,dfM _)
theorem za6:qf Tryz.prog (.loop (qo Tryz.f166 0)) yk.M yk (FL xf ki qf2 qkq Rd.back qmd qfd):=by
 refine qf.list zdx xf ki qf2 qkq Rd.back qmd qfd ?_ ?_
 ·rintro ⟨⟨i,l,s⟩,m⟩ hg h0 h1 hb e he Q h;have h0:0<=i:=h0;have h1:i<(l.length:Int):=h1;have hb:(l.length:Int)<=9223372036854775807:=hb;have hd:l.getD i.toNat qc.dflt=e:=zp he;have hq1:=zff h0 h1 hb;have hq2:=zly hd;have hq3:∀ {b:Bool},b=decide (i>0)->b=true->0<=i-1/\i-1<(l.length:Int):=fun hb1 hb2=>zqa h1 hb1 hb2;have hw:=zu h0 h1 hb;dsimp only [ki,xf,qtz,Fr.satP] at h ⊢;simp only [hd,hw,hq1] at h ⊢;refine ⟨fun _=>?_,fun hn=>absurd h1 (of_decide_eq_false hn)⟩
  repeat' first
   |exact h
   |exact ⟨h0,h1⟩
   |exact fun _=>⟨h0,h1⟩
   |exact hq3 rfl (by assumption)
   |(refine h _ ?_ trivial; simp only [ki,hq2])
   |refine ⟨?_,?_⟩
   |(intro (hc:_=true); replace h:=h.1 hc)
   |(intro (hc:_=false); replace h:=h.2 hc)
 ·rintro ⟨⟨i,l,s⟩,m⟩ hg h1 Q h;exact ⟨fun hn=>absurd (ua5 hn) h1,fun _=>h⟩
def znc (Γ:Gm):St->Option Tr:=yk.han Γ yk.M (FL xf ki qf2 qkq Rd.back qmd qfd)
def qer (y:yk.M.X):qa1 ⊕ yk.R.X:=goL xf ((ki y).2.1.drop (ki y).1.toNat) (ki y).2.2
def zdi (y:yk.M.X):Prop:=okL xf ((ki y).2.1.drop (ki y).1.toNat) (ki y).2.2
abbrev ya:Pt:=⟨37,0,⟨[(8,.d i64),(7,.d i64),(6,.d (.sl qy)),(0,.d (.sl qy)),(3,.d i64)],[]⟩,⟨[(0,.d (.sl qy))],[]⟩,⟨[(2,.d .bool)],[]⟩⟩
def qt0 (x:ya.M.X):Fr ya.Out:=
 Fr.br (decide (x.1.1<x.1.2.1)) (Fr.need (0<=x.1.1/\x.1.1 < ↑(List.length x.1.2.2.1)) (Fr.br (bif bif bif decide ((List.getD x.1.2.2.1 (Int.toNat x.1.1) qy.dflt).1<=x.1.2.2.2.2.1) then true else decide ((List.getD x.1.2.2.1 (Int.toNat x.1.1) qy.dflt).1>200) then true else decide ((List.getD x.1.2.2.1 (Int.toNat x.1.1) qy.dflt).2.1<0) then true else decide ((List.getD x.1.2.2.1 (Int.toNat x.1.1) qy.dflt).2.1>100000)) (Fr.val (Rd.back ((false,()),()))) (Fr.val (Rd.next ((IntKind.i64.wrap (x.1.1+1),x.1.2.1,x.1.2.2.1,x.1.2.2.2.1,(List.getD x.1.2.2.1 (Int.toNat x.1.1) qy.dflt).1,()),()))))) (Fr.val (Rd.out ((x.1.2.2.2.1,()),())))
theorem zdy:qf Tryz.prog (qo Tryz.f192 0) ya.M ya qt0:=
 qf.of_run xj (bs:=0) (Λ:=qq) rfl rfl rfl (fun E=>qe _ 0) (fun x=>by kernel_rfl)
abbrev yl:Type:=qn [.d (.sl qy),.d i64]×jd []
def xg (e:qy.den) (s:yl):Fr (yl ⊕ ya.R.X):=
 Fr.br (bif bif bif decide (e.1<=s.1.2.1) then true else decide (e.1>200) then true else decide (e.2.1<0) then true else decide (e.2.1>100000)) (Fr.val (.inr ((false,()),()))) (Fr.val (.inl ((s.1.1,e.1,()),())))
def ve (x:ya.M.X):Int×List qy.den×yl:=(x.1.1,x.1.2.2.1,x.1.2.2.2,x.2)
def qf3 (x:ya.M.X):Prop:=x.1.2.1=(x.1.2.2.1.length:Int)
def qbk (s:yl):ya.E.X:=((s.1.1,()),())
def qcf:yl:=(dfP _,dfM _)
def qfe:ya.R.X:=(dfP _,dfM _)
theorem za7:qf Tryz.prog (.loop (qo Tryz.f192 0)) ya.M ya (FL xg ve qf3 qbk Rd.back qcf qfe):=by
 refine qf.list zdy xg ve qf3 qbk Rd.back qcf qfe ?_ ?_
 ·rintro ⟨⟨i,n,l,s⟩,m⟩ hg h0 h1 hb e he Q h;have hg:n=(l.length:Int):=hg;subst hg;have h0:0<=i:=h0;have h1:i<(l.length:Int):=h1;have hb:(l.length:Int)<=9223372036854775807:=hb;have hd:l.getD i.toNat qy.dflt=e:=zp he;have hw:=zu h0 h1 hb;dsimp only [ve,xg,qt0,Fr.satP] at h ⊢;simp only [hd,hw] at h ⊢;refine ⟨fun _=>?_,fun hn=>absurd h1 (of_decide_eq_false hn)⟩
  repeat' first
   |exact h
   |exact ⟨h0,h1⟩
   |exact fun _=>⟨h0,h1⟩
   |exact h _ rfl rfl
   |refine ⟨?_,?_⟩
   |(intro (hc:_=true); replace h:=h.1 hc)
   |(intro (hc:_=false); replace h:=h.2 hc)
 ·rintro ⟨⟨i,n,l,s⟩,m⟩ hg h1 Q h;have hg:n=(l.length:Int):=hg;subst hg;exact ⟨fun hn=>absurd (ua5 hn) h1,fun _=>h⟩
def znd (Γ:Gm):St->Option Tr:=ya.han Γ ya.M (FL xg ve qf3 qbk Rd.back qcf qfe)
def qbo (y:ya.M.X):yl ⊕ ya.R.X:=goL xg ((ve y).2.1.drop (ve y).1.toNat) (ve y).2.2
def zdj (y:ya.M.X):Prop:=okL xg ((ve y).2.1.drop (ve y).1.toNat) (ve y).2.2
abbrev yu:Pt:=⟨57,0,⟨[(3,.d i64),(0,.d (.sl qy))],[]⟩,⟨[],[]⟩,⟨[(2,.d .bool)],[]⟩⟩
def qu4 (x:yu.M.X):Fr yu.Out:=
 Fr.br (decide (x.1.1 < ↑(List.length x.1.2.1))) (Fr.need (0<=x.1.1/\x.1.1 < ↑(List.length x.1.2.1)) (Fr.need (decide ((List.getD x.1.2.1 (Int.toNat x.1.1) qy.dflt).1<0)=false->0<=x.1.1/\x.1.1 < ↑(List.length x.1.2.1)) (Fr.need ((bif decide ((List.getD x.1.2.1 (Int.toNat x.1.1) qy.dflt).1<0) then true else decide ((List.getD x.1.2.1 (Int.toNat x.1.1) qy.dflt).1>200))=false->0<=x.1.1/\x.1.1 < ↑(List.length x.1.2.1)) (Fr.need ((bif bif decide ((List.getD x.1.2.1 (Int.toNat x.1.1) qy.dflt).1<0) then true else decide ((List.getD x.1.2.1 (Int.toNat x.1.1) qy.dflt).1>200) then true else decide ((List.getD x.1.2.1 (Int.toNat x.1.1) qy.dflt).2.1<0))=false->0<=x.1.1/\x.1.1 < ↑(List.length x.1.2.1)) (Fr.br (bif bif bif decide ((List.getD x.1.2.1 (Int.toNat x.1.1) qy.dflt).1<0) then true else decide ((List.getD x.1.2.1 (Int.toNat x.1.1) qy.dflt).1>200) then true else decide ((List.getD x.1.2.1 (Int.toNat x.1.1) qy.dflt).2.1<0) then true else decide ((List.getD x.1.2.1 (Int.toNat x.1.1) qy.dflt).2.1>100000)) (Fr.val (Rd.back ((false,()),()))) (Fr.br (decide (x.1.1>0)) (Fr.need (0<=x.1.1/\x.1.1 < ↑(List.length x.1.2.1)) (Fr.need (0<=IntKind.i64.wrap (x.1.1-1)/\IntKind.i64.wrap (x.1.1-1) < ↑(List.length x.1.2.1)) (Fr.br (decide ((List.getD x.1.2.1 (Int.toNat x.1.1) qy.dflt).1<=(List.getD x.1.2.1 (IntKind.i64.wrap (x.1.1-1)).toNat qy.dflt).1)) (Fr.val (Rd.back ((false,()),()))) (Fr.val (Rd.next ((IntKind.i64.wrap (x.1.1+1),x.1.2.1,()),())))))) (Fr.val (Rd.next ((IntKind.i64.wrap (x.1.1+1),x.1.2.1,()),()))))))))) (Fr.val (Rd.out ((),())))
theorem zgk:qf Tryz.prog (qo Tryz.f238 0) yu.M yu qu4:=
 qf.of_run xj (bs:=0) (Λ:=qq) rfl rfl rfl (fun E=>qe _ 0) (fun x=>by kernel_rfl)
abbrev qb2:Type:=(qn []×jd [])×Int×qy.den
def qac (e:qy.den) (s:qb2):Fr (qb2 ⊕ yu.R.X):=
 Fr.br (bif bif bif decide (e.1<0) then true else decide (e.1>200) then true else decide (e.2.1<0) then true else decide (e.2.1>100000)) (Fr.val (.inr ((false,()),()))) (Fr.br (decide (s.2.1>0)) (Fr.br (decide (e.1<=s.2.2.1)) (Fr.val (.inr ((false,()),()))) (Fr.val (.inl (((),()),s.2.1+1,e)))) (Fr.val (.inl (((),()),s.2.1+1,e))))
def vd (x:yu.M.X):Int×List qy.den×qb2:=(x.1.1,x.1.2.1,(x.1.2.2,x.2),x.1.1,x.1.2.1.getD (x.1.1-1).toNat qy.dflt)
def qg3 (x:yu.M.X):Prop:=True
def qmm (s:qb2):yu.E.X:=((),())
def qn7:qb2:=((dfP _,dfM _),0,qy.dflt)
def qf8:yu.R.X:=(dfP _,dfM _)
theorem zde:qf Tryz.prog (.loop (qo Tryz.f238 0)) yu.M yu (FL qac vd qg3 qmm Rd.back qn7 qf8):=by
 refine qf.list zgk qac vd qg3 qmm Rd.back qn7 qf8 ?_ ?_
 ·rintro ⟨⟨i,l,s⟩,m⟩ hg h0 h1 hb e he Q h;have h0:0<=i:=h0;have h1:i<(l.length:Int):=h1;have hb:(l.length:Int)<=9223372036854775807:=hb;have hd:l.getD i.toNat qy.dflt=e:=zp he;have hq1:=zff h0 h1 hb;have hq2:=zly hd;have hq3:∀ {b:Bool},b=decide (i>0)->b=true->0<=i-1/\i-1<(l.length:Int):=fun hb1 hb2=>zqa h1 hb1 hb2;have hw:=zu h0 h1 hb;dsimp only [vd,qac,qu4,Fr.satP] at h ⊢;simp only [hd,hw,hq1] at h ⊢;refine ⟨fun _=>?_,fun hn=>absurd h1 (of_decide_eq_false hn)⟩
  repeat' first
   |exact h
   |exact ⟨h0,h1⟩
   |exact fun _=>⟨h0,h1⟩
   |exact hq3 rfl (by assumption)
   |(refine h _ ?_ trivial; simp only [vd,hq2])
   |refine ⟨?_,?_⟩
   |(intro (hc:_=true); replace h:=h.1 hc)
   |(intro (hc:_=false); replace h:=h.2 hc)
 ·rintro ⟨⟨i,l,s⟩,m⟩ hg h1 Q h;exact ⟨fun hn=>absurd (ua5 hn) h1,fun _=>h⟩
def zov (Γ:Gm):St->Option Tr:=yu.han Γ yu.M (FL qac vd qg3 qmm Rd.back qn7 qf8)
def qfm (y:yu.M.X):qb2 ⊕ yu.R.X:=goL qac ((vd y).2.1.drop (vd y).1.toNat) (vd y).2.2
def zgg (y:yu.M.X):Prop:=okL qac ((vd y).2.1.drop (vd y).1.toNat) (vd y).2.2
abbrev ye:Pt:=⟨22,0,⟨[(3,.d i64),(0,.d jg)],[]⟩,⟨[],[]⟩,⟨[(2,.d .bool)],[]⟩⟩
def qri (x:ye.M.X):Fr ye.Out:=
 Fr.br (decide (x.1.1 < ↑(List.length x.1.2.1))) (Fr.need (0<=x.1.1/\x.1.1 < ↑(List.length x.1.2.1)) (Fr.need (decide (List.getD x.1.2.1 (Int.toNat x.1.1) i64.dflt<0)=false->0<=x.1.1/\x.1.1 < ↑(List.length x.1.2.1)) (Fr.br (bif decide (List.getD x.1.2.1 (Int.toNat x.1.1) i64.dflt<0) then true else decide (List.getD x.1.2.1 (Int.toNat x.1.1) i64.dflt>100000)) (Fr.val (Rd.back ((false,()),()))) (Fr.val (Rd.next ((IntKind.i64.wrap (x.1.1+1),x.1.2.1,()),())))))) (Fr.val (Rd.out ((),())))
theorem zbu:qf Tryz.prog (qo Tryz.f239 0) ye.M ye qri:=
 qf.of_run xj (bs:=0) (Λ:=qq) rfl rfl rfl (fun E=>qe _ 0) (fun x=>by kernel_rfl)
abbrev qc0:Type:=qn []×jd []
def zm (e:i64.den) (s:qc0):Fr (qc0 ⊕ ye.R.X):=
 Fr.br (bif decide (e<0) then true else decide (e>100000)) (Fr.val (.inr ((false,()),()))) (Fr.val (.inl ((),())))
def km (x:ye.M.X):Int×List i64.den×qc0:=(x.1.1,x.1.2.1,x.1.2.2,x.2)
def qe7 (x:ye.M.X):Prop:=True
def qjm (s:qc0):ye.E.X:=((),())
def qka:qc0:=(dfP _,dfM _)
def qcy:ye.R.X:=(dfP _,dfM _)
theorem qy9:qf Tryz.prog (.loop (qo Tryz.f239 0)) ye.M ye (FL zm km qe7 qjm Rd.back qka qcy):=by
 refine qf.list zbu zm km qe7 qjm Rd.back qka qcy ?_ ?_
 ·rintro ⟨⟨i,l,s⟩,m⟩ hg h0 h1 hb e he Q h;have h0:0<=i:=h0;have h1:i<(l.length:Int):=h1;have hb:(l.length:Int)<=9223372036854775807:=hb;have hd:l.getD i.toNat i64.dflt=e:=zp he;have hw:=zu h0 h1 hb;dsimp only [km,zm,qri,Fr.satP] at h ⊢;simp only [hd,hw] at h ⊢;refine ⟨fun _=>?_,fun hn=>absurd h1 (of_decide_eq_false hn)⟩
  repeat' first
   |exact h
   |exact ⟨h0,h1⟩
   |exact fun _=>⟨h0,h1⟩
   |exact h _ rfl trivial
   |refine ⟨?_,?_⟩
   |(intro (hc:_=true); replace h:=h.1 hc)
   |(intro (hc:_=false); replace h:=h.2 hc)
 ·rintro ⟨⟨i,l,s⟩,m⟩ hg h1 Q h;exact ⟨fun hn=>absurd (ua5 hn) h1,fun _=>h⟩
def zgn (Γ:Gm):St->Option Tr:=ye.han Γ ye.M (FL zm km qe7 qjm Rd.back qka qcy)
def qps (y:ye.M.X):qc0 ⊕ ye.R.X:=goL zm ((km y).2.1.drop (km y).1.toNat) (km y).2.2
def zbd (y:ye.M.X):Prop:=okL zm ((km y).2.1.drop (km y).1.toNat) (km y).2.2
def qxt (x:qn [.d (.sl qc),.d (.sl qc)]):Fr (qi [.bool]):=
 Fr.br (((List.length x.1):Int) != ((List.length x.2.1):Int)) (Fr.val (false,())) (Fr.need (InL (qh1 ((0,x.1,x.2.1,()),())) (xp ((0,x.1,x.2.1,()),()))) (Fr.need (zlp ((0,x.1,x.2.1,()),())) (Fr.br (isL (qgl ((0,x.1,x.2.1,()),()))) (Fr.val (true,())) (Fr.val ((jk qhm (qgl ((0,x.1,x.2.1,()),()))).1.1,())))))
theorem zc3:qa Tryz.prog 103 ⟨[.d (.sl qc),.d (.sl qc)],[.bool],fun xs=>(qxt xs).get,fun xs=>[(qxt xs).ok]⟩:=
 qg xj (Λ:=(fun _=>zvj CH4.Γ)) (fn:=Tryz.f103) (dfP [.d (.sl qc),.d (.sl qc)]) (by kernel_rfl) (fun c E hc=>jb hc (by kernel_rfl) (b:=qo Tryz.f103 0) (by kernel_rfl) (qf.han xj rfl zge)) (fun x=>by kernel_rfl)
def zjq (x:qn [.d (.sl qc),.d (.sl qc)]):Fr (qi [.bool]):=
 Fr.br (((List.length x.1):Int) != ((List.length x.2.1):Int)) (Fr.val (false,())) (Fr.need (InL (qm0 ((0,((List.length x.1):Int),x.1,x.2.1,()),())) (qdc ((0,((List.length x.1):Int),x.1,x.2.1,()),()))) (Fr.need (zyh ((0,((List.length x.1):Int),x.1,x.2.1,()),())) (Fr.br (isL (ql6 ((0,((List.length x.1):Int),x.1,x.2.1,()),()))) (Fr.val (true,())) (Fr.val ((jk qn6 (ql6 ((0,((List.length x.1):Int),x.1,x.2.1,()),()))).1.1,())))))
theorem znn:qa Tryz.prog 157 ⟨[.d (.sl qc),.d (.sl qc)],[.bool],fun xs=>(zjq xs).get,fun xs=>[(zjq xs).ok]⟩:=
 qg xj (Λ:=(fun _=>ylk CH4.Γ)) (fn:=Tryz.f157) (dfP [.d (.sl qc),.d (.sl qc)]) (by kernel_rfl) (fun c E hc=>jb hc (by kernel_rfl) (b:=qo Tryz.f157 0) (by kernel_rfl) (qf.han xj rfl zto)) (fun x=>by kernel_rfl)
def qpd (x:qn [.d (.sl qc)]):Fr (qi [.bool]):=
 Fr.need (InL (qd8 ((0,((List.length x.1):Int),x.1,x.1,-1,()),())) (jt ((0,((List.length x.1):Int),x.1,x.1,-1,()),()))) (Fr.need (qze ((0,((List.length x.1):Int),x.1,x.1,-1,()),())) (Fr.br (isL (ky ((0,((List.length x.1):Int),x.1,x.1,-1,()),()))) (Fr.val (bif decide (((List.length (ju (qap ko (ky ((0,((List.length x.1):Int),x.1,x.1,-1,()),())))).1.1):Int)≥1) then decide (((List.length (ju (qap ko (ky ((0,((List.length x.1):Int),x.1,x.1,-1,()),())))).1.1):Int)<=8) else false,())) (Fr.val ((jk qdu (ky ((0,((List.length x.1):Int),x.1,x.1,-1,()),()))).1.1,()))))
theorem qu0:qa Tryz.prog 143 ⟨[.d (.sl qc)],[.bool],fun xs=>(qpd xs).get,fun xs=>[(qpd xs).ok]⟩:=
 qg xj (Λ:=(fun _=>zd3 CH4.Γ)) (fn:=Tryz.f143) (dfP [.d (.sl qc)]) (by kernel_rfl) (fun c E hc=>jb hc (by kernel_rfl) (b:=qo Tryz.f143 0) (by kernel_rfl) (qf.han xj rfl qxo)) (fun x=>by kernel_rfl)
def qtw (x:qn [.d (.sl qc)]):Fr (qi [.bool]):=
 Fr.br (bif decide (((List.length x.1):Int)<1) then true else decide (((List.length x.1):Int)>8)) (Fr.val (false,())) (Fr.need (InL (qf2 ((0,x.1,()),())) (ki ((0,x.1,()),()))) (Fr.need (zdi ((0,x.1,()),())) (Fr.br (isL (qer ((0,x.1,()),()))) (Fr.val (true,())) (Fr.val ((jk qfd (qer ((0,x.1,()),()))).1.1,())))))
theorem qyx:qa Tryz.prog 166 ⟨[.d (.sl qc)],[.bool],fun xs=>(qtw xs).get,fun xs=>[(qtw xs).ok]⟩:=
 qg xj (Λ:=(fun _=>znc CH4.Γ)) (fn:=Tryz.f166) (dfP [.d (.sl qc)]) (by kernel_rfl) (fun c E hc=>jb hc (by kernel_rfl) (b:=qo Tryz.f166 0) (by kernel_rfl) (qf.han xj rfl za6)) (fun x=>by kernel_rfl)
def qtx (x:qn [.d (.sl qy)]):Fr (qi [.bool]):=
 Fr.need (InL (qf3 ((0,((List.length x.1):Int),x.1,x.1,-1,()),())) (ve ((0,((List.length x.1):Int),x.1,x.1,-1,()),()))) (Fr.need (zdj ((0,((List.length x.1):Int),x.1,x.1,-1,()),())) (Fr.br (isL (qbo ((0,((List.length x.1):Int),x.1,x.1,-1,()),()))) (Fr.val (decide (((List.length (qbk (qap qcf (qbo ((0,((List.length x.1):Int),x.1,x.1,-1,()),())))).1.1):Int)<=100),())) (Fr.val ((jk qfe (qbo ((0,((List.length x.1):Int),x.1,x.1,-1,()),()))).1.1,()))))
theorem qyy:qa Tryz.prog 192 ⟨[.d (.sl qy)],[.bool],fun xs=>(qtx xs).get,fun xs=>[(qtx xs).ok]⟩:=
 qg xj (Λ:=(fun _=>znd CH4.Γ)) (fn:=Tryz.f192) (dfP [.d (.sl qy)]) (by kernel_rfl) (fun c E hc=>jb hc (by kernel_rfl) (b:=qo Tryz.f192 0) (by kernel_rfl) (qf.han xj rfl za7)) (fun x=>by kernel_rfl)
def qut (x:qn [.d (.sl qy)]):Fr (qi [.bool]):=
 Fr.br (decide (((List.length x.1):Int)>100)) (Fr.val (false,())) (Fr.need (InL (qg3 ((0,x.1,()),())) (vd ((0,x.1,()),()))) (Fr.need (zgg ((0,x.1,()),())) (Fr.br (isL (qfm ((0,x.1,()),()))) (Fr.val (true,())) (Fr.val ((jk qf8 (qfm ((0,x.1,()),()))).1.1,())))))
theorem qz9:qa Tryz.prog 238 ⟨[.d (.sl qy)],[.bool],fun xs=>(qut xs).get,fun xs=>[(qut xs).ok]⟩:=
 qg xj (Λ:=(fun _=>zov CH4.Γ)) (fn:=Tryz.f238) (dfP [.d (.sl qy)]) (by kernel_rfl) (fun c E hc=>jb hc (by kernel_rfl) (b:=qo Tryz.f238 0) (by kernel_rfl) (qf.han xj rfl zde)) (fun x=>by kernel_rfl)
def qrg (x:qn [.d jg]):Fr (qi [.bool]):=
 Fr.need (InL (qe7 ((0,x.1,()),())) (km ((0,x.1,()),()))) (Fr.need (zbd ((0,x.1,()),())) (Fr.br (isL (qps ((0,x.1,()),()))) (Fr.val (true,())) (Fr.val ((jk qcy (qps ((0,x.1,()),()))).1.1,()))))
theorem qxm:qa Tryz.prog 239 ⟨[.d jg],[.bool],fun xs=>(qrg xs).get,fun xs=>[(qrg xs).ok]⟩:=
 qg xj (Λ:=(fun _=>zgn CH4.Γ)) (fn:=Tryz.f239) (dfP [.d jg]) (by kernel_rfl) (fun c E hc=>jb hc (by kernel_rfl) (b:=qo Tryz.f239 0) (by kernel_rfl) (qf.han xj rfl qy9)) (fun x=>by kernel_rfl)
theorem qno {T:Type} {l:List T} (h:l.length<=maxLen):(l.length:Int)<=9223372036854775807:=by
 simp only [maxLen] at h;omega
theorem qcn {w:World} {F:Nat->Prop} {t:Ty} {l:List t.den} {v:Value} (h:yav Tryz.prog w F (.d (.sl t)) l v):(l.length:Int)<=9223372036854775807:=qno (qs.wf (t:=.sl t) h.2.2).1
def wy (l:List Int):Bool:=l.all fun n=>decide (0<=n/\n<=100000)
def qia:Ct:=⟨[.d jg],[.bool],fun x=>(wy x.1,()),fun _=>[]⟩
theorem qz6 (l:List Int):isL (goL zm l ((),()))=wy l:=by
 induction l with
 |nil=>rfl
 |cons e r ih=>
  have e1:wy (e::r)=(decide (0<=e/\e<=100000)&&wy r):=rfl;rw [e1,← ih];by_cases h:(bif decide (e<0) then true else decide (e>100000))=true
  ·have hg:(zm e ((),())).get = .inr ((false,()),()):=if_pos h;simp only [goL,hg];have:decide (0<=e/\e<=100000)=false:=by
    simp only [ueb,uca,uab] at h;exact uao (by omega)
   rw [this];rfl
  ·have hg:(zm e ((),())).get = .inl ((),()):=if_neg h;simp only [goL,hg];have:decide (0<=e/\e<=100000)=true:=by
    simp only [ueb,uca,uab,not_or] at h;exact uan (by omega)
   rw [this,ud9]
theorem zsj:qa Tryz.prog 239 qia:=
 conv qxm _ _ (fun w F x vs hr _=>by
  obtain ⟨l,_⟩:=x;obtain ⟨v,vs',rfl,hv,_⟩:=hr;have hlen:=qcn hv;refine ⟨⟨⟨trivial,ua4 _,uak _,hlen⟩,qfi (step:=zm) (fun e s=>⟨fun _=>trivial,fun _=>trivial⟩) _ _,fun _=>trivial,fun _=>trivial⟩,?_⟩;show (if isL (goL zm l ((),()))=true then ((true,()):Bool×Unit) else ((jk qcy (goL zm l ((),()))).1.1,()))=(wy l,());by_cases h:isL (goL zm l ((),()))=true
  ·rw [if_pos h,← qz6,h]
  ·have h':isL (goL zm l ((),()))=false:=by simpa using h
   have hc:=ze1 (d:=qcy) (c:=((false,()),())) (step:=zm) (fun e s y hy=>by
    by_cases hb:(bif decide (e<0) then true else decide (e>100000))=true
    ·have hg:(zm e s).get = .inr ((false,()),()):=if_pos hb;rw [hg] at hy;exact (Sum.inr.inj hy).symm
    ·have hg:(zm e s).get = .inl ((),()):=if_neg hb;rw [hg] at hy;cases hy) l ((),()) h'
   rw [if_neg h,hc,← qz6,h'])
def qnv {T σ:Type} (p:T->σ->Bool) (f:T->σ->σ):List T->σ->Bool
 |[],_=>true
 |e::r,s=>p e s&&qnv p f r (f e s)
def qmh {T σ:Type} (f:T->σ->σ):List T->σ->σ
 |[],s=>s
 |e::r,s=>qmh f r (f e s)
theorem qcv {T σ ρ:Type} {step:T->σ->Fr (σ ⊕ ρ)} {p:T->σ->Bool} {f:T->σ->σ} {c:ρ} (h:∀ e s,(step e s).get=if p e s=true then .inl (f e s) else .inr c) :
  (l:List T)->(s:σ)->goL step l s=if qnv p f l s=true then .inl (qmh f l s) else .inr c
 |[],s=>rfl
 |e::r,s=>by
  simp only [goL,qnv,qmh];by_cases hp:p e s=true
  ·have hg:=h e s;rw [if_pos hp] at hg;simp only [hg,hp,ud9];exact qcv h r (f e s)
  ·have hg:=h e s;rw [if_neg hp] at hg;have hp':p e s=false:=by simpa using hp
   simp only [hg,hp',Bool.false_and];rfl
def wh (c:qc.den):Bool:=qhl c.1 c.2.1 c.2.2.1 c.2.2.2.1 c.2.2.2.2.1
def qr1:List qc.den->Int->Bool
 |[],_=>true
 |c::r,last=>(decide (last<c.1)&&wh c)&&qr1 r c.1
def qcc (l:List qc.den):Bool:=decide (1<=l.length/\l.length<=8)&&qr1 l (-1)
def qgw:Ct:=⟨[.d (.sl qc)],[.bool],fun x=>(qcc x.1,()),fun _=>[]⟩
theorem ylb (e:qc.den) (s:zl):(vq e s).get=if (decide (s.1.2.1<e.1)&&wh e)=true then .inl ((s.1.1,e.1,()),()) else .inr ((false,()),()):=by
 show (if (bif decide (e.1<=s.1.2.1) then true else !(wh e))=true then _ else _)=_;have hb:(bif decide (e.1<=s.1.2.1) then true else !(wh e)) = !(decide (s.1.2.1<e.1)&&wh e):=by
  have:decide (e.1<=s.1.2.1) = !decide (s.1.2.1<e.1):=by
   rw [uau];simp only [uc9,uab,ubi];exact Int.not_lt.symm
  rw [this];cases decide (s.1.2.1<e.1)<;>cases wh e<;>rfl
 rw [hb];cases (decide (s.1.2.1<e.1)&&wh e)<;>rfl
theorem ypx (l l0:List qc.den) (last:Int):qnv (fun (e:qc.den) (s:zl)=>decide (s.1.2.1<e.1)&&wh e) (fun e s=>((s.1.1,e.1,()),())) l ((l0,last,()),())=qr1 l last:=by
 induction l generalizing last with
 |nil=>rfl
 |cons c r ih=>
  show ((decide (last<c.1)&&wh c)&&_)=((decide (last<c.1)&&wh c)&&_);rw [ih]
theorem ypy (l l0:List qc.den) (last:Int):(qmh (fun (e:qc.den) (s:zl)=>(((s.1.1,e.1,()),()):zl)) l ((l0,last,()),())).1.1=l0:=by
 induction l generalizing last with
 |nil=>rfl
 |cons c r ih=>exact ih c.1
theorem yq9 (n:Nat):(bif decide ((n:Int)≥1) then decide ((n:Int)<=8) else false)=decide (1<=n/\n<=8):=by
 rw [uau];simp only [ufk,ua1,uab];omega
theorem yom (n:Nat):(bif decide ((n:Int)<1) then true else decide ((n:Int)>8)) = !decide (1<=n/\n<=8):=by
 rw [uau];simp only [ueb,uca,uc9,uab,ubi];omega
theorem qpz:qa Tryz.prog 143 qgw:=
 conv qu0 _ _ (fun w F x vs hr _=>by
  obtain ⟨l,_⟩:=x;obtain ⟨v,vs',rfl,hv,_⟩:=hr;have hlen:=qcn hv;refine ⟨⟨⟨rfl,ua4 _,uak _,hlen⟩,qfi (step:=vq) (fun e s=>⟨fun _=>trivial,fun _=>trivial⟩) _ _,fun _=>trivial,fun _=>trivial⟩,?_⟩;have hres:=qcv ylb l ((l,-1,()),());rw [ypx] at hres;have hres':ky ((0,(l.length:Int),l,l,-1,()),())=if qr1 l (-1)=true then .inl _ else .inr _:=hres
  show (if isL (ky ((0,(l.length:Int),l,l,-1,()),()))=true then ((bif decide (((ju (qap ko (ky ((0,(l.length:Int),l,l,-1,()),())))).1.1.length:Int)≥1) then decide (((ju (qap ko (ky ((0,(l.length:Int),l,l,-1,()),())))).1.1.length:Int)<=8) else false,()):Bool×Unit) else ((jk qdu (ky ((0,(l.length:Int),l,l,-1,()),()))).1.1,()))=(qcc l,());rw [hres'];unfold qcc;cases qr1 l (-1) with
  |true=>
   have he:(ju (qap ko (Sum.inl (qmh (fun (e:qc.den) (s:zl)=>(((s.1.1,e.1,()),()):zl)) l ((l,-1,()),())):zl ⊕ zk.R.X))).1.1=l:=ypy l l (-1);show ((bif decide (((ju (qap ko (Sum.inl (qmh (fun (e:qc.den) (s:zl)=>(((s.1.1,e.1,()),()):zl)) l ((l,-1,()),())):zl ⊕ zk.R.X))).1.1.length:Int)≥1) then decide (((ju (qap ko (Sum.inl (qmh (fun (e:qc.den) (s:zl)=>(((s.1.1,e.1,()),()):zl)) l ((l,-1,()),())):zl ⊕ zk.R.X))).1.1.length:Int)<=8) else false,()):Bool×Unit)=_;rw [he];exact ubb (·,()) ((yq9 l.length).trans (ue6 _).symm)
  |false=>
   rw [uea];rfl)
def zgv:List qc.den->Int->qc.den->Bool
 |[],_,_=>true
 |c::r,i,p=>(wh c&&(!decide (i>0) || decide (p.1<c.1)))&&zgv r (i+1) c
theorem znk {c:qc.den} (h:wh c=true) : -1<c.1:=by
 unfold wh qhl at h;have h':=(of_decide_eq_true h).1;exact Int.lt_of_lt_of_le (by decide) h'
theorem ya1 (l:List qc.den) (i:Int) (p:qc.den) (hi:0<=i):zgv l i p=qr1 l (if i>0 then p.1 else -1):=by
 induction l generalizing i p with
 |nil=>rfl
 |cons c r ih=>
  simp only [zgv,qr1];rw [ih (i+1) c (by omega),if_pos (by omega)];congr 1;by_cases h:i>0
  ·rw [if_pos h,uan h,Bool.and_comm];rfl
  ·rw [if_neg h,uao h];cases hc:wh c with
   |true=>
    rw [uan (znk hc)];rfl
   |false=>rw [uea]; rfl
theorem ykn (e:qc.den) (s:qa1):(xf e s).get=if (wh e&&(!decide (s.2.1>0) || decide (s.2.2.1<e.1)))=true then .inl (((),()),s.2.1+1,e) else .inr ((false,()),()):=by
 show (if (!(wh e))=true then _ else if decide (s.2.1>0)=true then (if decide (e.1<=s.2.2.1)=true then _ else _) else _)=_;have:decide (e.1<=s.2.2.1) = !decide (s.2.2.1<e.1):=by
  rw [uau];simp only [uc9,uab,ubi];exact Int.not_lt.symm
 rw [this];cases wh e<;>cases decide (s.2.1>0)<;>cases decide (s.2.2.1<e.1)<;>rfl
theorem ypf (l:List qc.den) (u:Unit×Unit) (i:Int) (p:qc.den):qnv (fun (e:qc.den) (s:qa1)=>wh e&&(!decide (s.2.1>0) || decide (s.2.2.1<e.1))) (fun e s=>(((),()),s.2.1+1,e)) l (u,i,p)=zgv l i p:=by
 induction l generalizing u i p with
 |nil=>rfl
 |cons c r ih=>
  show ((wh c&&(!decide (i>0) || decide (p.1<c.1)))&&_)=((wh c&&(!decide (i>0) || decide (p.1<c.1)))&&_);rw [ih]
theorem zgj:qa Tryz.prog 166 qgw:=
 conv qyx _ _ (fun w F x vs hr _=>by
  obtain ⟨l,_⟩:=x;obtain ⟨v,vs',rfl,hv,_⟩:=hr;have hlen:=qcn hv;refine ⟨⟨fun _=>trivial,fun _=>⟨⟨trivial,ua4 _,uak _,hlen⟩,qfi (step:=xf) (fun e s=>⟨fun _=>trivial,fun _=>⟨fun _=>⟨fun _=>trivial,fun _=>trivial⟩,fun _=>trivial⟩⟩) _ _,fun _=>trivial,fun _=>trivial⟩⟩,?_⟩;have hres:=qcv ykn l (((),()),0,l.getD (0-1:Int).toNat qc.dflt);have hz:(if (0:Int)>0 then (l.getD (0-1:Int).toNat qc.dflt).1 else -1) = -1:=if_neg (by decide);rw [ypf,ya1 _ _ _ (ua4 _),hz] at hres;have hres':qer ((0,l,()),())=if qr1 l (-1)=true then .inl _ else .inr _:=hres
  show (if (bif decide ((l.length:Int)<1) then true else decide ((l.length:Int)>8))=true then ((false,()):Bool×Unit) else if isL (qer ((0,l,()),()))=true then (true,()) else ((jk qfd (qer ((0,l,()),()))).1.1,()))=(qcc l,());rw [hres'];unfold qcc;rw [yom];cases decide (1<=l.length/\l.length<=8)<;>cases qr1 l (-1)<;>rfl)
def qds (u b:Int):Bool:=decide (u<=200/\0<=b/\b<=100000)
def qr0:List qy.den->Int->Bool
 |[],_=>true
 |c::r,last=>(decide (last<c.1)&&qds c.1 c.2.1)&&qr0 r c.1
def qnw (l:List qy.den):Bool:=decide (l.length<=100)&&qr0 l (-1)
def qqz:Ct:=⟨[.d (.sl qy)],[.bool],fun x=>(qnw x.1,()),fun _=>[]⟩
theorem yh3 (u b last:Int):(bif bif bif decide (u<=last) then true else decide (u>200) then true else decide (b<0) then true else decide (b>100000)) = !(decide (last<u)&&qds u b):=by
 rw [uau];simp only [qds,ueb,uca,uc9,ugf,uab,ubi];omega
theorem yh5 (u b:Int):(bif bif bif decide (u<0) then true else decide (u>200) then true else decide (b<0) then true else decide (b>100000)) = !(decide (-1<u)&&qds u b):=by
 rw [uau];simp only [qds,ueb,uca,uc9,ugf,uab,ubi];omega
theorem ykm (e:qy.den) (s:yl):(xg e s).get=if (decide (s.1.2.1<e.1)&&qds e.1 e.2.1)=true then .inl ((s.1.1,e.1,()),()) else .inr ((false,()),()):=by
 show (if (bif bif bif decide (e.1<=s.1.2.1) then true else decide (e.1>200) then true else decide (e.2.1<0) then true else decide (e.2.1>100000))=true then _ else _)=_;have hb:=yh3 e.1 e.2.1 s.1.2.1;rw [hb];cases (decide (s.1.2.1<e.1)&&qds e.1 e.2.1)<;>rfl
theorem ypd (l l0:List qy.den) (last:Int):qnv (fun (e:qy.den) (s:yl)=>decide (s.1.2.1<e.1)&&qds e.1 e.2.1) (fun e s=>((s.1.1,e.1,()),())) l ((l0,last,()),())=qr0 l last:=by
 induction l generalizing last with
 |nil=>rfl
 |cons c r ih=>
  show ((decide (last<c.1)&&qds c.1 c.2.1)&&_)=((decide (last<c.1)&&qds c.1 c.2.1)&&_);rw [ih]
theorem ype (l l0:List qy.den) (last:Int):(qmh (fun (e:qy.den) (s:yl)=>(((s.1.1,e.1,()),()):yl)) l ((l0,last,()),())).1.1=l0:=by
 induction l generalizing last with
 |nil=>rfl
 |cons c r ih=>exact ih c.1
theorem yra (n:Nat):decide ((n:Int)<=100)=decide (n<=100):=by
 rw [uau];simp only [uab];omega
theorem yon (n:Nat):decide ((n:Int)>100) = !decide (n<=100):=by
 rw [uau];simp only [uc9,uab,ubi];omega
theorem zib:qa Tryz.prog 192 qqz:=
 conv qyy _ _ (fun w F x vs hr _=>by
  obtain ⟨l,_⟩:=x;obtain ⟨v,vs',rfl,hv,_⟩:=hr;have hlen:=qcn hv;refine ⟨⟨⟨rfl,ua4 _,uak _,hlen⟩,qfi (step:=xg) (fun e s=>⟨fun _=>trivial,fun _=>trivial⟩) _ _,fun _=>trivial,fun _=>trivial⟩,?_⟩;have hres:=qcv ykm l ((l,-1,()),());rw [ypd] at hres;have hres':qbo ((0,(l.length:Int),l,l,-1,()),())=if qr0 l (-1)=true then .inl _ else .inr _:=hres
  show (if isL (qbo ((0,(l.length:Int),l,l,-1,()),()))=true then ((decide (((qbk (qap qcf (qbo ((0,(l.length:Int),l,l,-1,()),())))).1.1.length:Int)<=100),()):Bool×Unit) else ((jk qfe (qbo ((0,(l.length:Int),l,l,-1,()),()))).1.1,()))=(qnw l,());rw [hres'];unfold qnw;cases qr0 l (-1) with
  |true=>
   have he:(qbk (qap qcf (Sum.inl (qmh (fun (e:qy.den) (s:yl)=>(((s.1.1,e.1,()),()):yl)) l ((l,-1,()),())):yl ⊕ ya.R.X))).1.1=l:=ype l l (-1);show ((decide (((qbk (qap qcf (Sum.inl (qmh (fun (e:qy.den) (s:yl)=>(((s.1.1,e.1,()),()):yl)) l ((l,-1,()),())):yl ⊕ ya.R.X))).1.1.length:Int)<=100),()):Bool×Unit)=_;rw [he];exact ubb (·,()) ((yra l.length).trans (ue6 _).symm)
  |false=>
   rw [uea];rfl)
def zgu:List qy.den->Int->qy.den->Bool
 |[],_,_=>true
 |c::r,i,p=>((decide (-1<c.1)&&qds c.1 c.2.1)&&(!decide (i>0) || decide (p.1<c.1)))&&zgu r (i+1) c
theorem ya0 (l:List qy.den) (i:Int) (p:qy.den) (hi:0<=i) (hp:i>0 -> -1<p.1):zgu l i p=qr0 l (if i>0 then p.1 else -1):=by
 induction l generalizing i p with
 |nil=>rfl
 |cons c r ih=>
  simp only [zgu,qr0];by_cases hc : -1<c.1
  ·rw [ih (i+1) c (by omega) (fun _=>hc),if_pos (by omega)];congr 1;rw [uan hc,ud9];by_cases h:i>0
   ·rw [if_pos h,uan h,Bool.and_comm];rfl
   ·rw [if_neg h,uao h,uan hc];cases qds c.1 c.2.1<;>rfl
  ·have h1:decide (-1<c.1)=false:=uao hc;have h2:decide ((if i>0 then p.1 else -1)<c.1)=false:=by
    refine uao fun h=>hc ?_;by_cases h':i>0
    ·rw [if_pos h'] at h;exact ue3 (hp h') h
    ·rw [if_neg h'] at h;exact h
   rw [h1,h2];rfl
theorem yd1 (e:qy.den) (s:qb2):(qac e s).get=if ((decide (-1<e.1)&&qds e.1 e.2.1)&&(!decide (s.2.1>0) || decide (s.2.2.1<e.1)))=true then .inl (((),()),s.2.1+1,e) else .inr ((false,()),()):=by
 show (if (bif bif bif decide (e.1<0) then true else decide (e.1>200) then true else decide (e.2.1<0) then true else decide (e.2.1>100000))=true then _ else if decide (s.2.1>0)=true then (if decide (e.1<=s.2.2.1)=true then _ else _) else _)=_;have:decide (e.1<=s.2.2.1) = !decide (s.2.2.1<e.1):=by
  rw [uau];simp only [uc9,uab,ubi];exact Int.not_lt.symm
 have hb:=yh5 e.1 e.2.1;rw [this,hb];cases (decide (-1<e.1)&&qds e.1 e.2.1)<;>cases decide (s.2.1>0)<;>cases decide (s.2.2.1<e.1)<;>rfl
theorem ykl (l:List qy.den) (u:Unit×Unit) (i:Int) (p:qy.den):qnv (fun (e:qy.den) (s:qb2)=>(decide (-1<e.1)&&qds e.1 e.2.1)&&(!decide (s.2.1>0) || decide (s.2.2.1<e.1))) (fun e s=>(((),()),s.2.1+1,e)) l (u,i,p)=zgu l i p:=by
 induction l generalizing u i p with
 |nil=>rfl
 |cons c r ih=>
  show (((decide (-1<c.1)&&qds c.1 c.2.1)&&(!decide (i>0) || decide (p.1<c.1)))&&_)=(((decide (-1<c.1)&&qds c.1 c.2.1)&&(!decide (i>0) || decide (p.1<c.1)))&&_);rw [ih]
theorem zl4:qa Tryz.prog 238 qqz:=
 conv qz9 _ _ (fun w F x vs hr _=>by
  obtain ⟨l,_⟩:=x;obtain ⟨v,vs',rfl,hv,_⟩:=hr;have hlen:=qcn hv;refine ⟨⟨fun _=>trivial,fun _=>⟨⟨trivial,ua4 _,uak _,hlen⟩,qfi (step:=qac) (fun e s=>⟨fun _=>trivial,fun _=>⟨fun _=>⟨fun _=>trivial,fun _=>trivial⟩,fun _=>trivial⟩⟩) _ _,fun _=>trivial,fun _=>trivial⟩⟩,?_⟩;have hres:=qcv yd1 l (((),()),0,l.getD (0-1:Int).toNat qy.dflt);have hz:(if (0:Int)>0 then (l.getD (0-1:Int).toNat qy.dflt).1 else -1) = -1:=if_neg (by decide);rw [ykl,ya0 _ _ _ (ua4 _) (fun h=>absurd h (by decide)),hz] at hres;have hres':qfm ((0,l,()),())=if qr0 l (-1)=true then .inl _ else .inr _:=hres
  show (if decide ((l.length:Int)>100)=true then ((false,()):Bool×Unit) else if isL (qfm ((0,l,()),()))=true then (true,()) else ((jk qf8 (qfm ((0,l,()),()))).1.1,()))=(qnw l,());rw [hres'];unfold qnw;rw [yon];cases decide (l.length<=100)<;>cases qr0 l (-1)<;>rfl)
def qdm (a b:qc.den):Bool:=(a.1==b.1&&(a.2.1==b.2.1&&(a.2.2.1==b.2.2.1&&(a.2.2.2.1==b.2.2.2.1&&(a.2.2.2.2.1==b.2.2.2.2.1&&true)))))
theorem znj {a b:qc.den}:qdm a b=true↔a=b:=by
 obtain ⟨a1,a2,a3,a4,a5,_⟩:=a;obtain ⟨b1,b2,b3,b4,b5,_⟩:=b;simp only [qdm,ua1,ubu,ua9,ud7]
def qbb:List qc.den->List qc.den->Bool
 |[],[]=>true
 |a::l,b::m=>qdm a b&&qbb l m
 |_,_=>false
theorem qvx:{l m:List qc.den}->(qbb l m=true↔l=m)
 |[],[]=>by simp [qbb]
 |[],b::m=>by simp [qbb]
 |a::l,[]=>by simp [qbb]
 |a::l,b::m=>by
  simp only [qbb,ua1,uej];rw [znj,qvx]
def qhj:Ct:=⟨[.d (.sl qc),.d (.sl qc)],[.bool],fun x=>(qbb x.1 x.2.1,()),fun _=>[]⟩
theorem qvy:{l m:List qc.den}->l.length=m.length->qbb l m=(l.zip m).all fun e=>qdm e.1 e.2
 |[],[],_=>rfl
 |[],b::m,h=>by cases h
 |a::l,[],h=>by cases h
 |a::l,b::m,h=>by
  simp only [qbb,List.zip_cons_cons,uc8];rw [qvy (by simpa using h)]
theorem zfq:{l m:List qc.den}->l.length≠m.length->qbb l m=false:=fun h=>by
 cases hs:qbb _ _ with
 |true=>exact absurd (ubb List.length (qvx.1 hs)) h
 |false=>rfl
theorem qoz {T σ:Type} (p:T->Bool) (l:List T) (s:σ):qnv (fun e _=>p e) (fun _ s=>s) l s=l.all p:=by
 induction l with
 |nil=>rfl
 |cons e r ih=>simp only [qnv,uc8]; rw [ih]
theorem yer (e:qc.den×qc.den) (s:qd4):(qa2 e s).get=if qdm e.1 e.2=true then .inl s else .inr ((false,()),()):=by
 show (if (!(qdm e.1 e.2))=true then _ else _)=_;cases qdm e.1 e.2<;>rfl
theorem yhu (e:qc.den×qc.den) (s:qik):(qdz e s).get=if qdm e.1 e.2=true then .inl s else .inr ((false,()),()):=by
 show (if (!(qdm e.1 e.2))=true then _ else _)=_;cases qdm e.1 e.2<;>rfl
theorem zx0 (a b:Nat):((a:Int) != (b:Int)) = !decide (a=b):=by
 rw [uau];simp only [udu,ne_eq,uc9,ubi];omega
theorem zbr:qa Tryz.prog 103 qhj:=
 conv zc3 _ _ (fun w F x vs hr _=>by
  obtain ⟨l,m,_⟩:=x;obtain ⟨v,vs',rfl,hv,_⟩:=hr;have hlen:(l.length:Int)<=9223372036854775807:=qcn hv;have hne:=zx0 l.length m.length;by_cases hlm:l.length=m.length
  ·have hne':((l.length:Int) != (m.length:Int))=false:=by rw [hne,uan hlm]; rfl
   have hz:((l.zip m).length:Int)<=9223372036854775807:=by
    rw [ue7];omega
   refine ⟨⟨fun _=>trivial,fun _=>⟨⟨hlm,ua4 _,uak _,hz⟩,qfi (step:=qa2) (fun e s=>⟨fun _=>trivial,fun _=>trivial⟩) _ _,fun _=>trivial,fun _=>trivial⟩⟩,?_⟩;have hres:=qcv (p:=fun e _=>qdm e.1 e.2) (f:=fun _ s=>s) yer (l.zip m) ((m,()),());rw [qoz,← qvy hlm] at hres;have hres':qgl ((0,l,m,()),())=if qbb l m=true then .inl _ else .inr _:=hres
   show (if ((l.length:Int) != (m.length:Int))=true then ((false,()):Bool×Unit) else if isL (qgl ((0,l,m,()),()))=true then (true,()) else ((jk qhm (qgl ((0,l,m,()),()))).1.1,()))=(qbb l m,());rw [hres',hne'];cases qbb l m<;>rfl
  ·have hne':((l.length:Int) != (m.length:Int))=true:=by rw [hne,uao hlm]; rfl
   refine ⟨⟨fun _=>trivial,fun hc=>(by have hc':((l.length:Int) != (m.length:Int))=false:=hc; rw [hne'] at hc'; cases hc')⟩,?_⟩;show (if ((l.length:Int) != (m.length:Int))=true then ((false,()):Bool×Unit) else _)=(qbb l m,());rw [hne',zfq hlm];rfl)
theorem yay:qa Tryz.prog 157 qhj:=
 conv znn _ _ (fun w F x vs hr _=>by
  obtain ⟨l,m,_⟩:=x;obtain ⟨v,vs',rfl,hv,_⟩:=hr;have hlen:(l.length:Int)<=9223372036854775807:=qcn hv;have hne:=zx0 l.length m.length;by_cases hlm:l.length=m.length
  ·have hne':((l.length:Int) != (m.length:Int))=false:=by rw [hne,uan hlm]; rfl
   have hz:((l.zip m).length:Int)<=9223372036854775807:=by
    rw [ue7];omega
   refine ⟨⟨fun _=>trivial,fun _=>⟨⟨⟨rfl,hlm⟩,ua4 _,uak _,hz⟩,qfi (step:=qdz) (fun e s=>⟨fun _=>trivial,fun _=>trivial⟩) _ _,fun _=>trivial,fun _=>trivial⟩⟩,?_⟩;have hres:=qcv (p:=fun e _=>qdm e.1 e.2) (f:=fun _ s=>s) yhu (l.zip m) ((m,()),());rw [qoz,← qvy hlm] at hres;have hres':ql6 ((0,(l.length:Int),l,m,()),())=if qbb l m=true then .inl _ else .inr _:=hres
   show (if ((l.length:Int) != (m.length:Int))=true then ((false,()):Bool×Unit) else if isL (ql6 ((0,(l.length:Int),l,m,()),()))=true then (true,()) else ((jk qn6 (ql6 ((0,(l.length:Int),l,m,()),()))).1.1,()))=(qbb l m,());rw [hres',hne'];cases qbb l m<;>rfl
  ·have hne':((l.length:Int) != (m.length:Int))=true:=by rw [hne,uao hlm]; rfl
   refine ⟨⟨fun _=>trivial,fun hc=>(by have hc':((l.length:Int) != (m.length:Int))=false:=hc; rw [hne'] at hc'; cases hc')⟩,?_⟩;show (if ((l.length:Int) != (m.length:Int))=true then ((false,()):Bool×Unit) else _)=(qbb l m,());rw [hne',zfq hlm];rfl)
abbrev zo:Ty:=.pair zy (.pair jp (.pair (.sl qc) .unit))
abbrev qd:Ty:=.pair i64 (.pair i64 (.pair i64 (.pair jp (.pair (.sl qc) (.pair i64 .unit)))))
abbrev qm:Ty:=.pair i64 (.pair i64 (.pair zo (.pair (.sl qd) .unit)))
abbrev ych:Ty:=.pair i64 (.pair i64 (.pair i64 (.pair i64 .unit)))
abbrev qw:Ty:=.pair i64 (.pair ych (.pair (.sl qy) (.pair jg (.pair jg (.pair i64 .unit)))))
abbrev ze:Ty:=.pair (.sl qw) .unit
noncomputable def CH9:Cx:=cx [(141,qhz),(165,qhz),(192,qqz),(238,qqz),(239,qia),(143,qgw),(166,qgw),(164,qzu),(157,qhj),(103,qhj),(43,cIn),(168,cIn)] []
theorem qlj:CxOK Tryz.prog CH9:=zc qv ⟨zdr,yeh,zib,zl4,zsj,qpz,zgj,zxl,yay,zbr,qlv,zxr,trivial⟩ trivial
def qqe (x:qn [.d qd]):Fr (qi [.bool]):=
 Fr.val (bif bif (qhz.f ((x.1.2.2.2.1.1,x.1.2.2.2.1.2.1,x.1.2.2.2.1.2.2.1,x.1.2.2.2.1.2.2.2.1,()),())).1 then ((List.length x.1.2.2.2.2.1):Int)==0 else false then x.1.2.2.2.2.2.1==0 else false,())
theorem zcz:qa Tryz.prog 179 ⟨[.d qd],[.bool],fun xs=>(qqe xs).get,fun xs=>[(qqe xs).ok]⟩:=
 qg qlj (Λ:=qq) (fn:=Tryz.f179) (dfP [.d qd]) (by kernel_rfl) (fun c E _=>qe c 0) (fun x=>by kernel_rfl)
def qqf (x:qn [.d qd]):Fr (qi [.bool]):=
 Fr.val (bif bif (qgw.f (x.1.2.2.2.2.1,())).1 then x.1.2.2.2.1.1==0&&(x.1.2.2.2.1.2.1==0&&(x.1.2.2.2.1.2.2.1==0&&(x.1.2.2.2.1.2.2.2.1==0&&true))) else false then x.1.2.2.2.2.2.1==0 else false,())
theorem zc0:qa Tryz.prog 180 ⟨[.d qd],[.bool],fun xs=>(qqf xs).get,fun xs=>[(qqf xs).ok]⟩:=
 qg qlj (Λ:=qq) (fn:=Tryz.f180) (dfP [.d qd]) (by kernel_rfl) (fun c E _=>qe c 0) (fun x=>by kernel_rfl)
def qqg (x:qn [.d qd]):Fr (qi [.bool]):=
 Fr.val (bif bif bif x.1.2.2.2.2.2.1==0 then true else x.1.2.2.2.2.2.1==1 then ((List.length x.1.2.2.2.2.1):Int)==0 else false then x.1.2.2.2.1.1==0&&(x.1.2.2.2.1.2.1==0&&(x.1.2.2.2.1.2.2.1==0&&(x.1.2.2.2.1.2.2.2.1==0&&true))) else false,())
theorem zc1:qa Tryz.prog 181 ⟨[.d qd],[.bool],fun xs=>(qqg xs).get,fun xs=>[(qqg xs).ok]⟩:=
 qg qlj (Λ:=qq) (fn:=Tryz.f181) (dfP [.d qd]) (by kernel_rfl) (fun c E _=>qe c 0) (fun x=>by kernel_rfl)
def qqh (x:qn [.d qd]):Fr (qi [.bool]):=
 Fr.val (bif bif x.1.2.2.2.2.2.1==0 then ((List.length x.1.2.2.2.2.1):Int)==0 else false then x.1.2.2.2.1.1==0&&(x.1.2.2.2.1.2.1==0&&(x.1.2.2.2.1.2.2.1==0&&(x.1.2.2.2.1.2.2.2.1==0&&true))) else false,())
theorem zc2:qa Tryz.prog 182 ⟨[.d qd],[.bool],fun xs=>(qqh xs).get,fun xs=>[(qqh xs).ok]⟩:=
 qg qlj (Λ:=qq) (fn:=Tryz.f182) (dfP [.d qd]) (by kernel_rfl) (fun c E _=>qe c 0) (fun x=>by kernel_rfl)
def quv (x:qn [.d qd]):Fr (qi [.bool]):=
 Fr.br (bif bif bif decide (x.1.1<1) then true else decide (x.1.1>292194) then true else decide (x.1.2.1<1) then true else decide (x.1.2.1>292194)) (Fr.val (false,())) (Fr.br (x.1.2.2.1==1) (Fr.val (bif bif (qhz.f ((x.1.2.2.2.1.1,x.1.2.2.2.1.2.1,x.1.2.2.2.1.2.2.1,x.1.2.2.2.1.2.2.2.1,()),())).1 then ((List.length x.1.2.2.2.2.1):Int)==0 else false then x.1.2.2.2.2.2.1==0 else false,())) (Fr.br (x.1.2.2.1==2) (Fr.val (bif bif (qgw.f (x.1.2.2.2.2.1,())).1 then x.1.2.2.2.1.1==0&&(x.1.2.2.2.1.2.1==0&&(x.1.2.2.2.1.2.2.1==0&&(x.1.2.2.2.1.2.2.2.1==0&&true))) else false then x.1.2.2.2.2.2.1==0 else false,())) (Fr.br (x.1.2.2.1==3) (Fr.val (bif bif x.1.2.2.2.1.1==0&&(x.1.2.2.2.1.2.1==0&&(x.1.2.2.2.1.2.2.1==0&&(x.1.2.2.2.1.2.2.2.1==0&&true))) then ((List.length x.1.2.2.2.2.1):Int)==0 else false then bif x.1.2.2.2.2.2.1==0 then true else x.1.2.2.2.2.2.1==1 else false,())) (Fr.br (x.1.2.2.1==4) (Fr.val (bif bif x.1.2.2.2.1.1==0&&(x.1.2.2.2.1.2.1==0&&(x.1.2.2.2.1.2.2.1==0&&(x.1.2.2.2.1.2.2.2.1==0&&true))) then ((List.length x.1.2.2.2.2.1):Int)==0 else false then x.1.2.2.2.2.2.1==0 else false,())) (Fr.val (false,()))))))
theorem zab:qa Tryz.prog 122 ⟨[.d qd],[.bool],fun xs=>(quv xs).get,fun xs=>[(quv xs).ok]⟩:=
 qg qlj (Λ:=qq) (fn:=Tryz.f122) (dfP [.d qd]) (by kernel_rfl) (fun c E _=>qe c 0) (fun x=>by kernel_rfl)
def quu (x:qn [.d zo]):Fr (qi [.bool]):=
 Fr.br (!(qzu.f ((x.1.1.1,x.1.1.2.1,()),())).1) (Fr.val (false,())) (Fr.val (bif bif decide (IntKind.i64.wrap (x.1.1.2.1-x.1.1.1)<=1100) then (qhz.f ((x.1.2.1.1,x.1.2.1.2.1,x.1.2.1.2.2.1,x.1.2.1.2.2.2.1,()),())).1 else false then (qgw.f (x.1.2.2.1,())).1 else false,()))
theorem zaa:qa Tryz.prog 121 ⟨[.d zo],[.bool],fun xs=>(quu xs).get,fun xs=>[(quu xs).ok]⟩:=
 qg qlj (Λ:=qq) (fn:=Tryz.f121) (dfP [.d zo]) (by kernel_rfl) (fun c E _=>qe c 0) (fun x=>by kernel_rfl)
def zjx (x:qn [.d ql,.d ql]):Fr (qi [.bool]):=
 Fr.val (bif bif x.1.2.1==x.2.1.2.1 then x.1.2.2.1.1==x.2.1.2.2.1.1&&(x.1.2.2.1.2.1==x.2.1.2.2.1.2.1&&(x.1.2.2.1.2.2.1==x.2.1.2.2.1.2.2.1&&(x.1.2.2.1.2.2.2.1==x.2.1.2.2.1.2.2.2.1&&true))) else false then (qhj.f (x.1.2.2.2.1,x.2.1.2.2.2.1,())).1 else false,())
theorem znt:qa Tryz.prog 115 ⟨[.d ql,.d ql],[.bool],fun xs=>(zjx xs).get,fun xs=>[(zjx xs).ok]⟩:=
 qg qlj (Λ:=qq) (fn:=Tryz.f115) (dfP [.d ql,.d ql]) (by kernel_rfl) (fun c E _=>qe c 0) (fun x=>by kernel_rfl)
def qxu (x:qn [.d ql,.d ql]):Fr (qi [.bool]):=
 Fr.val (bif bif x.1.2.1==x.2.1.2.1 then x.1.2.2.1.1==x.2.1.2.2.1.1&&(x.1.2.2.1.2.1==x.2.1.2.2.1.2.1&&(x.1.2.2.1.2.2.1==x.2.1.2.2.1.2.2.1&&(x.1.2.2.1.2.2.2.1==x.2.1.2.2.1.2.2.2.1&&true))) else false then (qhj.f (x.1.2.2.2.1,x.2.1.2.2.2.1,())).1 else false,())
theorem zc4:qa Tryz.prog 219 ⟨[.d ql,.d ql],[.bool],fun xs=>(qxu xs).get,fun xs=>[(qxu xs).ok]⟩:=
 qg qlj (Λ:=qq) (fn:=Tryz.f219) (dfP [.d ql,.d ql]) (by kernel_rfl) (fun c E _=>qe c 0) (fun x=>by kernel_rfl)
def ck1 (c:qd.den):Bool:=(qqe (c,())).get.1
def ck2 (c:qd.den):Bool:=(qqf (c,())).get.1
def ck3 (c:qd.den):Bool:=(qqg (c,())).get.1
def ck4 (c:qd.den):Bool:=(qqh (c,())).get.1
def ya9:Ct:=⟨[.d qd],[.bool],fun x=>(ck1 x.1,()),fun _=>[]⟩
def yba:Ct:=⟨[.d qd],[.bool],fun x=>(ck2 x.1,()),fun _=>[]⟩
def ybb:Ct:=⟨[.d qd],[.bool],fun x=>(ck3 x.1,()),fun _=>[]⟩
def ybc:Ct:=⟨[.d qd],[.bool],fun x=>(ck4 x.1,()),fun _=>[]⟩
theorem ym9:qa Tryz.prog 179 ya9:=conv zcz _ _ (fun _ _ _ _ _ _=>⟨trivial,rfl⟩)
theorem yna:qa Tryz.prog 180 yba:=conv zc0 _ _ (fun _ _ _ _ _ _=>⟨trivial,rfl⟩)
theorem ynb:qa Tryz.prog 181 ybb:=conv zc1 _ _ (fun _ _ _ _ _ _=>⟨trivial,rfl⟩)
theorem ync:qa Tryz.prog 182 ybc:=conv zc2 _ _ (fun _ _ _ _ _ _=>⟨trivial,rfl⟩)
def za3 (c:qd.den):Bool:=if c.2.2.1=1 then ck1 c else if c.2.2.1=2 then ck2 c else if c.2.2.1=3 then ck3 c else if c.2.2.1=4 then ck4 c else false
def xy (c:qd.den):Bool:=qc6 c.1&&(qc6 c.2.1&&za3 c)
def qeg:Ct:=⟨[.d qd],[.bool],fun x=>(xy x.1,()),fun _=>[]⟩
def qeu (t:zo.den):Bool:=wk t.1&&(decide (t.1.2.1-t.1.1<=1100)&&(qh5 t.2.1.1 t.2.1.2.1 t.2.1.2.2.1 t.2.1.2.2.2.1&&qcc t.2.2.1))
def qhk:Ct:=⟨[.d zo],[.bool],fun x=>(qeu x.1,()),fun _=>[]⟩
theorem zl5:qa Tryz.prog 121 qhk:=
 conv zaa _ _ (fun _ _ x _ _ _=>by
  obtain ⟨⟨⟨a,b,_⟩,r,cs,_⟩,_⟩:=x;refine ⟨⟨fun _=>trivial,fun _=>trivial⟩,?_⟩;show (if (!(wk (a,b,())))=true then ((false,()):Bool×Unit) else (bif bif decide (IntKind.i64.wrap (b-a)<=1100) then qh5 r.1 r.2.1 r.2.2.1 r.2.2.2.1 else false then qcc cs else false,())) =
   (wk (a,b,())&&(decide (b-a<=1100)&&(qh5 r.1 r.2.1 r.2.2.1 r.2.2.2.1&&qcc cs)),())
  cases hf:wk (a,b,()) with
  |false=>rfl
  |true=>
   obtain ⟨h1,h2,h3⟩:=qcw.1 hf;have hw:IntKind.i64.wrap (b-a)=b-a:=qdi (by omega);rw [hw,qtr];rfl)
def qrs (a b:jp.den):Bool:=(a.1==b.1&&(a.2.1==b.2.1&&(a.2.2.1==b.2.2.1&&(a.2.2.2.1==b.2.2.2.1&&true))))
def qji (a b:ql.den):Bool:=(a.2.1==b.2.1)&&(qrs a.2.2.1 b.2.2.1&&qbb a.2.2.2.1 b.2.2.2.1)
def qq1:Ct:=⟨[.d ql,.d ql],[.bool],fun x=>(qji x.1 x.2.1,()),fun _=>[]⟩
theorem zk0:qa Tryz.prog 115 qq1:=conv znt _ _ (fun _ _ x _ _ _=>by
 obtain ⟨a,b,_⟩:=x;exact ⟨trivial,ubb (·,()) (qtr (a.2.1==b.2.1) (qrs a.2.2.1 b.2.2.1) (qbb a.2.2.2.1 b.2.2.2.1))⟩)
theorem yju:qa Tryz.prog 219 qq1:=conv zc4 _ _ (fun _ _ x _ _ _=>by
 obtain ⟨a,b,_⟩:=x;exact ⟨trivial,ubb (·,()) (qtr (a.2.1==b.2.1) (qrs a.2.2.1 b.2.2.1) (qbb a.2.2.2.1 b.2.2.2.1))⟩)
theorem ynj (a b:Int):(bif bif bif decide (a<1) then true else decide (a>292194) then true else decide (b<1) then true else decide (b>292194)) = !(qc6 a&&qc6 b):=by
 rw [uau];simp only [qc6,ueb,uca,uc9,ugf,uab,ubi];omega
def qo0 (r:jp.den):Bool:=r.1==0&&(r.2.1==0&&(r.2.2.1==0&&(r.2.2.2.1==0&&true)))
theorem zl6:qa Tryz.prog 122 qeg:=
 conv zab _ _ (fun _ _ x _ _ _=>by
  obtain ⟨⟨b,d,k,r,cs,w,_⟩,_⟩:=x;refine ⟨⟨fun _=>trivial,fun _=>⟨fun _=>trivial,fun _=>⟨fun _=>trivial,fun _=>⟨fun _=>trivial,fun _=>⟨fun _=>trivial,fun _=>trivial⟩⟩⟩⟩⟩,?_⟩;show (if (bif bif bif decide (b<1) then true else decide (b>292194) then true else decide (d<1) then true else decide (d>292194))=true then ((false,()):Bool×Unit) else
   if (k==1)=true then (ck1 (b,d,k,r,cs,w,()),()) else if (k==2)=true then (ck2 (b,d,k,r,cs,w,()),()) else
   if (k==3)=true then (bif bif qo0 r then ((cs.length:Int)==0) else false then bif w==0 then true else w==1 else false,()) else
   if (k==4)=true then (bif bif qo0 r then ((cs.length:Int)==0) else false then w==0 else false,()) else (false,()))=(qc6 b&&(qc6 d&&za3 (b,d,k,r,cs,w,())),())
  have hb:=ynj b d;rw [hb];have h3:(bif bif qo0 r then ((cs.length:Int)==0) else false then bif w==0 then true else w==1 else false)=ck3 (b,d,k,r,cs,w,()):=by
   show _=(bif bif bif w==0 then true else w==1 then ((cs.length:Int)==0) else false then qo0 r else false);cases qo0 r<;>cases ((cs.length:Int)==0)<;>cases (w==0)<;>cases (w==1)<;>rfl
  have h4:(bif bif qo0 r then ((cs.length:Int)==0) else false then w==0 else false)=ck4 (b,d,k,r,cs,w,()):=by
   show _=(bif bif w==0 then ((cs.length:Int)==0) else false then qo0 r else false);cases qo0 r<;>cases ((cs.length:Int)==0)<;>cases (w==0)<;>rfl
  rw [h3,h4];have hk:za3 (b,d,k,r,cs,w,())=if (k==1)=true then ck1 (b,d,k,r,cs,w,()) else if (k==2)=true then ck2 (b,d,k,r,cs,w,()) else if (k==3)=true then ck3 (b,d,k,r,cs,w,()) else if (k==4)=true then ck4 (b,d,k,r,cs,w,()) else false:=by
   simp only [ubu];rfl
  rw [hk];cases qc6 b<;>cases qc6 d<;>cases (k==1)<;>cases (k==2)<;>cases (k==3)<;>cases (k==4)<;>rfl)
def qjc (h:qm.den) (i:Int):Int:=(h.2.2.2.1.getD i.toNat qd.dflt).2.1
abbrev chL (h:qm.den):List qd.den:=h.2.2.2.1
noncomputable def CO1:Cx:=cx [(148,ybd)] []
theorem yl4:CxOK Tryz.prog CO1:=zc qv ⟨ynd,trivial⟩ trivial
def yi4 (x:qn [.d i64,.d i64,.ptr qm]):Fr (qi [i64]):=
 Fr.need (0<=x.1/\x.1<((chL x.2.2.1).length:Int)) (Fr.need (0<=x.2.1/\x.2.1<((chL x.2.2.1).length:Int)) (Fr.val ((ybd.f (qjc x.2.2.1 x.1,qjc x.2.2.1 x.2.1,())).1,())))
def qwp:Ct:=⟨[.d i64,.d i64,.ptr qm],[i64],fun x=>(zr2 (qjc x.2.2.1 x.1) (qjc x.2.2.1 x.2.1),()),fun x=>[0<=x.1/\x.1<((chL x.2.2.1).length:Int),0<=x.2.1/\x.2.1<((chL x.2.2.1).length:Int)]⟩
theorem zp6:qa Tryz.prog 147 qwp:=
 conv (qg yl4 (Λ:=qq) (fn:=Tryz.f147) (fr:=yi4) (dfP [.d i64,.d i64,.ptr qm]) (by kernel_rfl) (fun c E _=>qe c 0) (fun x=>by kernel_rfl)) _ _ fun _ _ x _ _ hok=>
  ⟨⟨hok.1,hok.2,trivial⟩,rfl⟩
def qda (n:Nat):List Int:=(List.range n).map fun i:Nat=>(i:Int)
theorem zom (n:Nat):qda (n+1)=qda n++[(n:Int)]:=by simp [qda,ufl]
theorem qmq (n:Nat):(qda n).length=n:=by simp [qda]
theorem qte {n:Nat} {x:Int} (h:x∈qda n):0<=x/\x<n:=by
 simp only [qda,udd,udv] at h;obtain ⟨i,hi,rfl⟩:=h;omega
noncomputable def CO2:Cx:=cxK [(147,qwp)] [] (mtK (cx [(147,qwp)] []).Γ 146 zhi)
theorem yl5:CxOK Tryz.prog (cx [(147,qwp)] []):=zc qv ⟨zp6,trivial⟩ trivial
theorem zh0:CxOK Tryz.prog CO2:=qc4 qv ⟨zp6,trivial⟩ trivial (qoe yl5.ct yk2)
abbrev qgh:Pt:=⟨20,0,⟨[(7,.d i64),(8,.d i64)],[.x 1 54 qm,.r 1 1 0,.o 3 3 i64]⟩,⟨[],[.x 1 54 qm,.r 1 1 0,.o 3 3 i64]⟩,⟨[],[]⟩⟩
set_option maxRecDepth 100000 in
def zc9 (x:qgh.M.X):Fr qgh.Out:=
 let n:=x.1.1; let k:=x.1.2.1; let h:=x.2.1; let l:=x.2.2.1
 Fr.br (decide (k<n))
  (Fr.need (l.length + [k].length<=maxLen/\(l.length + [k].length)*Tryz.prog.types[3].bytes<=140737488355328) (Fr.val (Rd.next ((n,IntKind.i64.wrap (k+1),()),(h,l++[k],())))))
  (Fr.val (Rd.out ((),(h,l,()))))
theorem ykw:qf Tryz.prog (qo Tryz.f105 0) qgh.M qgh zc9:=
 qf.of_run zh0 (bs:=0) (Λ:=qq) rfl rfl rfl (fun E=>qe _ 0) (fun x=>by kernel_rfl)
set_option maxRecDepth 100000 in
theorem yc5:Tryz.prog.types[3].bytes=8:=by kernel_rfl
structure InvOrd (n k:Int) (l:List Int):Prop where
 k0:0<=k
 kn:k<=n
 big:n<=1000000
 ll:l=qda k.toNat
def yaq (x:qgh.M.X):Fr qgh.Out:=
 Fr.need (InvOrd x.1.1 x.1.2.1 x.2.2.1) (Fr.val (Rd.out ((),(x.2.1,qda x.1.1.toNat,()))))
theorem yoh (n k:Int) (h:qm.den) (l:List Int) (hinv:InvOrd n k l) (Q:qgh.Out->Prop) (hq:Q (Rd.out ((),(h,qda n.toNat,())))):(zc9 ((n,k,()),(h,l,()))).satP fun
   |.next x'=>InvOrd x'.1.1 x'.1.2.1 x'.2.2.1/\(x'.1.1-x'.1.2.1).toNat<(n-k).toNat/\(yaq x').satP Q
   |.out y=>Q (.out y)
   |.back z=>Q (.back z)
   |.pan p=>Q (.pan p):=by
 obtain ⟨h0,h1,h2,h3⟩:=hinv;subst h3;dsimp only [zc9,Fr.satP,Ty.den,PT.den];rw [yc5];refine ⟨fun hi=>?_,fun hi=>?_⟩
 ·have hlt:k<n:=ua5 hi;have w:IntKind.i64.wrap (k+1)=k+1:=uag _ (by omega);rw [w];have hI:InvOrd n (k+1) (qda k.toNat++[k]):=⟨by omega,by omega,h2,by rw [show (k+1).toNat=k.toNat+1 by omega,zom,show ((k.toNat:Nat):Int)=k by omega]⟩;refine ⟨?_,hI,by omega,hI,hq⟩;simp only [qmq,uaf,ub9,maxLen];omega
 ·have hge:¬ k<n:=uac hi;rw [show n=k by omega] at hq;exact hq
theorem yjz:qf Tryz.prog (.loop (qo Tryz.f105 0)) qgh.M qgh yaq:=by
 refine qf.loop (n:=20) (id:=0) ykw (inv:=fun x=>InvOrd x.1.1 x.1.2.1 x.2.2.1) (μ:=fun x=>(x.1.1-x.1.2.1).toNat) ?_ (fun x Q h=>h.1);rintro ⟨⟨n,k,_⟩,⟨h,l,_⟩⟩ hinv Q hq;exact yoh n k h l hinv Q hq.2
noncomputable def ytc:Nat->St->Option Tr:=fun _=>qgh.han CO2.Γ qgh.M yaq
def yds (h:qm.den):zi.den:=(fun x=>qwp.f (x.1,x.2.1,h,()),fun x=>qr (qwp.ok (x.1,x.2.1,h,())))
noncomputable def zkq (x:qn [.d qm]):Fr (qi [.sl i64]):=
 let n:Int:=((chL x.1).length:Int)
 Fr.need (InvOrd n 0 [])
 (Fr.need (((qda n.toNat).length:Int)<=4611686018427387903)
  (Fr.need (qgu (yds x.1) (qda n.toNat)) (Fr.val ((zhi.f (qda n.toNat) (yds x.1,())).1,()))))
def yg1 (h:qm.den) (x y:Int):Bool:=decide (qjc h x<qjc h y)
def wb (h:qm.den):List Int:=jq (yg1 h) (qda (chL h).length)
theorem zlg (h:qm.den):zb (yds h)=yg1 h:=by
 funext x y;show decide (zr2 (qjc h x) (qjc h y)<0)=decide (qjc h x<qjc h y);rw [decide_eq_decide];unfold zr2;split
 ·simp [*]
 ·split<;>simp<;>omega
def zit:Ct:=⟨[.d qm],[.sl i64],fun x=>(wb x.1,()),fun x=>[((chL x.1).length:Int)<=1000000]⟩
theorem zls:qa Tryz.prog 105 zit:=
 conv (qg zh0 (Λ:=ytc) (fn:=Tryz.f105) (fr:=zkq) (ps:=[.d qm]) (rs:=[.sl i64]) (dfP [.d qm]) (by kernel_rfl)
  (fun c E hc=>jb hc (by kernel_rfl) (b:=qo Tryz.f105 0) (by kernel_rfl) (qf.han zh0 rfl yjz)) (fun x=>by kernel_rfl)) _ _ fun _ _ x _ _ hok=>by
  obtain ⟨h,rfl⟩:∃ h:qm.den,x=(h,()):=⟨x.1,rfl⟩;have hok':((chL h).length:Int)<=1000000:=hok;have e:((chL h).length:Int).toNat=(chL h).length:=rfl;dsimp only [zkq,Fr.ok,Fr.get,zhi];rw [e,zlg,qmq];refine ⟨⟨⟨Int.le_refl _,by omega,hok',rfl⟩,by omega,⟨fun x hx y hy=>⟨qte hx,qte hy⟩,qjc h,fun x _ y _=>by rw [zlg]; rfl⟩,trivial⟩,rfl⟩
section
variable {key:Int->Int} {lt:Int->Int->Bool}
end
theorem yij {l:List Int} {i:Nat} (h:i<l.length):l.drop i=l.getD i 0::l.drop (i+1):=by
 rw [ubp h];simp [ua6,ua7 h]
end Go.Proofs.YtgieagiaagoogaaGreat
namespace Go.Proofs.YtgieagiaagoogaaGreat
open Go Go.Ab Go.RowKit Go.Proofs
def zhb (s:ql.den) (c:qd.den):ql.den:=
 if c.2.2.1=1 then (s.1,s.2.1,c.2.2.2.1,s.2.2.2.1,s.2.2.2.2.1,())
 else if c.2.2.1=2 then (s.1,s.2.1,s.2.2.1,c.2.2.2.2.1,s.2.2.2.2.1,())
 else if c.2.2.1=3 then (s.1,false,s.2.2.1,s.2.2.2.1,s.2.2.2.2.1,())
 else if c.2.2.1=4 then (s.1,true,s.2.2.1,s.2.2.2.1,s.2.2.2.2.1,())
 else s
def vt (h:qm.den) (i:Int):qd.den:=(chL h).getD i.toNat qd.dflt
noncomputable def CHA:Cx:=cx [(115,qq1),(219,qq1),(122,qeg),(121,qhk),(43,cIn),(168,cIn)] []
theorem zhv:CxOK Tryz.prog CHA:=zc qv ⟨zk0,yju,zl6,zl5,qlv,zxr,trivial⟩ trivial
abbrev yv:Pt:=⟨21,0,⟨[(10,.d i64),(9,.d i64),(8,.d qag),(1,.d i64)],[.x 4 122 ql,.r 4 4 0]⟩,⟨[],[.x 4 122 ql,.r 4 4 0]⟩,⟨[(5,.d .bool)],[.x 4 122 ql,.r 4 4 0]⟩⟩
def qu5 (x:yv.M.X):Fr yv.Out:=
 Fr.br (decide (x.1.1<x.1.2.1)) (Fr.need (0<=x.1.1/\x.1.1<((List.length x.1.2.2.1):Int)) (Fr.br (cIn.f ((List.getD x.1.2.2.1 (Int.toNat x.1.1) ql.dflt).1,x.1.2.2.2.1,())).1 (Fr.val (Rd.back ((true,()),(List.getD x.1.2.2.1 (Int.toNat x.1.1) ql.dflt),()))) (Fr.val (Rd.next ((IntKind.i64.wrap (x.1.1+1),x.1.2.1,x.1.2.2.1,x.1.2.2.2.1,()),x.2.1,()))))) (Fr.val (Rd.out ((),x.2.1,())))
theorem zgl:qf Tryz.prog (qo Tryz.f57 0) yv.M yv qu5:=
 qf.of_run zhv (bs:=0) (Λ:=qq) rfl rfl rfl (fun E=>qe _ 0) (fun x=>by kernel_rfl)
abbrev qes:Type:=qn [.d i64]×jd [.x 4 122 ql,.r 4 4 0]
def vj (e:ql.den) (s:qes):Fr (qes ⊕ yv.R.X):=
 Fr.br (cIn.f (e.1,s.1.1,())).1 (Fr.val (.inr ((true,()),e,()))) (Fr.val (.inl s))
def wo (x:yv.M.X):Int×List ql.den×qes:=(x.1.1,x.1.2.2.1,x.1.2.2.2,x.2)
def qg4 (x:yv.M.X):Prop:=x.1.2.1=(x.1.2.2.1.length:Int)
def qmn (s:qes):yv.E.X:=((),s.2.1,())
def qn8:qes:=(dfP _,dfM _)
def qc5:yv.R.X:=(dfP _,dfM _)
theorem zdf:qf Tryz.prog (.loop (qo Tryz.f57 0)) yv.M yv (FL vj wo qg4 qmn Rd.back qn8 qc5):=by
 refine qf.list zgl vj wo qg4 qmn Rd.back qn8 qc5 ?_ ?_
 ·rintro ⟨⟨i,n,l,s⟩,m⟩ hg h0 h1 hb e he Q h;have hg:n=(l.length:Int):=hg;subst hg;have h0:0<=i:=h0;have h1:i<(l.length:Int):=h1;have hb:(l.length:Int)<=9223372036854775807:=hb;have hd:l.getD i.toNat ql.dflt=e:=zp he;have hw:=zu h0 h1 hb;dsimp only [wo,vj,qu5,Fr.satP] at h ⊢;simp only [hd,hw] at h ⊢;refine ⟨fun _=>?_,fun hn=>absurd h1 (of_decide_eq_false hn)⟩
  repeat' first
   |exact h
   |exact ⟨h0,h1⟩
   |exact fun _=>⟨h0,h1⟩
   |exact h _ rfl rfl
   |refine ⟨?_,?_⟩
   |(intro (hc:_=true); replace h:=h.1 hc)
   |(intro (hc:_=false); replace h:=h.2 hc)
 ·rintro ⟨⟨i,n,l,s⟩,m⟩ hg h1 Q h;have hg:n=(l.length:Int):=hg;subst hg;exact ⟨fun hn=>absurd (ua5 hn) h1,fun _=>h⟩
def zow (Γ:Gm):St->Option Tr:=yv.han Γ yv.M (FL vj wo qg4 qmn Rd.back qn8 qc5)
def qci (y:yv.M.X):qes ⊕ yv.R.X:=goL vj ((wo y).2.1.drop (wo y).1.toNat) (wo y).2.2
def zgh (y:yv.M.X):Prop:=okL vj ((wo y).2.1.drop (wo y).1.toNat) (wo y).2.2
def quy (x:qn [.d qag,.d i64]):Fr (qi [ql,.bool]):=
 Fr.need (InL (qg4 ((0,((List.length x.1):Int),x.1,x.2.1,()),((0,0,()),false,(0,0,0,0,()),[],0,()),())) (wo ((0,((List.length x.1):Int),x.1,x.2.1,()),((0,0,()),false,(0,0,0,0,()),[],0,()),()))) (Fr.need (zgh ((0,((List.length x.1):Int),x.1,x.2.1,()),((0,0,()),false,(0,0,0,0,()),[],0,()),())) (Fr.br (isL (qci ((0,((List.length x.1):Int),x.1,x.2.1,()),((0,0,()),false,(0,0,0,0,()),[],0,()),()))) (Fr.val (((0,0,()),false,(0,0,0,0,()),[],0,()),false,())) (Fr.val ((jk qc5 (qci ((0,((List.length x.1):Int),x.1,x.2.1,()),((0,0,()),false,(0,0,0,0,()),[],0,()),()))).2.1,(jk qc5 (qci ((0,((List.length x.1):Int),x.1,x.2.1,()),((0,0,()),false,(0,0,0,0,()),[],0,()),()))).1.1,()))))
theorem zad:qa Tryz.prog 57 ⟨[.d qag,.d i64],[ql,.bool],fun xs=>(quy xs).get,fun xs=>[(quy xs).ok]⟩:=
 qg zhv (Λ:=(fun _=>zow CHA.Γ)) (fn:=Tryz.f57) (dfP [.d qag,.d i64]) (by kernel_rfl) (fun c E hc=>jb hc (by kernel_rfl) (b:=qo Tryz.f57 0) (by kernel_rfl) (qf.han zhv rfl zdf)) (fun x=>by kernel_rfl)
def qfo:ql.den:=((0,0,()),false,(0,0,0,0,()),[],0,())
def atS:List ql.den->Int->ql.den×Bool
 |[],_=>(qfo,false)
 |s::r,d=>if inB s.1.1 s.1.2.1 d=true then (s,true) else atS r d
def cAt:Ct:=⟨[.d qag,.d i64],[ql,.bool],fun x=>((atS x.1 x.2.1).1,(atS x.1 x.2.1).2,()),fun _=>[]⟩
theorem zia:(l:List ql.den)->(d:Int)->(atS l d).2=false->(atS l d).1=qfo
 |[],_,_=>rfl
 |s::r,d,h=>by
  unfold atS at h ⊢;by_cases hi:inB s.1.1 s.1.2.1 d=true
  ·rw [if_pos hi] at h;cases h
  ·rw [if_neg hi] at h ⊢;exact zia r d h
theorem yqm (l:List ql.den) (d:Int) (m:ql.den):goL vj l ((d,()),(m,()))=if (atS l d).2=true then .inr ((true,()),((atS l d).1,())) else .inl ((d,()),(m,())):=by
 induction l with
 |nil=>rfl
 |cons e r ih=>
  by_cases h:inB e.1.1 e.1.2.1 d=true
  ·have hg:(vj e ((d,()),(m,()))).get = .inr ((true,()),(e,())):=if_pos h;simp only [goL,hg,atS,if_pos h,if_true]
  ·have hg:(vj e ((d,()),(m,()))).get = .inl ((d,()),(m,())):=if_neg h;simp only [goL,hg,atS,if_neg h];exact ih
theorem ymt (l:List ql.den) (d:Int) {σ:Type} {a b:σ} {dr:qn [.d .bool]×ql.den×Unit} :
  (if isL (if (atS l d).2=true then (.inr ((true,()),((atS l d).1,())):σ ⊕ (qn [.d .bool]×ql.den×Unit)) else .inl a)=true then ((qfo,false,()):ql.den×Bool×Unit)
   else ((jk dr (if (atS l d).2=true then (.inr ((true,()),((atS l d).1,())):σ ⊕ (qn [.d .bool]×ql.den×Unit)) else .inl a)).2.1,(jk dr (if (atS l d).2=true then (.inr ((true,()),((atS l d).1,())):σ ⊕ (qn [.d .bool]×ql.den×Unit)) else .inl a)).1.1,()))=((atS l d).1,(atS l d).2,()):=by
 cases h:(atS l d).2 with
 |true=>rfl
 |false=>
  rw [zia l d h];rfl
theorem zmn:qa Tryz.prog 57 cAt:=
 conv zad _ _ (fun w F x vs hr _=>by
  obtain ⟨l,d,_⟩:=x;obtain ⟨v,vs',rfl,hv,_⟩:=hr;have hlen:(l.length:Int)<=9223372036854775807:=qcn hv;refine ⟨⟨⟨rfl,ua4 _,uak _,hlen⟩,qfi (step:=vj) (fun e s=>⟨fun _=>trivial,fun _=>trivial⟩) _ _,fun _=>trivial,fun _=>trivial⟩,?_⟩;have hres:qci ((0,(l.length:Int),l,d,()),(qfo,()))=_:=yqm l d qfo;show (if isL (qci ((0,(l.length:Int),l,d,()),(qfo,())))=true then ((qfo,false,()):ql.den×Bool×Unit) else ((jk qc5 (qci ((0,(l.length:Int),l,d,()),(qfo,())))).2.1,(jk qc5 (qci ((0,(l.length:Int),l,d,()),(qfo,())))).1.1,()))=((atS l d).1,(atS l d).2,());rw [hres];exact ymt l d (b:=((d,()),(qfo,()))))
def qsr (h:qm.den):Bool:=(qeu h.2.2.1&&decide (h.2.2.2.1.length<=2000))&&h.2.2.2.1.all fun c=>xy c&&inB h.2.2.1.1.1 h.2.2.1.1.2.1 c.2.1
def zrl:Ct:=⟨[.d qm],[.bool],fun x=>(qsr x.1,()),fun _=>[]⟩
theorem zq9 {T σ:Type} (p:T->σ->Bool) (l:List T) (s:σ):qnv p (fun _ s=>s) l s=l.all fun e=>p e s:=by
 induction l with
 |nil=>rfl
 |cons e r ih=>simp only [qnv,uc8]; rw [ih]
abbrev zcg:Type:=Bool×jp.den×List qc.den
def qfz (s:ql.den):zcg:=(s.2.1,s.2.2.1,s.2.2.2.1)
theorem zuq {a b:jp.den}:qrs a b=true↔a=b:=by
 obtain ⟨a1,a2,a3,a4,_⟩:=a;obtain ⟨b1,b2,b3,b4,_⟩:=b;constructor
 ·intro h;simp only [qrs,ua1,ubu] at h;obtain ⟨h1,h2,h3,h4,_⟩:=h;rw [h1,h2,h3,h4]
 ·intro h;cases h;simp [qrs]
theorem zax {a b:ql.den}:qji a b=true↔qfz a=qfz b:=by
 unfold qji qfz;simp only [Bool.and_eq_true,beq_iff_eq,zuq,qvx,Prod.mk.injEq]
def qeb (st:Int->zcg) (b:Int):Int->List ql.den->Prop
 |a,[]=>a=b
 |a,s::l=>s.1.1=a/\a<s.1.2.1/\s.2.2.2.2.1=(0:Int)/\(∀ d,a<=d->d<s.1.2.1->qfz s=st d)/\(∀ t∈l.head?,qfz s≠qfz t)/\qeb st b s.1.2.1 l
theorem qeb.le {st:Int->zcg} {b:Int}:{a:Int} -> {l:List ql.den}->qeb st b a l->a<=b
 |a,[],h=>ufg h
 |a,s::l,h=>ub6 (ubs h.2.1) (qeb.le h.2.2.2.2.2)
theorem qeb.at_ {st:Int->zcg} {b:Int} {s:ql.den} {l:List ql.den} {a:Int} (h:qeb st b a (s::l)):qfz s=st a:=h.2.2.2.1 a (ua4 a) h.2.1
def qf4:List ql.den->ql.den->List ql.den
 |[],s=>[s]
 |[x],s=>if qji x s=true then [((x.1.1,s.1.2.1,()),x.2)] else [x,s]
 |x::y::r,s=>x::qf4 (y::r) s
theorem zuc (s:ql.den):(y:ql.den)->(r:List ql.den)->∃ y' r',qf4 (y::r) s=y'::r'/\qfz y'=qfz y
 |y,[]=>by
  unfold qf4;split
  ·exact ⟨_,_,rfl,rfl⟩
  ·exact ⟨_,_,rfl,rfl⟩
 |y,z::r=>⟨y,_,rfl,rfl⟩
theorem qeb.push {st:Int->zcg} {m n:Int} {s:ql.den} (hs:s.1.1=m/\s.1.2.1=n/\s.2.2.2.2.1=(0:Int)) (hmn:m<n) (hst:∀ d,m<=d->d<n->qfz s=st d):{a:Int} -> {l:List ql.den}->qeb st m a l->qeb st n a (qf4 l s)
 |a,[],h=>by
  have h0:a=m:=h;subst h0;refine ⟨hs.1,by rw [hs.2.1]; exact hmn,hs.2.2,fun d h1 h2=>hst d h1 (by rw [hs.2.1] at h2; exact h2),fun t ht=>(by cases ht),hs.2.1⟩
 |a,[x],h=>by
  have hx:x.1.2.1=m:=h.2.2.2.2.2;unfold qf4;by_cases hh:qji x s=true
  ·rw [if_pos hh];have hc:=zax.1 hh;refine ⟨h.1,?_,h.2.2.1,fun d h1 h2=>?_,fun t ht=>(by cases ht),?_⟩
   ·show a<s.1.2.1;rw [hs.2.1];have h1:a<x.1.2.1:=h.2.1;rw [hx] at h1;exact ue3 h1 hmn
   ·have h2':d<n:=by
     have:d<s.1.2.1:=h2;rw [hs.2.1] at this;exact this
    show qfz x=st d;by_cases hd:d<m
    ·exact h.2.2.2.1 d h1 (by rw [hx]; exact hd)
    ·exact hc.trans (hst d (udt.1 hd) h2')
   ·exact hs.2.1
  ·rw [if_neg hh];have hc:qfz x≠qfz s:=fun e=>hh (zax.2 e);refine ⟨h.1,h.2.1,h.2.2.1,h.2.2.2.1,fun t ht=>?_,?_⟩
   ·simp at ht;subst ht;exact hc
   ·rw [hx];exact ⟨hs.1,by rw [hs.2.1]; exact hmn,hs.2.2,fun d h1 h2=>hst d h1 (by rw [hs.2.1] at h2; exact h2),fun t ht=>(by cases ht),hs.2.1⟩
 |a,x::y::r,h=>by
  refine ⟨h.1,h.2.1,h.2.2.1,h.2.2.2.1,fun t ht=>?_,qeb.push hs hmn hst h.2.2.2.2.2⟩;obtain ⟨y',r',e,hc⟩:=zuc s y r;rw [e] at ht;simp at ht;subst ht;rw [hc];exact h.2.2.2.2.1 y (by simp)
def ym8 (h:qm.den):List qd.den:=(wb h).map (vt h)
def qsh (now:ql.den) (out:List ql.den) (day:Int):List ql.den:=
 if now.1.1=day then out else qf4 out ((now.1.1,day,()),now.2)
def qk3:List qd.den->ql.den->List ql.den->ql.den×List ql.den
 |[],now,out=>(now,out)
 |c::l,now,out=>qk3 l (zhb ((c.2.1,now.1.2.1,()),now.2) c) (qsh now out c.2.1)
def yo1 (h:qm.den):ql.den:=((h.2.2.1.1.1,0,()),true,h.2.2.1.2.1,h.2.2.1.2.2.1,0,())
def qd2 (h:qm.den):List ql.den:=qsh (qk3 (ym8 h) (yo1 h) []).1 (qk3 (ym8 h) (yo1 h) []).2 h.2.2.1.1.2.1
noncomputable def yac:Cx:=cx [] []
theorem qqw:CxOK Tryz.prog yac:=zc (cs:=[]) (ps:=[]) qv trivial trivial
abbrev kd:Pt:=⟨68,0,⟨[(5,.d i64)],[.x 2 54 qm,.r 2 2 0,.x 3 24 ze,.r 3 3 0]⟩,⟨[],[.x 3 24 ze,.r 3 3 0]⟩,⟨[(4,.d .bool)],[]⟩⟩
def zat (x:kd.M.X):Fr kd.Out:=
 Fr.br (decide (x.1.1<((List.length x.2.1.2.2.2.1):Int))) (Fr.need (0<=x.1.1/\x.1.1<((List.length x.2.1.2.2.2.1):Int)) (Fr.br (decide (((List.length (List.getD x.2.1.2.2.2.1 (Int.toNat x.1.1) qd.dflt).2.2.2.2.1):Int)>50)) (Fr.val (Rd.back ((false,()),()))) (Fr.val (Rd.next ((IntKind.i64.wrap (x.1.1+1),()),x.2.1,(x.2.2.1.1,()),()))))) (Fr.val (Rd.out ((),(x.2.2.1.1,()),())))
theorem zoq:qf Tryz.prog (qo Tryz.f32 0) kd.M kd zat:=
 qf.of_run qqw (bs:=0) (Λ:=qq) rfl rfl rfl (fun E=>qe _ 0) (fun x=>by kernel_rfl)
abbrev qe9:Type:=qn []×jd [.x 2 54 qm,.r 2 2 0,.x 3 24 ze,.r 3 3 0]
def xn (e:qd.den) (s:qe9):Fr (qe9 ⊕ kd.R.X):=
 Fr.br (decide (((List.length e.2.2.2.2.1):Int)>50)) (Fr.val (.inr ((false,()),()))) (Fr.val (.inl ((),s.2.1,(s.2.2.1.1,()),())))
def jr (x:kd.M.X):Int×List qd.den×qe9:=(x.1.1,x.2.1.2.2.2.1,x.1.2,x.2)
def qjg (x:kd.M.X):Prop:=True
def ws (s:qe9):kd.E.X:=((),(s.2.2.1.1,()),())
def xu:qe9:=(dfP _,dfM _)
def qjb:kd.R.X:=(dfP _,dfM _)
theorem zlf:qf Tryz.prog (.loop (qo Tryz.f32 0)) kd.M kd (FL xn jr qjg ws Rd.back xu qjb):=by
 refine qf.list zoq xn jr qjg ws Rd.back xu qjb ?_ ?_
 ·rintro ⟨⟨i,s⟩,m⟩ hg h0 h1 hb e he Q h;have h0:0<=i:=h0;have h1:i<(m.1.2.2.2.1.length:Int):=h1;have hb:(m.1.2.2.2.1.length:Int)<=9223372036854775807:=hb;have hd:m.1.2.2.2.1.getD i.toNat qd.dflt=e:=zp he;have hw:=zu h0 h1 hb;dsimp only [jr,xn,zat,Fr.satP] at h ⊢;simp only [hd,hw] at h ⊢;refine ⟨fun _=>?_,fun hn=>absurd h1 (of_decide_eq_false hn)⟩
  repeat' first
   |exact h
   |exact ⟨h0,h1⟩
   |exact fun _=>⟨h0,h1⟩
   |exact h _ rfl trivial
   |refine ⟨?_,?_⟩
   |(intro (hc:_=true); replace h:=h.1 hc)
   |(intro (hc:_=false); replace h:=h.2 hc)
 ·rintro ⟨⟨i,s⟩,m⟩ hg h1 Q h;exact ⟨fun hn=>absurd (ua5 hn) h1,fun _=>h⟩
def yab (Γ:Gm):St->Option Tr:=kd.han Γ kd.M (FL xn jr qjg ws Rd.back xu qjb)
def kp (y:kd.M.X):qe9 ⊕ kd.R.X:=goL xn ((jr y).2.1.drop (jr y).1.toNat) (jr y).2.2
def qx1 (y:kd.M.X):Prop:=okL xn ((jr y).2.1.drop (jr y).1.toNat) (jr y).2.2
abbrev jf:Pt:=⟨68,2,⟨[(6,.d i64)],[.x 3 24 ze,.r 3 3 0]⟩,⟨[],[]⟩,⟨[(4,.d .bool)],[]⟩⟩
def qxx (x:jf.M.X):Fr jf.Out:=
 Fr.br (decide (x.1.1<((List.length x.2.1.1):Int))) (Fr.need (0<=x.1.1/\x.1.1<((List.length x.2.1.1):Int)) (Fr.br (bif bif decide (((List.length (List.getD x.2.1.1 (Int.toNat x.1.1) qw.dflt).2.2.1):Int)>200) then true else decide (((List.length (List.getD x.2.1.1 (Int.toNat x.1.1) qw.dflt).2.2.2.1):Int)>200) then true else decide (((List.length (List.getD x.2.1.1 (Int.toNat x.1.1) qw.dflt).2.2.2.2.1):Int)>200)) (Fr.val (Rd.back ((false,()),()))) (Fr.val (Rd.next ((IntKind.i64.wrap (x.1.1+1),()),(x.2.1.1,()),()))))) (Fr.val (Rd.out ((),())))
theorem zmi:qf Tryz.prog (qo Tryz.f32 1) jf.M jf qxx:=
 qf.of_run qqw (bs:=0) (Λ:=qq) rfl rfl rfl (fun E=>qe _ 0) (fun x=>by kernel_rfl)
abbrev qd5:Type:=qn []×jd [.x 3 24 ze,.r 3 3 0]
def qa3 (e:qw.den) (s:qd5):Fr (qd5 ⊕ jf.R.X):=
 Fr.br (bif bif decide (((List.length e.2.2.1):Int)>200) then true else decide (((List.length e.2.2.2.1):Int)>200) then true else decide (((List.length e.2.2.2.2.1):Int)>200)) (Fr.val (.inr ((false,()),()))) (Fr.val (.inl ((),(s.2.1.1,()),())))
def xq (x:jf.M.X):Int×List qw.den×qd5:=(x.1.1,x.2.1.1,x.1.2,x.2)
def qh2 (x:jf.M.X):Prop:=True
def qoi (s:qd5):jf.E.X:=((),())
def qqa:qd5:=(dfP _,dfM _)
def qhn:jf.R.X:=(dfP _,dfM _)
theorem zgf:qf Tryz.prog (.loop (qo Tryz.f32 1)) jf.M jf (FL qa3 xq qh2 qoi Rd.back qqa qhn):=by
 refine qf.list zmi qa3 xq qh2 qoi Rd.back qqa qhn ?_ ?_
 ·rintro ⟨⟨i,s⟩,m⟩ hg h0 h1 hb e he Q h;have h0:0<=i:=h0;have h1:i<(m.1.1.length:Int):=h1;have hb:(m.1.1.length:Int)<=9223372036854775807:=hb;have hd:m.1.1.getD i.toNat qw.dflt=e:=zp he;have hw:=zu h0 h1 hb;dsimp only [xq,qa3,qxx,Fr.satP] at h ⊢;simp only [hd,hw] at h ⊢;refine ⟨fun _=>?_,fun hn=>absurd h1 (of_decide_eq_false hn)⟩
  repeat' first
   |exact h
   |exact ⟨h0,h1⟩
   |exact fun _=>⟨h0,h1⟩
   |exact h _ rfl trivial
   |refine ⟨?_,?_⟩
   |(intro (hc:_=true); replace h:=h.1 hc)
   |(intro (hc:_=false); replace h:=h.2 hc)
 ·rintro ⟨⟨i,s⟩,m⟩ hg h1 Q h;exact ⟨fun hn=>absurd (ua5 hn) h1,fun _=>h⟩
def zvk (Γ:Gm):St->Option Tr:=jf.han Γ jf.M (FL qa3 xq qh2 qoi Rd.back qqa qhn)
def qgm (y:jf.M.X):qd5 ⊕ jf.R.X:=goL qa3 ((xq y).2.1.drop (xq y).1.toNat) (xq y).2.2
def qvd (y:jf.M.X):Prop:=okL qa3 ((xq y).2.1.drop (xq y).1.toNat) (xq y).2.2
def zac (x:qn [.d qm,.d ze]):Fr (qi [.bool]):=
 Fr.br (bif bif decide (((List.length x.1.2.2.2.1):Int)>60) then true else decide (((List.length x.2.1.1):Int)>100) then true else decide (((List.length x.1.2.2.1.2.2.1):Int)>50)) (Fr.val (false,())) (Fr.need (InL (qjg ((0,()),x.1,(x.2.1.1,()),())) (jr ((0,()),x.1,(x.2.1.1,()),()))) (Fr.need (qx1 ((0,()),x.1,(x.2.1.1,()),())) (Fr.br (isL (kp ((0,()),x.1,(x.2.1.1,()),()))) (Fr.need (InL (qh2 ((0,()),((ws (qap xu (kp ((0,()),x.1,(x.2.1.1,()),())))).2.1.1,()),())) (xq ((0,()),((ws (qap xu (kp ((0,()),x.1,(x.2.1.1,()),())))).2.1.1,()),()))) (Fr.need (qvd ((0,()),((ws (qap xu (kp ((0,()),x.1,(x.2.1.1,()),())))).2.1.1,()),())) (Fr.br (isL (qgm ((0,()),((ws (qap xu (goL xn (List.drop (jr ((0,()),x.1,(x.2.1.1,()),())).1.toNat (jr ((0,()),x.1,(x.2.1.1,()),())).2.1) (jr ((0,()),x.1,(x.2.1.1,()),())).2.2))).2.1.1,()),()))) (Fr.val (true,())) (Fr.val ((jk qhn (qgm ((0,()),((ws (qap xu (goL xn (List.drop (jr ((0,()),x.1,(x.2.1.1,()),())).1.toNat (jr ((0,()),x.1,(x.2.1.1,()),())).2.1) (jr ((0,()),x.1,(x.2.1.1,()),())).2.2))).2.1.1,()),()))).1.1,()))))) (Fr.val ((jk qjb (kp ((0,()),x.1,(x.2.1.1,()),()))).1.1,())))))
theorem zga:qa Tryz.prog 32 ⟨[.d qm,.d ze],[.bool],fun xs=>(zac xs).get,fun xs=>[(zac xs).ok]⟩:=
 qg qqw (Λ:=(fun k=>if k=0 then yab yac.Γ else zvk yac.Γ)) (fn:=Tryz.f32) (dfP [.d qm,.d ze]) (by kernel_rfl) (fun c E hc=>zhf hc (by kernel_rfl) (b0:=qo Tryz.f32 0) (b1:=qo Tryz.f32 1) (by kernel_rfl) (by kernel_rfl) (qf.han qqw rfl zlf) (qf.han qqw rfl zgf)) (fun x=>by kernel_rfl)
def qus (c:qd.den):Bool:=decide (c.2.2.2.2.1.length<=50)
def qyv (v:qw.den):Bool:=decide (v.2.2.1.length<=200)&&(decide (v.2.2.2.1.length<=200)&&decide (v.2.2.2.2.1.length<=200))
def qsk (h:qm.den) (t:ze.den):Bool:=(decide (h.2.2.2.1.length<=60)&&(decide (t.1.length<=100)&&decide (h.2.2.1.2.2.1.length<=50)))&&(h.2.2.2.1.all qus&&t.1.all qyv)
def zrj:Ct:=⟨[.d qm,.d ze],[.bool],fun x=>(qsk x.1 x.2.1,()),fun _=>[]⟩
theorem qy5 (n:Nat) (k:Nat):decide ((n:Int)>(k:Int)) = !decide (n<=k):=by
 rw [uau];simp only [uc9,uab,ubi];omega
theorem yis (e:qd.den) (s:qe9):(xn e s).get=if qus e=true then .inl s else .inr ((false,()),()):=by
 show (if decide ((e.2.2.2.2.1.length:Int)>(50:Nat))=true then _ else _)=_;rw [qy5];unfold qus;cases decide (e.2.2.2.2.1.length<=50)<;>rfl
theorem yi9 (e:qw.den) (s:qd5):(qa3 e s).get=if qyv e=true then .inl s else .inr ((false,()),()):=by
 show (if (bif bif decide ((e.2.2.1.length:Int)>(200:Nat)) then true else decide ((e.2.2.2.1.length:Int)>(200:Nat)) then true else decide ((e.2.2.2.2.1.length:Int)>(200:Nat)))=true then _ else _)=_;rw [qy5,qy5,qy5];unfold qyv;cases decide (e.2.2.1.length<=200)<;>cases decide (e.2.2.2.1.length<=200)<;>cases decide (e.2.2.2.2.1.length<=200)<;>rfl
theorem zef {T σ:Type} (l:List T) (s:σ):qmh (fun _ s=>s) l s=s:=by
 induction l with
 |nil=>rfl
 |cons e r ih=>exact ih
theorem ynt:qa Tryz.prog 32 zrj:=
 conv zga _ _ (fun w F x vs hr _=>by
  obtain ⟨h,t,_⟩:=x;obtain ⟨v,vs',rfl,hv,v2,vs2,rfl,hv2,_⟩:=hr;have hwf:=qs.wf hv.2.2;have hwf2:=qs.wf hv2.2.2;have hlen:(h.2.2.2.1.length:Int)<=9223372036854775807:=qno hwf.2.2.2.1.1;have hlen2:(t.1.length:Int)<=9223372036854775807:=qno hwf2.1.1;have hres:=qcv (p:=fun e _=>qus e) (f:=fun _ s=>s) yis h.2.2.2.1 ((),(h,(t,())));rw [qoz,zef] at hres;have hres':kp ((0,()),(h,(t,())))=if h.2.2.2.1.all qus=true then .inl ((),(h,(t,()))) else .inr ((false,()),()):=hres
  have hres2:=qcv (p:=fun e _=>qyv e) (f:=fun _ s=>s) yi9 t.1 ((),(t,()));rw [qoz,zef] at hres2;have hres2':qgm ((0,()),(t,()))=if t.1.all qyv=true then .inl ((),(t,())) else .inr ((false,()),()):=hres2
  have ho:∀ s,qx1 s:=fun s=>qfi (step:=xn) (fun e s=>⟨fun _=>trivial,fun _=>trivial⟩) _ _;have ho1:∀ s,qvd s:=fun s=>qfi (step:=qa3) (fun e s=>⟨fun _=>trivial,fun _=>trivial⟩) _ _;have hcond:(bif bif decide ((h.2.2.2.1.length:Int)>(60:Nat)) then true else decide ((t.1.length:Int)>(100:Nat)) then true else decide ((h.2.2.1.2.2.1.length:Int)>(50:Nat))) = !(decide (h.2.2.2.1.length<=60)&&(decide (t.1.length<=100)&&decide (h.2.2.1.2.2.1.length<=50))):=by
   rw [qy5,qy5,qy5];cases decide (h.2.2.2.1.length<=60)<;>cases decide (t.1.length<=100)<;>cases decide (h.2.2.1.2.2.1.length<=50)<;>rfl
  have hin2:isL (kp ((0,()),(h,(t,()))))=true->(ws (qap xu (kp ((0,()),(h,(t,())))))).2.1=t:=by
   rw [hres'];cases h.2.2.2.1.all qus with
   |true=>exact fun _=>rfl
   |false=>exact fun hh=>(by cases hh)
  have hlen3:isL (kp ((0,()),(h,(t,()))))=true->(((ws (qap xu (kp ((0,()),(h,(t,())))))).2.1.1.length:Int))<=9223372036854775807:=fun hh=>by
   rw [hin2 hh];exact hlen2
  refine ⟨⟨fun _=>trivial,fun _=>⟨⟨trivial,ua4 _,uak _,hlen⟩,ho _,fun hh=>⟨⟨trivial,ua4 _,uak _,hlen3 hh⟩,ho1 _,fun _=>trivial,fun _=>trivial⟩,fun _=>trivial⟩⟩,?_⟩;show (if (bif bif decide ((h.2.2.2.1.length:Int)>(60:Nat)) then true else decide ((t.1.length:Int)>(100:Nat)) then true else decide ((h.2.2.1.2.2.1.length:Int)>(50:Nat)))=true then ((false,()):Bool×Unit) else
   if isL (kp ((0,()),(h,(t,()))))=true then (if isL (qgm ((0,()),((ws (qap xu (kp ((0,()),(h,(t,())))))).2.1,())))=true then (true,()) else ((jk qhn (qgm ((0,()),((ws (qap xu (kp ((0,()),(h,(t,())))))).2.1,())))).1.1,()))
   else ((jk qjb (kp ((0,()),(h,(t,()))))).1.1,()))=(qsk h t,())
  rw [hcond];unfold qsk;by_cases hall:h.2.2.2.1.all qus=true
  ·rw [if_pos hall] at hres';rw [hin2 (by rw [hres']; rfl),hres',hres2',hall];cases (decide (h.2.2.2.1.length<=60)&&(decide (t.1.length<=100)&&decide (h.2.2.1.2.2.1.length<=50)))<;>cases t.1.all qyv<;>rfl
  ·have hall':h.2.2.2.1.all qus=false:=by simpa using hall
   rw [if_neg hall] at hres';rw [hres',hall'];cases (decide (h.2.2.2.1.length<=60)&&(decide (t.1.length<=100)&&decide (h.2.2.1.2.2.1.length<=50)))<;>rfl)
def qk1 (age:Int):List qy.den->Int->Int
 |[],d=>d
 |b::r,d=>if b.1<age then qk1 age r d else b.2.1
def ygd:Ct:=⟨[.d (.sl qy),.d i64],[i64],fun x=>(qk1 x.2.1 x.1 10000,()),fun _=>[]⟩
def Fr.way {α:Type}:Fr α->Fr α
 |.br true x _=>Fr.way x
 |.br false _ y=>Fr.way y
 |.need p x=>.need p (Fr.way x)
 |.val v=>.val v
theorem Fr.way_ok {α:Type}:{f:Fr α}->(Fr.way f).ok->f.ok/\f.get=(Fr.way f).get
 |.br true x _,h=>by
  have:=Fr.way_ok (f:=x) h;exact ⟨⟨fun _=>this.1,fun hb=>(by cases hb)⟩,this.2⟩
 |.br false _ y,h=>by
  have:=Fr.way_ok (f:=y) h;exact ⟨⟨fun hb=>(by cases hb),fun _=>this.1⟩,this.2⟩
 |.need _ x,h=>by
  have:=Fr.way_ok (f:=x) h.2;exact ⟨⟨h.1,this.1⟩,this.2⟩
 |.val _,_=>⟨trivial,rfl⟩
theorem Fr.way_eq {α:Type} {f g:Fr α} (h:Fr.way f=g) (hg:g.ok):f.ok/\f.get=g.get:=by
 subst h;exact Fr.way_ok hg
theorem wa {P:Program} {f:FuncId} {ps:List PT} {rs:List Ty} {fr:qn ps->Fr (qi rs)} (h:qa P f ⟨ps,rs,fun xs=>(fr xs).get,fun xs=>[(fr xs).ok]⟩) (g:qn ps->qi rs) (ok:qn ps->List Prop)
  (hg:∀ w F xs vs,wt P w F ps xs vs->qr (ok xs)->(fr xs).ok/\(fr xs).get=g xs):qa P f ⟨ps,rs,g,ok⟩:=
 conv h g ok hg
noncomputable def ygt (x:qn [.d u64]):Fr (qi [i64]):=(qxc Tryz.prog (cx [] []) qq Tryz.f224 [.d u64] [i64] x).getD (Fr.need False (Fr.val (0,())))
theorem zxd:Fr.way (ygt (10000,()))=Fr.need (¬ (8:Int)<0) (Fr.need (0<=(39:Int)/\(39:Int)<((256:Nat):Int)) (Fr.val (14,()))):=by kernel_rfl
def ybg:Ct:=⟨[.d u64],[i64],fun _=>(14,()),fun x=>[x.1=10000]⟩
theorem yoo:qa Tryz.prog 224 ybg:=
 wa (qg (zc (cs:=[]) (ps:=[]) qv trivial trivial) (Λ:=qq) (fn:=Tryz.f224) (fr:=ygt) (ps:=[.d u64]) (rs:=[i64]) (0,()) (by kernel_rfl) (fun c E _=>qe c 0) (fun x=>by kernel_rfl)) _ _
  (fun w F x vs _ hok=>by
   obtain ⟨n,_⟩:=x;have hn:n=10000:=hok;subst hn;exact Fr.way_eq zxd ⟨by decide,⟨by decide,by decide⟩,trivial⟩)
def cLz:Ct:=⟨[.d u64],[i64],fun _=>(50,()),fun x=>[x.1=10000]⟩
theorem yrh:qa Tryz.prog 207 cLz:=
 conv (qg (zc (cs:=[(224,ybg)]) (ps:=[]) qv ⟨yoo,trivial⟩ trivial) (Λ:=qq) (fn:=Tryz.f207) (fr:=fun x=>Fr.need (x.1=10000) (Fr.val (IntKind.i64.wrap (64-(ybg.f (x.1,())).1),()))) (ps:=[.d u64]) (rs:=[i64]) (0,()) (by kernel_rfl) (fun c E _=>qe c 0) (fun x=>by kernel_rfl)) _ _
  (fun w F x vs _ hok=>⟨⟨hok,trivial⟩,rfl⟩)
abbrev dU:PT:=.d u64
def MD0:LS:=⟨[(2,dU),(8,dU),(9,dU),(10,dU),(11,dU),(13,dU),(14,dU),(15,dU),(16,dU)],[]⟩
def MD2:LS:=⟨[(2,dU),(8,dU),(9,dU),(10,dU),(13,dU),(14,dU),(15,dU),(16,dU),(17,dU),(18,dU)],[]⟩
def zlz:Pt:=⟨135,0,MD0,MD0,⟨[],[]⟩⟩
def zl0:Pt:=⟨135,2,MD2,MD2,⟨[],[]⟩⟩
def ytk (q yn r u:Int):Bool:=bif decide (q≥4294967296) then true else decide (IntKind.u64.wrap (q*yn)>IntKind.u64.wrap (IntKind.u64.wrap (4294967296*r)+u))
def fD0 (x:MD0.X):Fr zlz.Out:=
 match x with
 |((y,s,a,b,c,d,e,q,r,_),_)=>Fr.br (ytk q b r d)
  (Fr.br (decide (IntKind.u64.wrap (r+a)≥4294967296))
   (Fr.val (Rd.out ((y,s,a,b,c,d,e,IntKind.u64.wrap (q-1),IntKind.u64.wrap (r+a),()),())))
   (Fr.val (Rd.next ((y,s,a,b,c,d,e,IntKind.u64.wrap (q-1),IntKind.u64.wrap (r+a),()),()))))
  (Fr.val (Rd.out ((y,s,a,b,c,d,e,q,r,()),())))
def fD2 (x:MD2.X):Fr zl0.Out:=
 match x with
 |((y,s,a,b,d,e,q,r,u,v,_),_)=>Fr.br (ytk v b r e)
  (Fr.br (decide (IntKind.u64.wrap (r+a)≥4294967296))
   (Fr.val (Rd.out ((y,s,a,b,d,e,q,IntKind.u64.wrap (r+a),u,IntKind.u64.wrap (v-1),()),())))
   (Fr.val (Rd.next ((y,s,a,b,d,e,q,IntKind.u64.wrap (r+a),u,IntKind.u64.wrap (v-1),()),()))))
  (Fr.val (Rd.out ((y,s,a,b,d,e,q,r,u,v,()),())))
def FD0 (x:MD0.X):Fr zlz.Out:=Fr.need (ytk x.1.2.2.2.2.2.2.2.1 x.1.2.2.2.1 x.1.2.2.2.2.2.2.2.2.1 x.1.2.2.2.2.2.1=false) (Fr.val (.out x))
def FD2 (x:MD2.X):Fr zl0.Out:=Fr.need (ytk x.1.2.2.2.2.2.2.2.2.2.1 x.1.2.2.2.1 x.1.2.2.2.2.2.2.2.1 x.1.2.2.2.2.2.1=false) (Fr.val (.out x))
noncomputable def CD:Cx:=cx [(207,cLz)] []
theorem qzp:CxOK Tryz.prog CD:=zc qv ⟨yrh,trivial⟩ trivial
theorem yrp:qf Tryz.prog (qo Tryz.f190 0) MD0 zlz fD0:=qf.of_run qzp (bs:=0) rfl rfl rfl (fun _=>qe _ 0) (fun x=>by kernel_rfl)
theorem yrq:qf Tryz.prog (qo Tryz.f190 1) MD2 zl0 fD2:=qf.of_run qzp (bs:=0) rfl rfl rfl (fun _=>qe _ 0) (fun x=>by kernel_rfl)
theorem ynn:qf Tryz.prog (.loop (qo Tryz.f190 0)) MD0 zlz FD0:=
 qf.loop (n:=135) (id:=0) yrp (inv:=fun x=>ytk x.1.2.2.2.2.2.2.2.1 x.1.2.2.2.1 x.1.2.2.2.2.2.2.2.2.1 x.1.2.2.2.2.2.1=false) (μ:=fun _=>0)
  (by
   rintro ⟨⟨y,s,a,b,c,d,e,q,r,_⟩,_⟩ hinv Q hq;exact ⟨fun h=>(by rw [show ytk q b r d=false from hinv] at h; cases h),fun _=>hq.2⟩)
  (fun x Q h=>h.1)
theorem yno:qf Tryz.prog (.loop (qo Tryz.f190 1)) MD2 zl0 FD2:=
 qf.loop (n:=135) (id:=2) yrq (inv:=fun x=>ytk x.1.2.2.2.2.2.2.2.2.2.1 x.1.2.2.2.1 x.1.2.2.2.2.2.2.2.1 x.1.2.2.2.2.2.1=false) (μ:=fun _=>0)
  (by
   rintro ⟨⟨y,s,a,b,d,e,q,r,u,v,_⟩,_⟩ hinv Q hq;exact ⟨fun h=>(by rw [show ytk v b r e=false from hinv] at h; cases h),fun _=>hq.2⟩)
  (fun x Q h=>h.1)
noncomputable def ysu:Nat->St->Option Tr:=fun k=>if k=0 then zlz.han CD.Γ MD0 FD0 else zl0.han CD.Γ MD2 FD2
abbrev wU (n:Int):Int:=IntKind.u64.wrap n
def kq (a:Int):Int:=wU (a*2 ^ min (wU 50).toNat IntKind.u64.bits)
def qhf (hi lo:Int):Int:=wU ((BitVec.ofInt IntKind.u64.bits (kq hi) ||| BitVec.ofInt IntKind.u64.bits (lo.fdiv (2 ^ min (wU (64-wU 50)).toNat IntKind.u64.bits))).toNat:Int)
def dQ (u y:Int):Int:=wU (u.tdiv (h32 (kq y)))
def dR (u y:Int):Int:=wU (u-wU (dQ u y*h32 (kq y)))
def qme (hi lo y:Int):Int:=wU (wU (wU (qhf hi lo*4294967296)+h32 (kq lo))-wU (dQ (qhf hi lo) y*kq y))
def zkc (hi lo y:Int):Fr (qi [u64,u64]):=
 Fr.need (y=10000) (Fr.need (¬ wU 50<0) (Fr.need (¬ (32:Int)<0) (Fr.need (¬ wU 50<0) (Fr.need (¬ wU (64-wU 50)<0) (Fr.need (¬ wU 50<0) (Fr.need (¬ (32:Int)<0)
  (Fr.need (h32 (kq y)≠0)
   (Fr.need (ytk (dQ (qhf hi lo) y) (m32 (kq y)) (dR (qhf hi lo) y) (h32 (kq lo))=false)
    (Fr.need (h32 (kq y)≠0)
     (Fr.need (ytk (dQ (qme hi lo y) y) (m32 (kq y)) (dR (qme hi lo y) y) (m32 (kq lo))=false)
      (Fr.need (¬ wU 50<0)
       (Fr.val (wU (wU (dQ (qhf hi lo) y*4294967296)+dQ (qme hi lo y) y),
        (wU (wU (wU (qme hi lo y*4294967296)+m32 (kq lo))-wU (dQ (qme hi lo y) y*kq y))).fdiv (2 ^ min (wU 50).toNat IntKind.u64.bits),())))))))))))))
def qob (x:qn [dU,dU,dU]):Fr (qi [u64,u64]):=
 Fr.br (x.2.2.1==0) (Fr.need False (Fr.val (0,0,())))
  (Fr.br (decide (x.2.2.1<=x.1)) (Fr.need False (Fr.val (0,0,())))
   (Fr.br (x.1==0) (Fr.need (x.2.2.1≠0) (Fr.need (x.2.2.1≠0) (Fr.val (IntKind.u64.wrap (x.2.1.tdiv x.2.2.1),x.2.1.tmod x.2.2.1,()))))
    (zkc x.1 x.2.1 x.2.2.1)))
theorem Fr.br_f {α:Type} {b:Bool} {x y:Fr α} {v:α} (hb:b=false) (h:y.ok/\y.get=v):(Fr.br b x y).ok/\(Fr.br b x y).get=v:=by
 subst hb;exact ⟨⟨fun h=>(by cases h),fun _=>h.1⟩,h.2⟩
theorem Fr.br_t {α:Type} {b:Bool} {x y:Fr α} {v:α} (hb:b=true) (h:x.ok/\x.get=v):(Fr.br b x y).ok/\(Fr.br b x y).get=v:=by
 subst hb;exact ⟨⟨fun _=>h.1,fun h=>(by cases h)⟩,h.2⟩
theorem Fr.need_ {α:Type} {p:Prop} {x:Fr α} {v:α} (hp:p) (h:x.ok/\x.get=v):(Fr.need p x).ok/\(Fr.need p x).get=v:=⟨⟨hp,h.1⟩,h.2⟩
theorem yii:qa Tryz.prog 190 ⟨[dU,dU,dU],[u64,u64],fun xs=>(qob xs).get,fun xs=>[(qob xs).ok]⟩:=
 qg qzp (Λ:=ysu) (fn:=Tryz.f190) (fr:=qob) (ps:=[dU,dU,dU]) (rs:=[u64,u64]) (0,0,0,()) (by kernel_rfl)
  (fun c E hc=>zhf hc (by kernel_rfl) (b0:=qo Tryz.f190 0) (b1:=qo Tryz.f190 1) (by kernel_rfl) (by kernel_rfl) (qf.han qzp rfl ynn) (qf.han qzp rfl yno)) (fun x=>by kernel_rfl)
theorem zmj {a:Int}:kq a=wU (a*1125899906842624):=by
 have e1:wU 50=50:=by decide
 have e2:min (50:Int).toNat IntKind.u64.bits=50:=by decide
 unfold kq;rw [e1,e2];rfl
theorem yo7 {a b:Int} (h1:0<=a) (h2:0<=b) (h3:b<1125899906842624) (h4:a*1125899906842624<18446744073709551616) :
  wU ((BitVec.ofInt IntKind.u64.bits (a*1125899906842624) ||| BitVec.ofInt IntKind.u64.bits b).toNat:Int)=a*1125899906842624+b:=by
 obtain ⟨m,rfl⟩:∃ m:Nat,a=m:=⟨a.toNat,by omega⟩;obtain ⟨n,rfl⟩:∃ n:Nat,b=n:=⟨b.toNat,by omega⟩;have e1:(BitVec.ofInt IntKind.u64.bits ((m:Int)*1125899906842624)).toNat=m*1125899906842624:=by
  rw [ug9];show (((m:Int)*1125899906842624)%((2 ^ 64:Nat):Int)).toNat=m*1125899906842624;omega
 have e2:(BitVec.ofInt IntKind.u64.bits (n:Int)).toNat=n:=by
  rw [ug9];show ((n:Int)%((2 ^ 64:Nat):Int)).toNat=n;omega
 have e3:(m*1125899906842624 ||| n)=m*1125899906842624+n:=by
  have:=Nat.shiftLeft_add_eq_or_of_lt (i:=50) (b:=n) (by omega) m;rw [Nat.shiftLeft_eq] at this;have e:(2:Nat) ^ 50=1125899906842624:=by decide
  rw [e] at this;exact this.symm
 rw [BitVec.toNat_or,e1,e2,e3];show IntKind.u64.wrap _=_;rw [qdk (by omega)];omega
theorem yqq {hi lo q1 q0 un32 un10 un1 un0 r1 un21:Int} (h1:0<=hi/\hi<10000) (h2:0<=lo/\lo<=18446744073709551615)
  (e32:un32=hi*1125899906842624+lo/16384) (e10:un10=lo*1125899906842624%18446744073709551616) (e1:un1=un10/4294967296) (e0:un0=un10%4294967296)
  (eq1:q1=un32/2621440000) (er:r1=un32-q1*2621440000) (e21:un21=r1*4294967296+un1) (eq0:q0=un21/2621440000) :
  un0=0/\0<=un1/\un1<4294967296/\0<=q1/\q1<4294967296/\0<=r1/\r1<2621440000/\0<=q0/\q0<4294967296/\q1*4294967296+q0=(hi*18446744073709551616+lo)/10000/\(un21-q0*2621440000)*4294967296/1125899906842624=(hi*18446744073709551616+lo)%10000:=by
 have a1:un1=(lo%16384)*262144:=by omega
 have a0:un0=0:=by omega
 have a2:0<=un1/\un1<4294967296:=by omega
 clear e1 e0 e10;have b1:0<=q1/\q1<4294967296:=by omega
 have b2:0<=r1/\r1<2621440000:=by omega
 have b3:0<=q0/\q0<4294967296:=by omega
 refine ⟨a0,a2.1,a2.2,b1.1,b1.2,b2.1,b2.2,b3.1,b3.2,?_,?_⟩
 ·omega
 ·omega
theorem zp1 {q r u:Int} (h1:0<=q/\q<4294967296):ytk q 0 r u=false:=by
 unfold ytk;have e1:decide (q≥4294967296)=false:=by simp; omega
 rw [e1,Int.mul_zero];have e2:IntKind.u64.wrap 0=0:=by decide
 rw [e2];have:0<=IntKind.u64.wrap (IntKind.u64.wrap (4294967296*r)+u):=by
  rw [uf6];omega
 simp;omega
theorem dqL {u:Int} (h:0<=u/\u<18446744073709551616):wU (u.tdiv 2621440000)=u/2621440000:=by
 rw [Int.tdiv_eq_ediv_of_nonneg h.1];exact qdk (by omega)
theorem g1L {q1 q0:Int} (h1:0<=q1/\q1<4294967296) (h0:0<=q0/\q0<4294967296):wU (wU (q1*4294967296)+q0)=q1*4294967296+q0:=by
 rw [show wU (q1*4294967296)=q1*4294967296 from qdk (by omega)];exact qdk (by omega)
theorem g2L {u q0:Int} (hq:q0=u/2621440000) (hu:0<=u/\u<18446744073709551616):wU (wU (wU (u*4294967296)+0)-wU (q0*11258999068426240000))=(u-q0*2621440000)*4294967296:=by
 unfold wU;simp only [IntKind.wrap_u64];omega
theorem yso {u q1 u1:Int} (h:0<=u-q1*2621440000/\u-q1*2621440000<2621440000) (h1:0<=u1/\u1<4294967296):wU (wU (wU (u*4294967296)+u1)-wU (q1*11258999068426240000))=(u-q1*2621440000)*4294967296+u1:=by
 unfold wU;simp only [IntKind.wrap_u64];omega
theorem yta {r u1:Int} (h:0<=r/\r<2621440000) (h1:0<=u1/\u1<4294967296):0<=r*4294967296+u1/\r*4294967296+u1<18446744073709551616:=by omega
theorem ytb {hi lo:Int} (h1:0<=hi/\hi<10000) (h2:0<=lo/\lo<=18446744073709551615):0<=hi*1125899906842624+lo/16384/\hi*1125899906842624+lo/16384<18446744073709551616:=by omega
theorem zsc {hi lo:Int} (h0:hi≠0) (h1:0<=hi/\hi<10000) (h2:0<=lo/\lo<=18446744073709551615) :
  (qob (hi,lo,10000,())).ok/\(qob (hi,lo,10000,())).get=((hi*18446744073709551616+lo)/10000,(hi*18446744073709551616+lo)%10000,()):=by
 have ey:kq 10000=11258999068426240000:=by decide
 have ey1:h32 (kq 10000)=2621440000:=by decide
 have ey0:m32 (kq 10000)=0:=by decide
 have es:kq hi=hi*1125899906842624:=by rw [zmj]; exact qdk (by omega)
 have eu:qhf hi lo=hi*1125899906842624+lo/16384:=by
  unfold qhf;have e1:lo.fdiv (2 ^ min (wU (64-wU 50)).toNat IntKind.u64.bits)=lo/16384:=by
   have:(2:Int) ^ min (wU (64-wU 50)).toNat IntKind.u64.bits=16384:=by decide
   rw [this,uen _ (by decide)]
  rw [e1,es];exact yo7 (by omega) (by omega) (by omega) (by omega)
 have el:kq lo=lo*1125899906842624%18446744073709551616:=by rw [zmj]; exact uf6 _
 have hs:0<=kq lo/\kq lo<=18446744073709551615:=by rw [el]; omega
 have eU1:h32 (kq lo)=kq lo/4294967296:=zxp;have eU0:m32 (kq lo)=kq lo%4294967296:=za8 hs;have eq1:dQ (qhf hi lo) 10000=qhf hi lo/2621440000:=by
  unfold dQ;rw [ey1,eu];exact dqL (ytb h1 h2)
 obtain ⟨k0,k1,k2,k3,k4,k5,k6,k7,k8,k9,k10⟩:=yqq (q1:=dQ (qhf hi lo) 10000) (un32:=qhf hi lo) (un10:=kq lo) (un1:=h32 (kq lo)) (un0:=m32 (kq lo)) (r1:=qhf hi lo-dQ (qhf hi lo) 10000*2621440000) h1 h2 eu el eU1 eU0 eq1 rfl rfl rfl;have e21:qme hi lo 10000=(qhf hi lo-dQ (qhf hi lo) 10000*2621440000)*4294967296+h32 (kq lo):=by
  unfold qme;rw [ey];exact yso ⟨k5,k6⟩ ⟨k1,k2⟩
 have b21:=yta ⟨k5,k6⟩ ⟨k1,k2⟩;rw [← e21] at k7 k8 k9 k10 b21;have eq0:dQ (qme hi lo 10000) 10000=qme hi lo 10000/2621440000:=by
  unfold dQ;rw [ey1];exact dqL b21
 rw [← eq0] at k7 k8 k9 k10;have g1:wU (wU (dQ (qhf hi lo) 10000*4294967296)+dQ (qme hi lo 10000) 10000)=(hi*18446744073709551616+lo)/10000:=by
  rw [← k9];exact g1L ⟨k3,k4⟩ ⟨k7,k8⟩
 have g2:(wU (wU (wU (qme hi lo 10000*4294967296)+m32 (kq lo))-wU (dQ (qme hi lo 10000) 10000*kq 10000))).fdiv (2 ^ min (wU 50).toNat IntKind.u64.bits)=(hi*18446744073709551616+lo)%10000:=by
  have e50:(2:Int) ^ min (wU 50).toNat IntKind.u64.bits=1125899906842624:=by decide
  rw [e50,ey,k0,uen _ (by decide),← k10,g2L eq0 b21]
 have hge:¬ (10000:Int)<=hi:=by omega
 have h0':(hi==0)=false:=by simpa using h0
 refine Fr.br_f rfl (Fr.br_f (uao hge) (Fr.br_f h0' ?_));show (zkc hi lo 10000).ok/\(zkc hi lo 10000).get=_;refine Fr.need_ rfl (Fr.need_ (by decide) (Fr.need_ (by decide) (Fr.need_ (by decide) (Fr.need_ (by decide) (Fr.need_ (by decide) (Fr.need_ (by decide) (Fr.need_ ?_ (Fr.need_ ?_ (Fr.need_ ?_ (Fr.need_ ?_ (Fr.need_ (by decide) ⟨trivial,?_⟩)))))))))))
 ·rw [ey1]; decide
 ·rw [ey0]; exact zp1 ⟨k3,k4⟩
 ·rw [ey1]; decide
 ·rw [ey0]; exact zp1 ⟨k7,k8⟩
 ·exact ucd g1 (ucd g2 rfl)
def zg3:Ct:=⟨[dU,dU,dU],[u64,u64],fun x=>((x.1*18446744073709551616+x.2.1)/x.2.2.1,(x.1*18446744073709551616+x.2.1)%x.2.2.1,()),fun x=>[(x.1=0/\0<x.2.2.1)∨(x.2.2.1=10000/\x.1<10000)]⟩
theorem ynl {lo y:Int} (b2:0<=lo/\lo<=18446744073709551615) (hy:0<y):(qob (0,lo,y,())).ok/\(qob (0,lo,y,())).get=((0*18446744073709551616+lo)/y,(0*18446744073709551616+lo)%y,()):=by
 rw [Int.zero_mul,Int.zero_add];have e1:(y==0)=false:=by simp; omega
 have e2:¬ y<=(0:Int):=by omega
 have e3:y≠0:=by omega
 refine Fr.br_f e1 (Fr.br_f (uao e2) (Fr.br_t rfl (Fr.need_ e3 (Fr.need_ e3 ⟨trivial,?_⟩))));exact ucd (IntWalk.u64_quo lo y ⟨b2.1,b2.2,by omega⟩) (ucd (IntWalk.rem_in lo y b2.1) rfl)
theorem yih : qa Tryz.prog 190 zg3 :=
  wa yii _ _ (fun w F x vs hr hok => by
    obtain ⟨hi, lo, y, _⟩ := x
    obtain ⟨v1, vs1, rfl, h1, v2, vs2, rfl, h2, v3, vs3, rfl, h3, _⟩ := hr
    have b1 : 0 <= hi /\ hi <= 18446744073709551615 := qwa h1
    have b2 : 0 <= lo /\ lo <= 18446744073709551615 := qwa h2
    have hok' : (hi = 0 /\ 0 < y) ∨ (y = 10000 /\ hi < 10000) := hok
    have hcase : (hi = 0 /\ 0 < y) ∨ (hi ≠ 0 /\ y = 10000 /\ hi < 10000) := by
      clear hok
      by_cases hz : hi = 0
      · exact .inl ⟨hz, by rcases hok' with h | h
                           · exact h.2
                           · rw [h.1]; decide⟩
      · rcases hok' with h | h
        · exact absurd h.1 hz
        · exact .inr ⟨hz, h⟩
    rcases hcase with ⟨rfl, hy⟩ | ⟨h0, rfl, hlt⟩
    · exact ynl b2 hy
    · exact zsc h0 ⟨b1.1, hlt⟩ b2)
def zqk:Code->Code
 |.seq _ (.scope c)=>c
 |_=>.skip
def zxq:Code->Code
 |.seq a _=>a
 |_=>.skip
noncomputable def zgw:Code:=(Tryz.f161.body.map zqk).getD .skip
noncomputable def yf9:Code:=(Tryz.f161.body.map zxq).getD .skip
noncomputable def yga:Code:=(findLabel zgw 0).getD .skip
def MBd:LS:=⟨[(0,.d (.sl qy)),(1,.d i64)],[]⟩
def qzi:Pt:=⟨20,0,MBd,⟨[],[]⟩,⟨[(4,.d i64)],[]⟩⟩
noncomputable def CB0:Cx:=cx [] []
theorem qzo:CxOK Tryz.prog CB0:=zc (cs:=[]) (ps:=[]) qv trivial trivial
def fBd (x:MBd.X):Fr qzi.Out:=
 match x with
 |((l,a,_),_)=>Fr.br ((l.length:Int)==0) (Fr.val (Rd.back ((10000,()),())))
  (Fr.need (0<=(0:Int)/\(0:Int)<l.length)
   (Fr.br (decide ((l.getD (Int.toNat 0) qy.dflt).1<a))
    (Fr.need (0<=(some (1:Int)).getD 0/\(some (1:Int)).getD 0<=(none:Option Int).getD l.length/\(none:Option Int).getD l.length<=l.length)
     (Fr.val (Rd.next ((List.take ((none:Option Int).getD l.length-(some (1:Int)).getD 0).toNat (List.drop ((some (1:Int)).getD 0).toNat l),a,()),()))))
    (Fr.need (0<=(0:Int)/\(0:Int)<l.length) (Fr.val (Rd.back (((l.getD (Int.toNat 0) qy.dflt).2.1,()),()))))))
def yam (x:MBd.X):Fr qzi.Out:=Fr.val (.back ((qk1 x.1.2.1 x.1.1 10000,()),()))
theorem yrm:qco Tryz.prog 0 zgw MBd qzi fBd:=qco.of_run qzo (bs:=0) rfl rfl rfl (fun _=>qe _ 0) (fun x=>by kernel_rfl)
theorem yrn:qco Tryz.prog 0 yga MBd qzi fBd:=qco.of_run qzo (bs:=0) rfl rfl rfl (fun _=>qe _ 0) (fun x=>by kernel_rfl)
theorem yh4 (l:List qy.den) (a:Int) (Q:qzi.Out->Prop) (hq:Q (.back ((qk1 a l 10000,()),()))) :
  (fBd ((l,a,()),())).satP fun
   |.next x'=>True/\x'.1.1.length<l.length/\(yam x').satP Q
   |.out y=>Q (.out y)
   |.back z=>Q (.back z)
   |.pan p=>Q (.pan p):=by
 cases l with
 |nil=>exact ⟨fun _=>hq,fun h=>by cases h⟩
 |cons b r=>
  have h0:(0:Int)<((b::r).length:Int):=by simp only [uaf]; omega
  have h1:(((b::r).length:Int)==0)=false:=by simp; omega
  refine ⟨fun h=>(by rw [h1] at h; cases h),fun _=>⟨⟨ua4 0,h0⟩,fun h=>⟨⟨by decide,?_,ua4 _⟩,trivial,?_,?_⟩,fun h=>⟨⟨ua4 0,h0⟩,?_⟩⟩⟩
  ·show (1:Int)<=((b::r).length:Int);omega
  ·show (List.take (((b::r).length:Int)-1).toNat r).length<(b::r).length;rw [uae];simp only [uaf];omega
  ·show Q (.back ((qk1 a (List.take (((b::r).length:Int)-1).toNat r) 10000,()),()));have e:List.take (((b::r).length:Int)-1).toNat r=r:=udc (by simp);have hc:b.1<a:=ua5 h;rw [e];have:qk1 a (b::r) 10000=qk1 a r 10000:=if_pos hc;rw [← this];exact hq
  ·have hc:¬ b.1<a:=uac h;have:qk1 a (b::r) 10000=b.2.1:=if_neg hc;rw [this] at hq;exact hq
theorem yqo:qf Tryz.prog (.scope zgw) MBd qzi yam:=
 qco.scope (n:=20) (id:=0) (N:=MBd) (rest:=yga) (by kernel_rfl) yrm yrn (inv:=fun _=>True) (μ:=fun x=>x.1.1.length)
  (by
   rintro ⟨⟨l,a,_⟩,_⟩ _ Q hq;exact yh4 l a Q hq)
  (fun _ _ _=>trivial)
theorem yh6:qa Tryz.prog 161 ygd:=
 wa (zkz (run:=qtq (ja Tryz.prog CB0 0 qq yf9 0) (qzi.han CB0.Γ MBd yam)) (fn:=Tryz.f161) (c:=.seq yf9 (.scope zgw)) (ps:=[.d (.sl qy),.d i64]) (rs:=[i64])
  (fr:=fun x=>Fr.val (qk1 x.2.1 x.1 10000,())) ([],0,()) (by kernel_rfl) (by kernel_rfl)
  (fun E=>qmb (qim qzo (qe _ 0)) (qf.run qzo rfl yqo)) (fun x=>by kernel_rfl)) _ _ (fun _ _ _ _ _ _=>⟨trivial,rfl⟩)
def zbc:qw.den:=(0,(0,0,0,0,()),[],[],[],0,())
def yo (day:Int):List qw.den->qw.den×Int
 |[]=>(zbc,7)
 |v::r=>if v.1<=day then (v,0) else yo day r
def qrh (T:Ty) (n:Nat) (x:qn [.d (.sl T)]):Fr (qi [.sl T]):=
 Fr.need (x.1=[] ->
   (Fr.br true (Fr.val (([]:List T.den),())) (Fr.need (([]:List T.den).length+x.1.length<=maxLen/\(([]:List T.den).length+x.1.length)*n<=140737488355328) (Fr.val (([]:List T.den)++x.1,())))).ok /\
   (Fr.br true (Fr.val (([]:List T.den),())) (Fr.need (([]:List T.den).length+x.1.length<=maxLen/\(([]:List T.den).length+x.1.length)*n<=140737488355328) (Fr.val (([]:List T.den)++x.1,())))).get =
    (Fr.br false (Fr.val (([]:List T.den),())) (Fr.need (([]:List T.den).length+x.1.length<=maxLen/\(([]:List T.den).length+x.1.length)*n<=140737488355328) (Fr.val (([]:List T.den)++x.1,())))).get)
  (Fr.br false (Fr.val (([]:List T.den),())) (Fr.need (([]:List T.den).length+x.1.length<=maxLen/\(([]:List T.den).length+x.1.length)*n<=140737488355328) (Fr.val (([]:List T.den)++x.1,()))))
def qeh (T:Ty):Ct:=⟨[.d (.sl T)],[.sl T],fun x=>(x.1,()),fun x=>[x.1.length<=1000000]⟩
theorem qyo {T:Ty} {n:Nat} (hn:n<=1000) {l:List T.den} (hl:l.length<=1000000):(qrh T n (l,())).ok/\(qrh T n (l,())).get=(l,()):=by
 have h1:([]:List T.den).length+l.length<=maxLen/\(([]:List T.den).length+l.length)*n<=140737488355328:=by
  refine ⟨by simp only [List.length_nil]; unfold maxLen; omega,?_⟩;have:(([]:List T.den).length+l.length)*n<=1000000*1000:=Nat.mul_le_mul (by simp only [List.length_nil]; omega) hn;omega
 refine Fr.need_ (fun h=>?_) (Fr.br_f rfl (Fr.need_ h1 ⟨trivial,rfl⟩));subst h;exact ⟨⟨fun _=>trivial,fun h=>by cases h⟩,rfl⟩
noncomputable def ylt:Cx:=cx [] []
theorem qj4:CxOK Tryz.prog ylt:=zc (cs:=[]) (ps:=[]) qv trivial trivial
theorem zwd:qa Tryz.prog 155 (qeh qy):=
 wa (qg qj4 (Λ:=qq) (fn:=Tryz.f155) (fr:=qrh qy 16) (ps:=[.d (.sl qy)]) (rs:=[.sl qy]) ([],()) (by kernel_rfl) (fun c E _=>qe c 0) (fun x=>by kernel_rfl)) _ _
  (fun _ _ x _ _ hok=>qyo (by decide) hok)
theorem zwe:qa Tryz.prog 156 (qeh i64):=
 wa (qg qj4 (Λ:=qq) (fn:=Tryz.f156) (fr:=qrh i64 8) (ps:=[.d (.sl i64)]) (rs:=[.sl i64]) ([],()) (by kernel_rfl) (fun c E _=>qe c 0) (fun x=>by kernel_rfl)) _ _
  (fun _ _ x _ _ hok=>qyo (by decide) hok)
theorem qlo:qa Tryz.prog 70 (qeh qc):=
 wa (qg qj4 (Λ:=qq) (fn:=Tryz.f70) (fr:=qrh qc 40) (ps:=[.d (.sl qc)]) (rs:=[.sl qc]) ([],()) (by kernel_rfl) (fun c E _=>qe c 0) (fun x=>by kernel_rfl)) _ _
  (fun _ _ x _ _ hok=>qyo (by decide) hok)
def qf0 (g:Int->Bool):List Int->Int->Option Int
 |[],_=>none
 |x::r,i=>if g x=true then some i else qf0 g r (i+1)
abbrev fnB:PT:=.fn [i64] [.bool]
def MIx:LS:=⟨[(0,.d jg),(1,fnB),(7,.d i64),(8,.d i64)],[]⟩
def qzj:Pt:=⟨19,0,MIx,⟨[],[]⟩,⟨[(4,.d i64)],[]⟩⟩
def fIx (x:MIx.X):Fr qzj.Out:=
 match x with
 |((l,g,n,i,_),_)=>Fr.br (decide (i<n))
  (Fr.need (0<=i/\i<l.length)
   (Fr.br (g (l.getD i.toNat i64.dflt,())).1 (Fr.val (Rd.back ((i,()),())))
    (Fr.val (Rd.next ((l,g,n,IntKind.i64.wrap (i+1),()),())))))
  (Fr.val (Rd.out ((),())))
def qyc (l:List Int) (n i:Int):Prop:=0<=i/\i<=n/\n=l.length/\n<=9223372036854775807
def FIx (x:MIx.X):Fr qzj.Out:=
 Fr.need (qyc x.1.1 x.1.2.2.1 x.1.2.2.2.1) (Fr.br (qf0 (fun n=>(x.1.2.1 (n,())).1) (x.1.1.drop x.1.2.2.2.1.toNat) x.1.2.2.2.1).isSome
   (Fr.val (.back (((qf0 (fun n=>(x.1.2.1 (n,())).1) (x.1.1.drop x.1.2.2.2.1.toNat) x.1.2.2.2.1).getD (-1),()),()))) (Fr.val (.out ((),()))))
theorem yrs:qf Tryz.prog (qo Tryz.f225 0) MIx qzj fIx:=qf.of_run qj4 (bs:=0) rfl rfl rfl (fun _=>qe _ 0) (fun x=>by kernel_rfl)
theorem yq3 (l:List Int) (g:qi [i64]->qi [.bool]) (n i:Int) (hinv:qyc l n i) (Q:qzj.Out->Prop) (hq:(Fr.br (qf0 (fun n=>(g (n,())).1) (l.drop i.toNat) i).isSome (Fr.val (Rd.back (((qf0 (fun n=>(g (n,())).1) (l.drop i.toNat) i).getD (-1),()),()))) (Fr.val (Rd.out ((),())))  : Fr qzj.Out).satP Q) :
  (fIx ((l,g,n,i,()),())).satP fun
   |.next x'=>qyc x'.1.1 x'.1.2.2.1 x'.1.2.2.2.1/\(x'.1.2.2.1-x'.1.2.2.2.1).toNat<(n-i).toNat/\(FIx x').satP Q
   |.out y=>Q (.out y)
   |.back z=>Q (.back z)
   |.pan p=>Q (.pan p):=by
 obtain ⟨h1,h2,h3,h4⟩:=hinv;subst h3;refine ⟨fun hi=>?_,fun hi=>?_⟩
 ·have hi':i<(l.length:Int):=ua5 hi;obtain ⟨k,rfl⟩:∃ k:Nat,i=k:=⟨i.toNat,by omega⟩;have hl:k<l.length:=by omega
  have g1:l.getD (k:Int).toNat i64.dflt=l[k]:=by
   rw [show (k:Int).toNat=k by omega,ua6,ua7 hl]; rfl
  have hw:IntKind.i64.wrap ((k:Int)+1)=k+1:=uag _ (by omega);have hd:l.drop (k:Int).toNat=l[k]::l.drop (k+1):=by
   rw [show (k:Int).toNat=k by omega];exact (ubp hl)
  rw [hd] at hq;dsimp only [fIx,Fr.satP];rw [g1,hw];refine ⟨⟨by omega,by omega⟩,fun hb=>?_,fun hb=>?_⟩
  ·have:qf0 (fun n=>(g (n,())).1) (l[k]::l.drop (k+1)) k=some (k:Int):=if_pos hb;rw [this] at hq;exact hq.1 rfl
  ·have hb':¬ (g (l[k],())).1=true:=by rw [hb]; decide
   have:qf0 (fun n=>(g (n,())).1) (l[k]::l.drop (k+1)) k=qf0 (fun n=>(g (n,())).1) (l.drop (k+1)) (k+1):=if_neg hb';rw [this] at hq;have hI:qyc l l.length ((k:Int)+1):=⟨by omega,by omega,rfl,h4⟩;refine ⟨hI,by omega,hI,?_⟩;rw [show ((k:Int)+1).toNat=k+1 by omega];exact hq
 ·have hi':¬ i<(l.length:Int):=uac hi;have e:l.drop i.toNat=[]:=uc5 (by omega);rw [e] at hq;exact hq.2 rfl
theorem yor:qf Tryz.prog (.loop (qo Tryz.f225 0)) MIx qzj FIx:=by
 refine qf.loop (n:=19) (id:=0) yrs (inv:=fun x=>qyc x.1.1 x.1.2.2.1 x.1.2.2.2.1) (μ:=fun x=>(x.1.2.2.1-x.1.2.2.2.1).toNat) ?_ (fun x Q h=>h.1);rintro ⟨⟨l,g,n,i,_⟩,_⟩ hinv Q hq;exact yq3 l g n i hinv Q hq.2
def ybf:Ct:=⟨[.d jg,fnB],[i64],fun x=>((qf0 (fun n=>(x.2.1 (n,())).1) x.1 0).getD (-1),()),fun _=>[]⟩
theorem yn2:qa Tryz.prog 225 ybf:=
 wa (qg qj4 (Λ:=fun _=>qzj.han ylt.Γ MIx FIx) (fn:=Tryz.f225) (ps:=[.d jg,fnB]) (rs:=[i64])
  (fr:=fun x=>Fr.need (qyc x.1 x.1.length 0) (Fr.br (qf0 (fun n=>(x.2.1 (n,())).1) x.1 0).isSome (Fr.val ((qf0 (fun n=>(x.2.1 (n,())).1) x.1 0).getD (-1),())) (Fr.val (-1,())))) ([],fun _=>(false,()),()) (by kernel_rfl)
  (fun c E hc=>jb hc (by kernel_rfl) (b:=qo Tryz.f225 0) (by kernel_rfl) (qf.han qj4 rfl yor)) (fun x=>by kernel_rfl)) _ _ (fun w F x vs hr _=>by
  obtain ⟨l,g,_⟩:=x;obtain ⟨v,vs',rfl,hv,_⟩:=hr;have hlen:(l.length:Int)<=9223372036854775807:=qcn hv;have hI:qyc l l.length 0:=⟨by omega,by omega,rfl,hlen⟩;refine Fr.need_ hI ?_;cases hf:qf0 (fun n=>(g (n,())).1) l 0 with
  |some k=>exact Fr.br_t rfl ⟨trivial,rfl⟩
  |none=>exact Fr.br_f rfl ⟨trivial,rfl⟩)
theorem zah (g:Int->Bool):(l:List Int)->(i:Int)->0<=i->decide ((qf0 g l i).getD (-1)≥0)=l.any g
 |[],i,_=>rfl
 |x::r,i,h=>by
  unfold qf0;simp only [List.any_cons];split
  ·rename_i hg;rw [hg];simpa using h
  ·rename_i hg;rw [zah g r (i+1) (by omega)];simp only [Bool.not_eq_true] at hg;rw [hg];rfl
def ya8:Ct:=⟨[.d jg,fnB],[.bool],fun x=>(x.1.any fun n=>(x.2.1 (n,())).1,()),fun _=>[]⟩
noncomputable def yqd:Cx:=cx [(225,ybf)] []
theorem yad:CxOK Tryz.prog yqd:=zc qv ⟨yn2,trivial⟩ trivial
theorem ymr:qa Tryz.prog 208 ya8:=
 wa (qg yad (Λ:=qq) (fn:=Tryz.f208) (fr:=fun x=>Fr.val (decide ((ybf.f (x.1,x.2.1,())).1≥0),())) (ps:=[.d jg,fnB]) (rs:=[.bool]) ([],fun _=>(false,()),()) (by kernel_rfl) (fun c E _=>qe c 0) (fun x=>by kernel_rfl)) _ _
  (fun _ _ x _ _ _=>by
   obtain ⟨l,g,_⟩:=x;exact ⟨trivial,ucd (zah (fun n=>(g (n,())).1) l 0 (ua4 0)) rfl⟩)
def qz5 (n:Int):Bool:=bif decide (n<0) then true else decide (n>100000)
def zcn:Ct:=⟨[.d i64],[.bool],fun x=>(qz5 x.1,()),fun _=>[]⟩
theorem zw3:qa Tryz.prog 209 zcn:=
 wa (qg qj4 (Λ:=qq) (fn:=Tryz.f209) (fr:=fun x=>Fr.val (qz5 x.1,())) (ps:=[.d i64]) (rs:=[.bool]) (0,()) (by kernel_rfl) (fun c E _=>qe c 0) (fun x=>by kernel_rfl)) _ _ (fun _ _ _ _ _ _=>⟨trivial,rfl⟩)
theorem yiq (l:List Int):(!l.any qz5)=wy l:=by
 unfold wy;rw [List.not_any_eq_all_not];congr 1;funext n;unfold qz5;rw [Bool.eq_iff_iff];by_cases h:n<0
 ·simp [h]; omega
 ·simp [h]; omega
noncomputable def yqe:Cx:=cx [(208,ya8),(209,zcn)] []
theorem yae:CxOK Tryz.prog yqe:=zc qv ⟨ymr,zw3,trivial⟩ trivial
theorem yir:qa Tryz.prog 191 qia:=
 wa (qg yae (Λ:=qq) (fn:=Tryz.f191) (fr:=fun x=>Fr.need (∀ (y:qi [i64]),WfL [i64] y->True) (Fr.val (!(ya8.f (x.1,fun y=>zcn.f (y.1,()),())).1,()))) (ps:=[.d jg]) (rs:=[.bool]) ([],()) (by kernel_rfl) (fun c E _=>qe c 0) (fun x=>by kernel_rfl)) _ _
  (fun _ _ x _ _ _=>by
   obtain ⟨l,_⟩:=x;exact ⟨⟨fun _ _=>trivial,trivial⟩,ucd (yiq l) rfl⟩)
def qqt (v:qw.den):Bool:=
 decide (1<=v.1/\v.1<=292194/\0<=v.2.2.2.2.2.1/\v.2.2.2.2.2.1<=1000000000000000/\v.2.2.1.length<=100/\1<=v.2.2.2.1.length/\v.2.2.2.1.length<=100/\v.2.2.2.2.1.length=8) &&
  (wy [v.2.1.1,v.2.1.2.1,v.2.1.2.2.1,v.2.1.2.2.2.1]&&(wy v.2.2.2.1&&(wy v.2.2.2.2.1&&qnw v.2.2.1)))
def zrr:Ct:=⟨[.d qw],[.bool],fun x=>(qqt x.1,()),fun _=>[]⟩
noncomputable def yqf:Cx:=cx [(191,qia),(192,qqz),(155,qeh qy),(156,qeh i64)] []
theorem zhx:CxOK Tryz.prog yqf:=zc qv ⟨yir,zib,zwd,zwe,trivial⟩ trivial
def zm5 (a b:Int):Bool:=bif bif bif decide (a<1) then true else decide (a>292194) then true else decide (b<0) then true else decide (b>1000000000000000)
def zm6 (n z p:Nat):Bool:=bif bif bif decide ((n:Int)>100) then true else decide ((z:Int)<1) then true else decide ((z:Int)>100) then true else (p:Int) != 8
def zhe (x:qn [.d qw]):Fr (qi [.bool]):=
 Fr.br (zm5 x.1.1 x.1.2.2.2.2.2.1) (Fr.val (false,()))
  (Fr.br (zm6 x.1.2.2.1.length x.1.2.2.2.1.length x.1.2.2.2.2.1.length) (Fr.val (false,()))
   (Fr.val (bif bif bif (qia.f ([x.1.2.1.1,x.1.2.1.2.1,x.1.2.1.2.2.1,x.1.2.1.2.2.2.1],())).1 then (qia.f (x.1.2.2.2.1,())).1 else false then (qia.f (x.1.2.2.2.2.1,())).1 else false then (qqz.f (x.1.2.2.1,())).1 else false,())))
theorem yli (a b:Int) (n z p:Nat):(!(zm5 a b || zm6 n z p))=decide (1<=a/\a<=292194/\0<=b/\b<=1000000000000000/\n<=100/\1<=z/\z<=100/\p=8):=by
 have e1:zm5 a b=decide (a<1∨a>292194∨b<0∨b>1000000000000000):=by
  unfold zm5;simp only [cond_eq_ite,Bool.decide_or];cases decide (a<1)<;>cases decide (a>292194)<;>cases decide (b<0)<;>simp
 have e2:zm6 n z p=decide ((n:Int)>100∨(z:Int)<1∨(z:Int)>100∨(p:Int)≠8):=by
  unfold zm6;simp only [cond_eq_ite,Bool.decide_or];cases decide ((n:Int)>100)<;>cases decide ((z:Int)<1)<;>cases decide ((z:Int)>100)<;>simp [bne,Bool.beq_eq_decide_eq]
 rw [e1,e2,uau];simp only [uc9,Bool.or_eq_false_iff,ubi,uab];omega
theorem yla:qa Tryz.prog 159 zrr:=
 wa (qg zhx (Λ:=qq) (fn:=Tryz.f159) (fr:=zhe) (ps:=[.d qw]) (rs:=[.bool]) (qw.dflt,()) (by kernel_rfl) (fun c E _=>qe c 0) (fun x=>by kernel_rfl)) _ _
  (fun _ _ x _ _ _=>by
   obtain ⟨v,_⟩:=x;show (zhe (v,())).ok/\(zhe (v,())).get=(qqt v,());unfold qqt;rw [← yli];unfold zhe;cases h1:zm5 v.1 v.2.2.2.2.2.1 with
   |true=>exact Fr.br_t rfl ⟨trivial,rfl⟩
   |false=>
    refine Fr.br_f rfl ?_;cases h2:zm6 v.2.2.1.length v.2.2.2.1.length v.2.2.2.2.1.length with
    |true=>exact Fr.br_t rfl ⟨trivial,rfl⟩
    |false=>
     refine Fr.br_f rfl ⟨trivial,ucd ?_ rfl⟩;show (bif bif bif wy _ then wy _ else false then wy _ else false then qnw _ else false)=_;cases wy [v.2.1.1,v.2.1.2.1,v.2.1.2.2.1,v.2.1.2.2.2.1]<;>cases wy v.2.2.2.1<;>cases wy v.2.2.2.2.1<;>rfl)
def zm8 (v:qw.den):Prop:=v.2.2.1.length<=1000000/\v.2.2.2.1.length<=1000000/\v.2.2.2.2.1.length<=1000000
def ysn:Ct:=⟨[.d qw],[qw],fun x=>(x.1,()),fun x=>[zm8 x.1]⟩
theorem yo9:qa Tryz.prog 113 ysn:=
 wa (qg zhx (Λ:=qq) (fn:=Tryz.f113) (fr:=fun x=>Fr.need (x.1.2.2.1.length<=1000000) (Fr.need (x.1.2.2.2.1.length<=1000000) (Fr.need (x.1.2.2.2.2.1.length<=1000000) (Fr.val (x.1,()))))) (ps:=[.d qw]) (rs:=[qw]) (qw.dflt,()) (by kernel_rfl) (fun c E _=>qe c 0) (fun x=>by kernel_rfl)) _ _
  (fun _ _ x _ _ hok=>⟨⟨hok.1,hok.2.1,hok.2.2,trivial⟩,rfl⟩)
end Go.Proofs.YtgieagiaagoogaaGreat
namespace Go.Proofs.YtgieagiaagoogaaGreat
open Go Go.Ab Go.RowKit Go.Proofs Go.Shelf
attribute [local go_sem] Oper.semAt_some
def qhq (f:Nat->Nat) (k:Nat):List Nat:=(List.range k).map f
theorem qqj (f:Nat->Nat) (k:Nat):qhq f (k+1)=qhq f k++[f k]:=by simp [qhq,ufl]
theorem qty (f:Nat->Nat) (k:Nat):(qhq f k).length=k:=by simp [qhq]
def yp6 (c:Nat->Nat->Value) (k:Nat):Value:=.agg #[c k 0,c k 1,c k 2,c k 3,c k 4,c k 5,c k 6,c k 7,c k 8]
set_option maxRecDepth 100000 in
set_option maxHeartbeats 2000000 in
theorem ya4 (n:Nat) (hn:1<=n) (l Bs n₀ b off len cap:Nat) (c:Nat->Nat->Value) (hreach:len<=1000000) (A:Option Addr) (hA:0<len->A=some ⟨b,off,none⟩/\b<n₀) (J Jx:List (Fin len)->World->Prop)
  (hY:∀ pre (k:Fin len) W,J pre W->pre.length<len->YieldAt Fence.wide (n-1) Tryz.prog l #[.int .i64 ((k.1:Nat):Int),yp6 c k.1] W fun e W'=>
   (e = .returned (.bool true)/\J (pre++[k]) W'/\KpS n₀ Bs Bs W W')∨(e = .returned (.bool false)/\Jx (pre++[k]) W'))
  (W:World) (hBs:W.heap[Bs]? = some (.cells #[.slice A len cap] 22 (0,0))) (hc:∀ k j,k<len->j<9->W.cell? ⟨b,off+(k*9+j),none⟩=some (c k j)) (h0:J [] W) :
  CallsIn Fence.wide n Tryz.prog 154 #[.func (.yield l) #[] #[],.pointer (some ⟨Bs,0,none⟩)] W fun e W'=>(∃ v,e = .returned v) /\
   ((∃ ys:List (Fin len),ys.map Fin.val=qhq (fun j=>len-1-j) len/\J ys W')∨(∃ pre:List (Fin len),(∃ k,k<=len/\pre.map Fin.val=qhq (fun j=>len-1-j) k)/\Jx pre W')):=by
 have hro:Fence.wide.round=none:=rfl;refine udb Tryz.func154 rfl trivial ?_ hro;simp only [Tryz.ntmps154,ub5,uaf,ub9,Nat.reduceAdd,Nat.reduceSub,ubv,ubw,ubx,uby,uav,uaz];have c0:W.cell? ⟨Bs,0,none⟩=some (.slice A len cap):=qh hBs 0
 gi_wp2
 gi_loopw [3] (fun i wr=>∃ (k:Nat) (pre:List (Fin len)),k<=len/\i = .int .i64 ((len:Int)-1-k)/\pre.map Fin.val=qhq (fun j=>len-1-j) k/\J pre wr/\KpS n₀ Bs Bs W wr)
  (fun i _=>(intOf i+1).toNat)
 case atStart=>exact ⟨0,[],ucl _,by simp,rfl,h0,KpS.refl _ _ _ _⟩
 case round=>
  obtain ⟨k,pre,hk,rfl,hpre,hJs,hnx⟩:=hrel;have e0:wr.cell? ⟨Bs,0,none⟩=some (.slice A len cap):=qh (hnx.2.1.trans hBs) 0;by_cases hlt:k<len
  ·obtain ⟨rfl,hb⟩:=hA (by omega);obtain ⟨fn,tmps,assign,body,hy,hR⟩:=hY pre ⟨len-1-k,by omega⟩ wr hJs (by have:=ubb List.length hpre; rw [qty,ude] at this; omega);have hcx:∀ j,j<9->wr.cell? ⟨b,off+(len-1-k)*9+j,none⟩=some (c (len-1-k) j):=fun j hj=>by
    rw [uc4];exact (hnx.1.cell (p:=⟨b,off+((len-1-k)*9+j),none⟩) hb).trans (hc _ j (by omega) hj)
   have x0:=hcx 0 (by omega);have x1:=hcx 1 (by omega);have x2:=hcx 2 (by omega);have x3:=hcx 3 (by omega);have x4:=hcx 4 (by omega);have x5:=hcx 5 (by omega);have x6:=hcx 6 (by omega);have x7:=hcx 7 (by omega);have x8:=hcx 8 (by omega);rw [udl] at x0;have ek:((len-1-k:Nat):Int)=(len:Int)-1-k:=by omega
   dsimp only at hy;rw [ek] at hy;unfold yp6 at hy;clear hcx hc hBs
   gi_wp2
   refine hR.mono ?_;rintro e W3 (⟨rfl,hJ3,hk3⟩|⟨rfl,hJx3⟩)
   ·gi_wp2
    go_roundw
    case rel=>exact ⟨k+1,pre++[⟨len-1-k,by omega⟩],by omega,by simp; omega,by rw [qqj,uda,hpre]; rfl,hJ3,hnx.trans hk3⟩
    case measure=>simp [intOf]; omega
   ·gi_wp2
    refine uf7 (udq rfl _ _ _) rfl ?_;exact ⟨⟨_,rfl⟩,.inr ⟨_,⟨k+1,by omega,by rw [qqj,uda,hpre]; rfl⟩,hJx3⟩⟩
  ·obtain rfl:k=len:=by omega
   gi_wp2
   go_end0
   exact ⟨⟨_,rfl⟩,.inl ⟨_,hpre,hJs⟩⟩
end Go.Proofs.YtgieagiaagoogaaGreat
namespace Go.Ab
open Go Go.RowKit
def Ty.plain:Ty->Bool
 |.fm _=>false
 |.ic _ _=>false
 |.sl e=>e.plain&&decide (0<e.size)
 |.pair a b=>a.plain&&b.plain
 |_=>true
theorem qs.some_cell {w:World} {F:Nat->Prop}:{t:Ty} -> {x:t.den} -> {g:Nat->Value->Prop}->0<t.size->qs w F t x g->∃ j u,g j u
 |.int _,_,_,_,h=>⟨0,_,h.1⟩
 |.bool,_,_,_,h=>⟨0,_,h⟩
 |.str,_,_,_,h=>⟨0,_,h.1⟩
 |.sl _,_,_,_,h=>by
  obtain ⟨A,c,h1,_⟩:=h;exact ⟨0,_,h1⟩
 |.unit,_,_,h,_=>absurd h (by decide)
 |.pair a b,_,_,h,hr=>by
  by_cases ha:0<a.size
  ·exact qs.some_cell ha hr.1
  ·have hb:0<b.size:=by simp only [Ty.size] at h; omega
   obtain ⟨j,u,hu⟩:=qs.some_cell hb hr.2;exact ⟨_,u,hu⟩
 |.fm _,_,_,_,h=>by
  obtain ⟨r,arr,ck,h1,_⟩:=h;exact ⟨0,_,h1⟩
 |.ic _ _,_,_,_,h=>by
  rcases h with ⟨ty,u,_,h2,_⟩|⟨_,h2⟩
  ·exact ⟨0,_,h2⟩
  ·exact ⟨0,_,h2⟩
 |.fc _,_,_,_,h=>by
  obtain ⟨u,h1,_⟩:=h;exact ⟨0,_,h1⟩
theorem qr8 {w:World} {a:Addr} {u:Value} (h:w.cell? a=some u):∃ arr ty p,w.heap[a.block]? = some (.cells arr ty p):=by
 unfold World.cell? at h;split at h
 ·rename_i arr ty p he;exact ⟨arr,ty,p,he⟩
 ·cases h
theorem qs.only {w:World} {F G:Nat->Prop} (hG:∀ b,F b->(∃ arr ty p,w.heap[b]? = some (.cells arr ty p))->G b):{t:Ty} -> {x:t.den} -> {g:Nat->Value->Prop}->t.plain=true->qs w F t x g->qs w G t x g
 |.int _,_,_,_,h=>h
 |.bool,_,_,_,h=>h
 |.str,_,_,_,h=>h
 |.sl e,_,_,hp,h=>by
  obtain ⟨A,c,h1,h2,h3,h4⟩:=h;simp only [Ty.plain,Bool.and_eq_true,decide_eq_true_eq] at hp;refine ⟨A,c,h1,h2,h3,fun i x hx=>?_⟩;obtain ⟨ad,ha,hf,hr⟩:=h4 i x hx;obtain ⟨j,u,hu⟩:=qs.some_cell hp.2 hr;have hc:=qr8 hu;have hb:(ad.add (i*e.size+j)).block=ad.block:=by unfold Addr.add; split<;>rfl
  rw [hb] at hc;exact ⟨ad,ha,hG _ hf hc,qs.only hG hp.1 hr⟩
 |.unit,_,_,_,_=>trivial
 |.pair a b,_,_,hp,h=>by
  simp only [Ty.plain,ua1] at hp;exact ⟨qs.only hG hp.1 h.1,qs.only hG hp.2 h.2⟩
 |.fm _,_,_,hp,_=>by cases hp
 |.ic _ _,_,_,hp,_=>by cases hp
 |.fc _,_,_,_,h=>h
theorem zv.only {w:World} {F G:Nat->Prop} (hG:∀ b,F b->(∃ arr ty p,w.heap[b]? = some (.cells arr ty p))->G b) {t:Ty} {x:t.den} {v:Value} (hp:t.plain=true) (h:zv w F t x v):zv w G t x v:=
 ⟨h.1,h.2.1,h.2.2.only hG hp⟩
end Go.Ab
namespace Go.Proofs.YtgieagiaagoogaaGreat
open Go Go.Ab Go.RowKit Go.Proofs Go.Shelf
attribute [local go_sem] Oper.semAt_some
structure VC where
 p:Nat->Int
 A:Nat->Option Addr
 l:Nat->Nat
 c:Nat->Nat
def qed (d:VC):Array Value:=#[.int .i64 (d.p 0),.int .i64 (d.p 1),.int .i64 (d.p 2),.int .i64 (d.p 3),.int .i64 (d.p 4),.slice (d.A 0) (d.l 0) (d.c 0),.slice (d.A 1) (d.l 1) (d.c 1),.slice (d.A 2) (d.l 2) (d.c 2),.int .i64 (d.p 5)]
def qh9 (d:VC):Value:=.agg (qed d)
theorem zf3 {w:World} {F:Nat->Prop} {x:qw.den} {g:Nat->Value->Prop} (h:qs w F qw x g):∃ d:VC,(∀ j u,(qed d)[j]? = some u->g j u)/\d.p 0=x.1:=by
 obtain ⟨h0,⟨b0,b1,b2,b3,_⟩,⟨A1,c1,h1,_⟩,⟨A2,c2,h2,_⟩,⟨A3,c3,h3,_⟩,h4,_⟩:=h;refine ⟨⟨fun j=>match j with|0=>x.1|1=>x.2.1.1|2=>x.2.1.2.1|3=>x.2.1.2.2.1|4=>x.2.1.2.2.2.1|_=>x.2.2.2.2.2.1,fun j=>match j with|0=>A1|1=>A2|_=>A3,fun j=>match j with|0=>x.2.2.1.length|1=>x.2.2.2.1.length|_=>x.2.2.2.2.1.length,fun j=>match j with|0=>c1|1=>c2|_=>c3⟩,fun j u hj=>?_,rfl⟩
 match j,hj with
 |0,hj=>cases hj; exact h0.1
 |1,hj=>cases hj; exact b0.1
 |2,hj=>cases hj; exact b1.1
 |3,hj=>cases hj; exact b2.1
 |4,hj=>cases hj; exact b3.1
 |5,hj=>cases hj; exact h1
 |6,hj=>cases hj; exact h2
 |7,hj=>cases hj; exact h3
 |8,hj=>cases hj; exact h4.1
 |j+9,hj=>simp [qed] at hj
theorem ylh {w:World} {F:Nat->Prop} {x:qw.den} {v:Value} (h:zv w F qw x v):∃ d:VC,v=qh9 d/\d.p 0=x.1:=by
 obtain ⟨cs,rfl⟩:=h.2.1.1 rfl;have hs:cs.size=9:=h.1;obtain ⟨d,hd,h0⟩:=zf3 h.2.2;refine ⟨d,?_,h0⟩;unfold qh9;congr 1;apply Array.ext
 ·exact hs
 ·intro i hi1 hi2;have:=hd i (qed d)[i] (ubg hi2);have h2:cs[i]? = some (qed d)[i]:=this;rw [ubg hi1] at h2;exact udw h2
def qf5:Array Value:=#[.int .i64 0,.int .i64 0,.int .i64 0,.int .i64 0,.int .i64 0,.slice none 0 0,.slice none 0 0,.slice none 0 0,.int .i64 0]
def zvq (F:Nat->Prop) (x:qw.den) (d:VC) (W w':World):Prop:=
 ∃ F',zv w' F' qw x (qh9 d)/\∀ b,F' b->(F b∨W.heap.size<=b)/\∃ arr ty p,w'.heap[b]? = some (.cells arr ty p)
theorem zym {w W:World} {F:Nat->Prop} {x:qw.den} {v:Value} (hb:∀ b,F b->b<w.heap.size) (hW:Below w.heap.size w W) (hx:zv w F qw x v) (hf:zm8 x) :
  Calls Tryz.prog 113 #[v] W fun e w'=>∃ d,e = .returned (qh9 d)/\Below W.heap.size W w'/\zvq F x d W w':=by
 have hx':zv W F qw x v:=hx.mono (fun _ h=>h) (fun b h=>hW.block b (hb b h));refine (yo9.2 W F (x,()) [v] (fun b h=>ubj (hb b h) hW.size) ⟨v,[],rfl,hx',rfl⟩ hf).mono ?_;rintro e w' ⟨u,F',rfl,hbel,h1,h2,h3⟩;have h3':zv w' F' qw x u:=h3;obtain ⟨d,rfl,_⟩:=ylh h3';exact ⟨d,rfl,hbel,fun b=>F' b/\∃ arr ty p,w'.heap[b]? = some (.cells arr ty p),h3'.only (fun b h hc=>⟨h,hc⟩) rfl,fun b h=>⟨(h2 b h.1).1,h.2⟩⟩
structure AtI (w:World) {len:Nat} (day:Int) (sv:Value) (fr:Nat->Int) (pre:List (Fin len)) (W:World):Prop where
 x3:Boxed W (w.heap.size+1) 3 (.int .i64 day)
 x4:W.heap[w.heap.size+2]? = some (.cells qf5 132 (0,0))
 x5:Boxed W (w.heap.size+3) 57 (.int .i64 0)
 xs:Boxed W (w.heap.size+4) 22 sv
 bel:Below w.heap.size w W
 sz:w.heap.size+5<=W.heap.size
 no:∀ k∈pre,¬ fr k.1<=day
structure AtX (w:World) {len:Nat} (F:Nat->Prop) (day:Int) (x:Nat->qw.den) (fr:Nat->Int) (c:Code) (pre:List (Fin len)) (W:World):Prop where
 ret:c = .ret
 res:∃ ini k d F',pre=ini++[k]/\(∀ k∈ini,¬ fr k.1<=day)/\fr k.1<=day/\W.heap[w.heap.size+2]? = some (.cells (qed d) 132 (0,0))/\zv W F' qw (x k.1) (qh9 d)/\(∀ b,F' b->(F b∨w.heap.size<=b)/\∃ arr ty p,W.heap[b]? = some (.cells arr ty p))
 x5:Boxed W (w.heap.size+3) 57 (.int .i64 0)
 bel:Below w.heap.size w W
theorem qef {X Y:World} {row:Option Nat} {B b:Nat} {cs:Array Value} {t:TypeId} {p:Nat×Nat} (h:X.heap[b]? = some (.cells cs t p)) (hg:X.grownBy Y row) (hr:∀ r,row=some r->B<=r/\∃ o:Obj,X.heap[r]? = some o/\o.isCells=false):Y.heap[b]? = some (.cells cs t p):=
 (hg.block b (uaa.1 h).1 (fun e=>by
  obtain ⟨_,o,ho,hc⟩:=hr b e.symm;rw [h] at ho;cases ho;cases hc)).trans h
theorem yh0 {w:World} {len:Nat} {day:Int} {sv:Value} {fr:Nat->Int} {B:Nat} (hB:w.heap.size<=B):OwnFrom B (fun (pre:List (Fin len)) W=>AtI w day sv fr pre W):=fun pre X Y row h hg hr=>
 ⟨qbr h.x3 hg hr,qef h.x4 hg hr,qbr h.x5 hg hr,qbr h.xs hg hr,h.bel.grown hg h.bel.size (fun k e=>ual hB (hr k e).1),ual h.sz hg.size,h.no⟩
theorem yh1 {w:World} {len:Nat} {F:Nat->Prop} {day:Int} {x:Nat->qw.den} {fr:Nat->Int} {B:Nat} (hB:w.heap.size<=B) (c:Code):OwnFrom B (fun (pre:List (Fin len)) W=>AtX w F day x fr c pre W):=fun pre X Y row h hg hr=>by
 refine ⟨h.ret,?_,qbr h.x5 hg hr,h.bel.grown hg h.bel.size (fun k e=>ual hB (hr k e).1)⟩;obtain ⟨ini,k,d,F',e1,e2,e3,e4,e5,e6⟩:=h.res;refine ⟨ini,k,d,F',e1,e2,e3,qef e4 hg hr,e5.mono (fun _ h=>h) (fun b hb=>?_),fun b hb=>?_⟩
 ·obtain ⟨_,arr,ty,p,hc⟩:=e6 b hb;rw [hc];exact qef hc hg hr
 ·obtain ⟨hh,arr,ty,p,hc⟩:=e6 b hb;exact ⟨hh,arr,ty,p,qef hc hg hr⟩
def AtA (w0:Nat) (c:Nat->VC) (a:Nat->Nat->Act) (k:Nat) (a':Act) (W:World):Prop:=∃ Bx,w0<=Bx/\W.heap[Bx]? = some (.cells (qed (c k)) 132 (0,0))/\a'=a k Bx
theorem yhy {w0 B:Nat} {c:Nat->VC} {a:Nat->Nat->Act} (k:Nat) (a':Act):OwnFrom B (fun (_:Unit) W=>AtA w0 c a k a' W):=fun _ X Y row hs hg hr=>by
 obtain ⟨Bx,h1,h2,h3⟩:=hs;exact ⟨Bx,h1,qef h2 hg hr,h3⟩
set_option maxRecDepth 100000 in
set_option maxHeartbeats 1000000 in
theorem yh2 (n:Nat) (A:Option Addr) (len cap:Nat) (w:World) :
  CallsIn Fence.wide n Tryz.prog 112 #[.slice A len cap] w fun e w'=>e = .returned (.func (.func 154) #[] #[.pointer (some ⟨w.heap.size,0,none⟩)])/\w'=w.alloc (.cells #[.slice A len cap] 22):=by
 refine udb Tryz.func112 rfl trivial ?_ rfl;simp only [Tryz.ntmps112,ub5,uaf,ub9,Nat.reduceAdd,Nat.reduceSub,ubv,ubw,ubx,uby,uav,uaz]
 gi_wp2
 go_ret
 exact ⟨rfl,rfl⟩
end Go.Proofs.YtgieagiaagoogaaGreat
