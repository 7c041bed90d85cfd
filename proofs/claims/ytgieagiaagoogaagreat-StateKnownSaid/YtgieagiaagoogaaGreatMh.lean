/-
  Parts of the proof, one behind the other: S12, S13, S20, S23, S24, S22, S25, S26, S27, S28, S29, S30, S31, S32, S33, S34, S35, S36, S37, S38, S39, S40, S41.
-/
import Derived.Test.YtgieagiaagoogaaGreatMg
import Derived.Deep.MidRow
namespace Go.Proofs.YtgieagiaagoogaaGreat
open Go Go.Ab Go.RowKit Go.Proofs
abbrev qfb:Pt:=⟨28,0,⟨[(9,.d i64),(0,.d (.sl qf)),(1,.d i64)],[]⟩,⟨[],[]⟩,⟨[(4,.d .bool)],[]⟩⟩
def zup (day peril:Int) (l:List qf.den) (s:Int):Int:=l.foldl (fun s t=>IntKind.i64.wrap (s+zg2 t day peril)) s
theorem zo1 (day p i:Int) (l0:List qf.den):(l:List qf.den)->(s:Int)->goF qbw l ((s,day,p,i,l0,()),())=((zup day p l s,day,p,i,l0,()),())
 |[],_=>rfl
 |t :: l,s=>zo1 day p i l0 l (IntKind.i64.wrap (s+zg2 t day p))
theorem zir (day p i:Int) (hp:¬ p < 0) (l0:List qf.den):(l:List qf.den)->(s:Int)->okF qbw l ((s,day,p,i,l0,()),())
 |[],_=>trivial
 |t :: l,s=>⟨⟨hp,trivial⟩,zir day p i hp l0 l (IntKind.i64.wrap (s+zg2 t day p))⟩
abbrev zo2 (i:Int) (l:List qf.den) (day:Int):qdk.M.X:=((0,((List.length l:Nat):Int),l,0,day,i,i,l,()),())
def zwx (x:qfb.M.X):Fr qfb.Out:=
 Fr.br (decide (x.1.1 < 8)) (Fr.need (InL (qo4 (zo2 x.1.1 x.1.2.1 x.1.2.2.1)) (qri (zo2 x.1.1 x.1.2.1 x.1.2.2.1)))
  (Fr.need (okF qbw (List.drop 0 x.1.2.1) ((0,x.1.2.2.1,x.1.1,x.1.1,x.1.2.1,()),()))
   (Fr.br (decide ((goF qbw (List.drop 0 x.1.2.1) ((0,x.1.2.2.1,x.1.1,x.1.1,x.1.2.1,()),())).1.1 > 10000)) (Fr.val (Rd.back ((true,()),())))
    (Fr.val (Rd.next ((IntKind.i64.wrap ((goF qbw (List.drop 0 x.1.2.1) ((0,x.1.2.2.1,x.1.1,x.1.1,x.1.2.1,()),())).1.2.2.2.1+1),(goF qbw (List.drop 0 x.1.2.1) ((0,x.1.2.2.1,x.1.1,x.1.1,x.1.2.1,()),())).1.2.2.2.2.1,(goF qbw (List.drop 0 x.1.2.1) ((0,x.1.2.2.1,x.1.1,x.1.1,x.1.2.1,()),())).1.2.1,()),()))))))
  (Fr.val (Rd.out ((),())))
theorem yjq:qe Tryz.prog (qo Tryz.f303 0) qfb.M qfb zwx:=
 qe.of_run qj1 (bs:=0) (Λ:=fun _=>yoy zqg.Γ) rfl rfl rfl (fun E=>qlm _ 0 fun i b hb=>by
  match i,hb with
  |0,hb=>
   have e:some qsh=some b:=by rw [← hb]; kernel_rfl
   cases e
   exact qe.han qj1 rfl zxk
  |i+1,hb=>exact absurd (qeq hb) (by
   have:zp (qo Tryz.f303 0)=1:=by kernel_rfl
   omega)) (fun x=>by kernel_rfl)
def qqy (l:List qf.den) (day:Int):Nat->Int->Bool
 |0,_=>false
 |n+1,p=>decide (zup day p l 0 > 10000) || qqy l day n (p+1)
def qze (l:List qf.den) (day:Int):Bool:=qqy l day 8 0
def zbu (i:Int) (l:List qf.den):Prop:=0<=i/\i<=8/\((List.length l:Nat):Int)<=9223372036854775807
def zqn (x:qfb.M.X):Fr qfb.Out:=
 Fr.need (zbu x.1.1 x.1.2.1) (Fr.br (qqy x.1.2.1 x.1.2.2.1 (8 - x.1.1).toNat x.1.1) (Fr.val (Rd.back ((true,()),()))) (Fr.val (Rd.out ((),()))))
theorem yir (i:Int) (l:List qf.den) (day:Int) (hinv:zbu i l) (Q:qfb.Out->Prop) (hq:(Fr.br (qqy l day (8 - i).toNat i) (Fr.val (Rd.back ((true,()),()))) (Fr.val (Rd.out ((),()))):Fr qfb.Out).satP Q) :
  (zwx ((i,l,day,()),())).satP fun
   |.next x'=>zbu x'.1.1 x'.1.2.1/\(8 - x'.1.1).toNat < (8 - i).toNat/\(zqn x').satP Q
   |.out y=>Q (.out y)
   |.back z=>Q (.back z)
   |.pan p=>Q (.pan p):=by
 obtain ⟨h1,h2,h3⟩:=hinv
 by_cases hi:i < 8
 ·refine ⟨fun _=>⟨⟨rfl,Int.le_refl _,Int.natCast_nonneg _,h3⟩,zir day i i (by omega) l (List.drop 0 l) 0,?_⟩,fun h=>absurd hi (of_decide_eq_false h)⟩
  have hw:IntKind.i64.wrap (i+1)=i+1:=IntWalk.i64_in _ (by omega)
  dsimp only
  rw [zo1,List.drop_zero]
  have hn:(8 - i).toNat=(8 - (i+1)).toNat+1:=by omega
  rw [hn] at hq
  dsimp only [qqy] at hq
  refine ⟨fun hb=>?_,fun hb=>?_⟩
  ·have hb':decide (zup day i l 0 > 10000)=true:=hb
   rw [hb'] at hq
   exact hq.1 rfl
  ·have hb':decide (zup day i l 0 > 10000)=false:=hb
   rw [hb',Bool.false_or] at hq
   dsimp only
   rw [hw]
   have hI:zbu (i+1) l:=⟨by omega,by omega,h3⟩
   have hm:(8 - (i+1)).toNat < (8 - i).toNat:=by omega
   exact ⟨hI,hm,hI,hq⟩
 ·refine ⟨fun h=>absurd (of_decide_eq_true h) hi,fun _=>?_⟩
  have hn:(8 - i).toNat=0:=by omega
  rw [hn] at hq
  exact hq.2 rfl
theorem ycu:qe Tryz.prog (.loop (qo Tryz.f303 0)) qfb.M qfb zqn:=by
 refine qe.loop (n:=28) (id:=0) yjq (inv:=fun x=>zbu x.1.1 x.1.2.1) (μ:=fun x=>(8 - x.1.1).toNat) ?_ (fun x Q h=>h.1)
 rintro ⟨⟨i,l,day,_⟩,_⟩ hinv Q hq
 exact yir i l day hinv Q hq.2
def zh3:Ct:=⟨[.d (.sl qf),.d i64],[.bool],fun x=>(qze x.1 x.2.1,()),fun _=>[]⟩
theorem ya3:qa Tryz.prog 303 zh3:=
 conv (qg qj1 (Λ:=fun _=>qfb.han zqg.Γ qfb.M zqn) (fn:=Tryz.f303) (ps:=[.d (.sl qf),.d i64]) (rs:=[.bool])
  (fr:=fun x=>Fr.need (zbu 0 x.1) (Fr.br (qqy x.1 x.2.1 (8 - (0:Int)).toNat 0) (Fr.val (true,())) (Fr.val (false,())))) (dfP [.d (.sl qf),.d i64]) (by kernel_rfl)
  (fun c E hc=>yz hc (by kernel_rfl) (b:=qo Tryz.f303 0) (by kernel_rfl) (qe.han qj1 rfl ycu)) (fun x=>by kernel_rfl)) _ _ (fun w F x vs hr _=>by
  obtain ⟨l,day,_⟩:=x
  obtain ⟨v,vs',rfl,hv,_⟩:=hr
  have hlen:((List.length (α:=qf.den) l:Nat):Int)<=9223372036854775807:=qcg hv
  refine Fr.need_ ⟨by omega,by omega,hlen⟩ ?_
  show _/\_=(qze l day,())
  cases hc:qze l day
  ·exact Fr.br_f hc ⟨trivial,rfl⟩
  ·exact Fr.br_t hc ⟨trivial,rfl⟩)
def zld (x t:qf.den) (all:List qf.den):Bool:=bif (cIn.f (t.2.2.1,x.2.2.1.1,())).1 then qze all x.2.2.1.1 else false
def zic:Ct:=⟨[.d qf,.ptr qf,.ptr (.sl qf)],[.bool],fun x=>(zld x.1 x.2.1 x.2.2.1,()),fun _=>[]⟩
noncomputable def yqr:Cx:=cx [(303,zh3),(43,cIn)] []
theorem ygh:CxOK Tryz.prog yqr:=zb (cs:=[(303,zh3),(43,cIn)]) (ps:=[]) qv ⟨ya3,qnu,trivial⟩ trivial
theorem yn0:qa Tryz.prog 302 zic:=
 conv (qg ygh (Λ:=qp) (fn:=Tryz.f302) (fr:=fun x=>Fr.val (zld x.1 x.2.1 x.2.2.1,())) (ps:=zic.ps) (rs:=[.bool]) (dfP zic.ps) (by kernel_rfl) (fun c E _=>qd c 0) (fun x=>by kernel_rfl)) _ _ (fun _ _ _ _ _ _=>⟨trivial,rfl⟩)
def ztv (t x:qf.den):qf.den:=(x.1,x.2.1,x.2.2.1,x.2.2.2.1,x.2.2.2.2.1,x.2.2.2.2.2.1,x.2.2.2.2.2.2.1,IntKind.i64.wrap ((BitVec.ofInt IntKind.i64.bits x.2.2.2.2.2.2.2.1 &&& BitVec.ofInt IntKind.i64.bits t.2.2.2.2.2.2.2.1).toNat:Int),())
def yaf (l:List qf.den) (t:qf.den):List qf.den:=[t]++l.map (ztv t)
def qsy (l:List qf.den) (t:qf.den):Bool:=bif t.2.1 != 1 then false else (yaf l t).any fun x=>zld x t (yaf l t)
theorem zle (t:qf.den):(l a:List qf.den)->goF qcn l ((),t,(a,()),())=((),t,(a++l.map (ztv t),()),())
 |[],a=>by rw [List.map_nil,List.append_nil]; rfl
 |x :: l,a=>by
  have h:=zle t l (a++[ztv t x])
  rw [List.append_assoc] at h
  exact h
theorem zeu (t:qf.den):(l a:List qf.den)->a.length+l.length<=1000000->okF qcn l ((),t,(a,()),())
 |[],_,_=>trivial
 |x :: l,a,h=>by
  rw [List.length_cons] at h
  refine ⟨⟨⟨?_,?_⟩,trivial⟩,zeu t l (a++[ztv t x]) (by rw [List.length_append,List.length_singleton]; omega)⟩
  ·show a.length+1<=maxLen
   unfold maxLen; omega
  ·show (a.length+1) * 72<=140737488355328
   omega
abbrev zi2 (l:List qf.den) (t:qf.den):qb9.M.X:=((0,((List.length l:Nat):Int),l,()),t,([t],()),())
abbrev qj9 (l:List qf.den) (t:qf.den):qob:=goF qcn (List.drop 0 l) ((),t,([t],()),())
noncomputable def yk1:Cx:=cx [(297,qrp qf),(302,zic)] []
theorem zol:CxOK Tryz.prog yk1:=zb (cs:=[(297,qrp qf),(302,zic)]) (ps:=[]) qv ⟨zot,yn0,trivial⟩ trivial
abbrev POv:List PT:=[.d (.sl qf),.d qf]
def zq4:Ct:=⟨POv,[.bool],fun x=>(qsy x.1 x.2.1,()),fun x=>[x.1.length<=100000]⟩
theorem yi9:qa Tryz.prog 299 zq4:=
 conv (qg zol (Λ:=fun _=>yki yk1.Γ) (fn:=Tryz.f299) (ps:=POv) (rs:=[.bool])
  (fr:=fun x=>Fr.br (x.2.1.2.1 != 1) (Fr.val (false,())) (Fr.need (InL (qmo (zi2 x.1 x.2.1)) (qof (zi2 x.1 x.2.1))) (Fr.need (okF qcn (List.drop 0 x.1) ((),x.2.1,([x.2.1],()),()))
   (Fr.need (∀ y:qi [qf],WfL [qf] y->qq ([]:List Prop)) (Fr.val ((qj9 x.1 x.2.1).2.2.1.1.any (fun n=>zld n (qj9 x.1 x.2.1).2.1 (qj9 x.1 x.2.1).2.2.1.1),())))))) (dfP POv) (by kernel_rfl)
  (fun c E hc=>yz hc (by kernel_rfl) (b:=qo Tryz.f299 0) (by kernel_rfl) (qe.han zol rfl zs7)) (fun x=>by kernel_rfl)) _ _ (fun w F x vs hr h=>by
  obtain ⟨l,t,_⟩:=x
  have hl:List.length (α:=qf.den) l<=100000:=h
  show _/\_=(qsy l t,())
  unfold qsy
  cases hc:t.2.1 != 1
  ·refine Fr.br_f hc (Fr.need_ ⟨rfl,Int.le_refl _,Int.natCast_nonneg _,?_⟩ (Fr.need_ (zeu t (List.drop 0 l) [t] (by rw [List.drop_zero,List.length_singleton]; omega)) (Fr.need_ (fun _ _=>trivial) ⟨trivial,?_⟩)))
   ·show ((List.length (α:=qf.den) l:Nat):Int)<=_
    omega
   ·show ((qj9 l t).2.2.1.1.any (fun n=>zld n (qj9 l t).2.1 (qj9 l t).2.2.1.1),())=_
    have e:qj9 l t=((),t,(yaf l t,()),()):=by
     show goF qcn (List.drop 0 l) _=_
     rw [List.drop_zero,zle]; rfl
    rw [e]
    rfl
  ·exact Fr.br_t hc ⟨trivial,rfl⟩)
def zg9 (s:qj.den) (t:qf.den):Bool:=(qel s).any fun x=>x.1==t.1
def zqb (s:qj.den) (l:List qf.den):qj.den:=(s.1,s.2.1,s.2.2.1,l,s.2.2.2.2.1,())
def qex (s:qj.den) (f:factT.den):qj.den × Int:=
 bif zg9 s (wo f) then (s,8) else bif decide (((List.length (qel s):Nat):Int) ≥ 100) then (s,2) else bif qsy (qel s) (wo f) then (s,13)
  else (zqb s (qc5 (fun t=>t.1) (qel s) (wo f)),0)
abbrev PDo:List PT:=[.d factT,.d qj]
def qxx:Ct:=⟨[.d qf],[i64],fun x=>(x.1.1,()),fun _=>[]⟩
def zih:Ct:=⟨[.d qf,.pk 296,.ptr factT],[.bool],fun x=>(x.1.1==(wo x.2.2.1).1,()),fun _=>[]⟩
theorem zzc:qa Tryz.prog 296 qxx:=
 conv (qg xf (Λ:=qp) (fn:=Tryz.f296) (fr:=fun x=>Fr.val (x.1.1,())) (ps:=qxx.ps) (rs:=[i64]) (dfP qxx.ps) (by kernel_rfl) (fun c E _=>qd c 0) (fun x=>by kernel_rfl)) _ _ (fun _ _ _ _ _ _=>⟨trivial,rfl⟩)
noncomputable def yo6:Cx:=cx [(296,qxx)] []
theorem zzs:CxOK Tryz.prog yo6:=zb (cs:=[(296,qxx)]) (ps:=[]) qv ⟨zzc,trivial⟩ trivial
theorem yot:qa Tryz.prog 298 zih:=
 conv (qg zzs (Λ:=qp) (fn:=Tryz.f298) (fr:=fun x=>Fr.val (x.1.1==(wo x.2.2.1).1,())) (ps:=zih.ps) (rs:=[.bool]) (dfP zih.ps) (by kernel_rfl) (fun c E _=>qd c 0) (fun x=>by kernel_rfl)) _ _ (fun _ _ _ _ _ _=>⟨trivial,rfl⟩)
noncomputable def yo7:Cx:=cx [(297,qrp qf),(296,qxx),(298,zih),(299,zq4),(300,qxw qf)] []
theorem zzt:CxOK Tryz.prog yo7:=zb (cs:=[(297,qrp qf),(296,qxx),(298,zih),(299,zq4),(300,qxw qf)]) (ps:=[]) qv ⟨zot,zzc,yot,yi9,zyb,trivial⟩ trivial
def zdo:Ct:=⟨PDo,[qj,i64],fun x=>((qex x.2.1 x.1).1,(qex x.2.1 x.1).2,()),fun _=>[]⟩
def ymo (x:qm PDo):Fr (qi [qj,i64]):=
 Fr.need (∀ y:qi [qf],WfL [qf] y->qq ([]:List Prop)) (Fr.br (zg9 x.2.1 (wo x.1)) (Fr.val (x.2.1,8,())) (Fr.br (decide (((List.length (qel x.2.1):Nat):Int) ≥ 100)) (Fr.val (x.2.1,2,()))
  (Fr.need ((qel x.2.1).length<=100000) (Fr.br (qsy (qel x.2.1) (wo x.1)) (Fr.val (x.2.1,13,()))
   (Fr.need (∀ y:qi [qf],WfL [qf] y->qq ([]:List Prop)) (Fr.need ((qel x.2.1).length<=100000) (Fr.val (zqb x.2.1 (qc5 (fun t=>t.1) (qel x.2.1) (wo x.1)),0,()))))))))
theorem zm6:qa Tryz.prog 295 zdo:=
 conv (qg zzt (Λ:=qp) (fn:=Tryz.f295) (fr:=ymo) (ps:=PDo) (rs:=[qj,i64]) (dfP PDo) (by kernel_rfl) (fun c E _=>qd c 0) (fun x=>by kernel_rfl)) _ _ (fun _ _ x _ _ _=>by
  obtain ⟨f,s,_⟩:=x
  show _/\_=((qex s f).1,(qex s f).2,())
  unfold qex
  refine Fr.need_ (fun _ _=>trivial) ?_
  cases h1:zg9 s (wo f)
  ·refine Fr.br_f rfl ?_
   cases h2:decide (((List.length (qel s):Nat):Int) ≥ 100)
   ·have hl:(qel s).length<=100000:=by have:=of_decide_eq_false h2; omega
    refine Fr.br_f rfl (Fr.need_ hl ?_)
    cases h3:qsy (qel s) (wo f)
    ·exact Fr.br_f rfl (Fr.need_ (fun _ _=>trivial) (Fr.need_ hl ⟨trivial,rfl⟩))
    ·exact Fr.br_t rfl ⟨trivial,rfl⟩
   ·exact Fr.br_t rfl ⟨trivial,rfl⟩
  ·exact Fr.br_t rfl ⟨trivial,rfl⟩)
def qgu (s:qj.den) (f:factT.den):qj.den × Int:=bif decide (qf5 f<=qn5 s) then (s,12) else ((s.1,s.2.1,s.2.2.1,s.2.2.2.1,qf5 f,()),0)
def zh5:Ct:=⟨PDo,[qj,i64],fun x=>((qgu x.2.1 x.1).1,(qgu x.2.1 x.1).2,()),fun _=>[]⟩
theorem zrv:qa Tryz.prog 312 zh5:=
 conv (qg xf (Λ:=qp) (fn:=Tryz.f312) (fr:=fun x=>Fr.br (decide (qf5 x.1<=qn5 x.2.1)) (Fr.val (x.2.1,12,())) (Fr.val ((x.2.1.1,x.2.1.2.1,x.2.1.2.2.1,x.2.1.2.2.2.1,qf5 x.1,()),0,()))) (ps:=PDo) (rs:=[qj,i64]) (dfP PDo) (by kernel_rfl) (fun c E _=>qd c 0) (fun x=>by kernel_rfl)) _ _ (fun _ _ x _ _ _=>by
  obtain ⟨f,s,_⟩:=x
  show _/\_=((qgu s f).1,(qgu s f).2,())
  unfold qgu
  cases h1:decide (qf5 f<=qn5 s)
  ·exact Fr.br_f h1 ⟨trivial,rfl⟩
  ·exact Fr.br_t h1 ⟨trivial,rfl⟩)
noncomputable def yfq:List (FuncId × Ct):=[(48,zgf),(60,zgk),(21,qy4),(256,zvi),(20,ylu),(270,ylw),(26,ylt),(275,yfk),(285,yfj),(257,(qxw ze)),(274,(qxw qr)),(271,(zq8 ze)),(286,(zq8 qr)),(268,(qrp qr)),(258,zqy),(276,zq2),(269,zqx)]
noncomputable def yqu:Cx:=cx yfq []
theorem qqj:CxOK Tryz.prog yqu:=zb (cs:=yfq) (ps:=[]) qv ⟨zor,zo9,zhp,yal,ymi,yn3,yl9,yi8,yhe,zx9,zya,yey,yez,ygw,ylo,ynp,ylk,trivial⟩ trivial
abbrev qg5 (s:qj.den) (l:List ze.den):qj.den:=(s.1,l,s.2.2.1,s.2.2.2.1,s.2.2.2.2.1,())
abbrev qwy (s:qj.den) (l:List qr.den):qj.den:=(s.1,s.2.1,l,s.2.2.2.1,s.2.2.2.2.1,())
def yd (s:qj.den):Prop:=jq s.1/\(kw s).length<=100000/\(xq s).length<=100000/\∀ a ∈ kw s,jf a.1
abbrev qfn (s:qj.den) (i:Int):ze.den:=(kw s).getD i.toNat ze.dflt
abbrev ypi (s:qj.den) (i:Int):qr.den:=(xq s).getD i.toNat qr.dflt
abbrev bH (f:factT.den):ql.den × Int:=qol (fId f) (zj f) (qhj f)
abbrev aI (s:qj.den) (f:factT.den):Int:=qg8 s (fId f)
abbrev gI (s:qj.den) (f:factT.den):Int:=qfl s (fId f)
abbrev pH (s:qj.den) (f:factT.den):ql.den × Int:=qu6 (qfn s (aI s f)).1 (qec f)
def qi7 (s:qj.den) (f:factT.den):qj.den × Int:=
 bif decide (aI s f ≥ 0) then (s,8) else bif decide (((List.length (kw s):Nat):Int) ≥ 2000) then (s,2)
  else (qg5 s (qc5 aId (kw s) ((bH f).1,0,())),bif (bH f).2==0 then (qr1 (bH f).1 s.1).2 else (bH f).2)
def qgt (s:qj.den) (f:factT.den):qj.den × Int:=
 bif decide (aI s f < 0) then (s,7) else bif (xq s).any (zbx f) then (s,10)
  else (qg5 s ((kw s).set (aI s f).toNat ((pH s f).1,(qfn s (aI s f)).2.1,())),bif (pH s f).2==0 then (qr1 (pH s f).1 s.1).2 else (pH s f).2)
def qi9 (s:qj.den) (f:factT.den):qj.den × Int:=
 bif decide (aI s f < 0) then (s,7) else bif decide (qja f > IntKind.i64.wrap (4000000000000000000 - (qfn s (aI s f)).2.1)) then (s,5)
  else (qg5 s ((kw s).set (aI s f).toNat ((qfn s (aI s f)).1,IntKind.i64.wrap ((qfn s (aI s f)).2.1+qja f),())),0)
abbrev lA (s:qj.den) (f:factT.den):ze.den × Bool:=qi0 s (qa7 f).2.1
def qi8 (s:qj.den) (f:factT.den):qj.den × Int:=
 bif decide (qfl s (qa7 f).1 ≥ 0) then (s,8) else bif decide (((List.length (xq s):Nat):Int) ≥ 2000) then (s,2) else bif !(lA s f).2 then (s,7)
  else (qwy s (qc5 gId (xq s) (qa7 f,[],())),(qxz (lA s f).1.1 s.1 (qa7 f)).2)
abbrev pG (s:qj.den) (f:factT.den):qr.den × Int:=qv8 (ypi s (gI s f)) (qr5 f)
def qmi (s:qj.den) (f:factT.den):qj.den × Int:=
 bif decide (gI s f < 0) then (s,7) else (qwy s ((xq s).set (gI s f).toNat (pG s f).1),(pG s f).2)
theorem vo {α:Type} {l:List α} {i:Int} {d:α} (h:0<=i/\i < (l.length:Int)):l.getD i.toNat d ∈ l:=by
 have hi:i.toNat < l.length:=by omega
 rw [List.getD_eq_getElem?_getD,List.getElem?_eq_getElem hi]
 exact List.getElem_mem hi
theorem qmx {s:qj.den} {id:Int} (h:¬ qg8 s id < 0):0<=qg8 s id/\qg8 s id < ((kw s).length:Int):=⟨by omega,(qq7 (by unfold qg8 at h; omega)).1⟩
theorem zo8 {s:qj.den} {id:Int} (h:¬ qfl s id < 0):0<=qfl s id/\qfl s id < ((xq s).length:Int):=⟨by omega,(qq7 (by unfold qfl at h; omega)).1⟩
theorem qq1 {s:qj.den} (hs:yd s) {id:Int} (h:¬ qg8 s id < 0):jf (qfn s (qg8 s id)).1:=hs.2.2.2 _ (vo (qmx h))
theorem ybl:jf h00:=⟨by decide,by decide,fun c hc=>by cases hc⟩
theorem zvc {s:qj.den} (hs:yd s) (id:Int):jf (qi0 s id).1.1:=by
 unfold qi0
 split
 ·rename_i h
  exact qq1 hs (id:=id) (by omega)
 ·exact ybl
abbrev nA:Prop:=∀ y:qi [ze],WfL [ze] y->qq ([]:List Prop)
abbrev nF:Prop:=∀ y:qi [qr],WfL [qr] y->qq ([]:List Prop)
def zox:Ct:=⟨PDo,[qj,i64],fun x=>((qi7 x.2.1 x.1).1,(qi7 x.2.1 x.1).2,()),fun x=>[yd x.2.1]⟩
def qya (s:qj.den) (f:factT.den):Fr (qi [qj,i64]):=
 Fr.br (decide (aI s f ≥ 0)) (Fr.val (s,8,())) (Fr.br (decide (((List.length (kw s):Nat):Int) ≥ 2000)) (Fr.val (s,2,())) (Fr.br ((bH f).2==0)
  (Fr.need (jf (bH f).1) (Fr.need (jq s.1) (Fr.need nA (Fr.need ((kw s).length<=100000) (Fr.val (qg5 s (qc5 aId (kw s) ((bH f).1,0,())),(qr1 (bH f).1 s.1).2,()))))))
  (Fr.need nA (Fr.need ((kw s).length<=100000) (Fr.val (qg5 s (qc5 aId (kw s) ((bH f).1,0,())),(bH f).2,()))))))
theorem zwc (s:qj.den) (f:factT.den) (hs:yd s):(qya s f).ok/\(qya s f).get=((qi7 s f).1,(qi7 s f).2,()):=by
 unfold qi7
 cases h1:decide (aI s f ≥ 0)
 ·refine Fr.br_f (by first | rfl | exact h1) ?_
  cases h2:decide (((List.length (kw s):Nat):Int) ≥ 2000)
  ·refine Fr.br_f (by first | rfl | exact h2) ?_
   cases h3:(bH f).2==0
   ·refine Fr.br_f (by first | rfl | exact h3) ?_
    exact Fr.need_ (fun _ _=>trivial) (Fr.need_ hs.2.1 ⟨trivial,rfl⟩)
   ·refine Fr.br_t (by first | rfl | exact h3) ?_
    exact Fr.need_ (zhw _ _ _) (Fr.need_ hs.1 (Fr.need_ (fun _ _=>trivial) (Fr.need_ hs.2.1 ⟨trivial,rfl⟩)))
  ·exact Fr.br_t (by first | rfl | exact h2) ⟨trivial,rfl⟩
 ·exact Fr.br_t (by first | rfl | exact h1) ⟨trivial,rfl⟩
theorem zwd:qa Tryz.prog 255 zox:=
 conv (qg qqj (Λ:=qp) (fn:=Tryz.f255) (fr:=fun x=>qya x.2.1 x.1) (ps:=PDo) (rs:=[qj,i64]) (dfP PDo) (by kernel_rfl) (fun c E _=>qd c 0) (fun x=>by kernel_rfl)) _ _ (fun _ _ x _ _ h=>zwc x.2.1 x.1 h)
def zh4:Ct:=⟨PDo,[qj,i64],fun x=>((qgt x.2.1 x.1).1,(qgt x.2.1 x.1).2,()),fun x=>[yd x.2.1]⟩
def quj (s:qj.den) (f:factT.den):Fr (qi [qj,i64]):=
 Fr.br (decide (aI s f < 0)) (Fr.val (s,7,())) (Fr.need nF (Fr.br ((xq s).any (zbx f)) (Fr.val (s,10,())) (Fr.need (0<=aI s f/\aI s f < ((kw s).length:Int)) (Fr.need (jf (qfn s (aI s f)).1)
  (Fr.br ((pH s f).2==0)
   (Fr.need (jf (pH s f).1) (Fr.need (jq s.1) (Fr.need ((kw s).length<=100000) (Fr.need (0<=aI s f/\aI s f < ((kw s).length:Int)) (Fr.val (qg5 s ((kw s).set (aI s f).toNat ((pH s f).1,(qfn s (aI s f)).2.1,())),(qr1 (pH s f).1 s.1).2,()))))))
   (Fr.need ((kw s).length<=100000) (Fr.need (0<=aI s f/\aI s f < ((kw s).length:Int)) (Fr.val (qg5 s ((kw s).set (aI s f).toNat ((pH s f).1,(qfn s (aI s f)).2.1,())),(pH s f).2,())))))))))
theorem zrt (s:qj.den) (f:factT.den) (hs:yd s):(quj s f).ok/\(quj s f).get=((qgt s f).1,(qgt s f).2,()):=by
 unfold qgt
 cases h1:decide (aI s f < 0)
 ·refine Fr.br_f (by first | rfl | exact h1) ?_
  have hi:=of_decide_eq_false h1
  refine Fr.need_ (fun _ _=>trivial) ?_
  cases h2:(xq s).any (zbx f)
  ·refine Fr.br_f (by first | rfl | exact h2) ?_
   refine Fr.need_ (qmx hi) (Fr.need_ (qq1 hs hi) ?_)
   cases h3:(pH s f).2==0
   ·refine Fr.br_f (by first | rfl | exact h3) ?_
    exact Fr.need_ hs.2.1 (Fr.need_ (qmx hi) ⟨trivial,rfl⟩)
   ·refine Fr.br_t (by first | rfl | exact h3) ?_
    exact Fr.need_ (zp0 (qq1 hs hi)) (Fr.need_ hs.1 (Fr.need_ hs.2.1 (Fr.need_ (qmx hi) ⟨trivial,rfl⟩)))
  ·exact Fr.br_t (by first | rfl | exact h2) ⟨trivial,rfl⟩
 ·exact Fr.br_t (by first | rfl | exact h1) ⟨trivial,rfl⟩
theorem zru:qa Tryz.prog 267 zh4:=
 conv (qg qqj (Λ:=qp) (fn:=Tryz.f267) (fr:=fun x=>quj x.2.1 x.1) (ps:=PDo) (rs:=[qj,i64]) (dfP PDo) (by kernel_rfl) (fun c E _=>qd c 0) (fun x=>by kernel_rfl)) _ _ (fun _ _ x _ _ h=>zrt x.2.1 x.1 h)
def zoz:Ct:=⟨PDo,[qj,i64],fun x=>((qi9 x.2.1 x.1).1,(qi9 x.2.1 x.1).2,()),fun x=>[yd x.2.1]⟩
def qyc (s:qj.den) (f:factT.den):Fr (qi [qj,i64]):=
 Fr.br (decide (aI s f < 0)) (Fr.val (s,7,())) (Fr.need (0<=aI s f/\aI s f < ((kw s).length:Int)) (Fr.br (decide (qja f > IntKind.i64.wrap (4000000000000000000 - (qfn s (aI s f)).2.1))) (Fr.val (s,5,()))
  (Fr.need ((kw s).length<=100000) (Fr.need (0<=aI s f/\aI s f < ((kw s).length:Int)) (Fr.val (qg5 s ((kw s).set (aI s f).toNat ((qfn s (aI s f)).1,IntKind.i64.wrap ((qfn s (aI s f)).2.1+qja f),())),0,()))))))
theorem zwg (s:qj.den) (f:factT.den) (hs:yd s):(qyc s f).ok/\(qyc s f).get=((qi9 s f).1,(qi9 s f).2,()):=by
 unfold qi9
 cases h1:decide (aI s f < 0)
 ·refine Fr.br_f (by first | rfl | exact h1) ?_
  have hi:=of_decide_eq_false h1
  refine Fr.need_ (qmx hi) ?_
  cases h2:decide (qja f > IntKind.i64.wrap (4000000000000000000 - (qfn s (aI s f)).2.1))
  ·refine Fr.br_f (by first | rfl | exact h2) ?_
   exact Fr.need_ hs.2.1 (Fr.need_ (qmx hi) ⟨trivial,rfl⟩)
  ·exact Fr.br_t (by first | rfl | exact h2) ⟨trivial,rfl⟩
 ·exact Fr.br_t (by first | rfl | exact h1) ⟨trivial,rfl⟩
theorem zwh:qa Tryz.prog 272 zoz:=
 conv (qg qqj (Λ:=qp) (fn:=Tryz.f272) (fr:=fun x=>qyc x.2.1 x.1) (ps:=PDo) (rs:=[qj,i64]) (dfP PDo) (by kernel_rfl) (fun c E _=>qd c 0) (fun x=>by kernel_rfl)) _ _ (fun _ _ x _ _ h=>zwg x.2.1 x.1 h)
def zoy:Ct:=⟨PDo,[qj,i64],fun x=>((qi8 x.2.1 x.1).1,(qi8 x.2.1 x.1).2,()),fun x=>[yd x.2.1]⟩
def qyb (s:qj.den) (f:factT.den):Fr (qi [qj,i64]):=
 Fr.br (decide (qfl s (qa7 f).1 ≥ 0)) (Fr.val (s,8,())) (Fr.br (decide (((List.length (xq s):Nat):Int) ≥ 2000)) (Fr.val (s,2,())) (Fr.br (!(lA s f).2) (Fr.val (s,7,()))
  (Fr.need (jf (lA s f).1.1) (Fr.need (jq s.1) (Fr.need nF (Fr.need ((xq s).length<=100000) (Fr.val (qwy s (qc5 gId (xq s) (qa7 f,[],())),(qxz (lA s f).1.1 s.1 (qa7 f)).2,()))))))))
theorem zwe (s:qj.den) (f:factT.den) (hs:yd s):(qyb s f).ok/\(qyb s f).get=((qi8 s f).1,(qi8 s f).2,()):=by
 unfold qi8
 cases h1:decide (qfl s (qa7 f).1 ≥ 0)
 ·refine Fr.br_f (by first | rfl | exact h1) ?_
  cases h2:decide (((List.length (xq s):Nat):Int) ≥ 2000)
  ·refine Fr.br_f (by first | rfl | exact h2) ?_
   cases h3 : !(lA s f).2
   ·refine Fr.br_f (by first | rfl | exact h3) ?_
    exact Fr.need_ (zvc hs _) (Fr.need_ hs.1 (Fr.need_ (fun _ _=>trivial) (Fr.need_ hs.2.2.1 ⟨trivial,rfl⟩)))
   ·exact Fr.br_t (by first | rfl | exact h3) ⟨trivial,rfl⟩
  ·exact Fr.br_t (by first | rfl | exact h2) ⟨trivial,rfl⟩
 ·exact Fr.br_t (by first | rfl | exact h1) ⟨trivial,rfl⟩
theorem zwf:qa Tryz.prog 273 zoy:=
 conv (qg qqj (Λ:=qp) (fn:=Tryz.f273) (fr:=fun x=>qyb x.2.1 x.1) (ps:=PDo) (rs:=[qj,i64]) (dfP PDo) (by kernel_rfl) (fun c E _=>qd c 0) (fun x=>by kernel_rfl)) _ _ (fun _ _ x _ _ h=>zwe x.2.1 x.1 h)
def zvj:Ct:=⟨PDo,[qj,i64],fun x=>((qmi x.2.1 x.1).1,(qmi x.2.1 x.1).2,()),fun x=>[yd x.2.1]⟩
def zcm (s:qj.den) (f:factT.den):Fr (qi [qj,i64]):=
 Fr.br (decide (gI s f < 0)) (Fr.val (s,7,())) (Fr.need (0<=gI s f/\gI s f < ((xq s).length:Int)) (Fr.need ((xq s).length<=100000) (Fr.need (0<=gI s f/\gI s f < ((xq s).length:Int)) (Fr.val (qwy s ((xq s).set (gI s f).toNat (pG s f).1),(pG s f).2,())))))
theorem ya7 (s:qj.den) (f:factT.den) (hs:yd s):(zcm s f).ok/\(zcm s f).get=((qmi s f).1,(qmi s f).2,()):=by
 unfold qmi
 cases h1:decide (gI s f < 0)
 ·refine Fr.br_f (by first | rfl | exact h1) ?_
  have hi:=of_decide_eq_false h1
  exact Fr.need_ (zo8 hi) (Fr.need_ hs.2.2.1 (Fr.need_ (zo8 hi) ⟨trivial,rfl⟩))
 ·exact Fr.br_t (by first | rfl | exact h1) ⟨trivial,rfl⟩
theorem ya8:qa Tryz.prog 284 zvj:=
 conv (qg qqj (Λ:=qp) (fn:=Tryz.f284) (fr:=fun x=>zcm x.2.1 x.1) (ps:=PDo) (rs:=[qj,i64]) (dfP PDo) (by kernel_rfl) (fun c E _=>qd c 0) (fun x=>by kernel_rfl)) _ _ (fun _ _ x _ _ h=>ya7 x.2.1 x.1 h)
abbrev qbj:List PT:=[.d .unit,.d factT]
def ztz (f:factT.den):factT.den:=(zj f,za f,0,qja f,qf5 f,((0,0,()),(0,0,0,0,()),[],()),qec f,qa7 f,qr5 f,wo f,())
def qnk:Ct:=⟨qbj,[factT],fun x=>(ztz x.2.1,()),fun _=>[]⟩
theorem yde:qa Tryz.prog 313 qnk:=
 conv (qg xf (Λ:=qp) (fn:=Tryz.f313) (fr:=fun x=>Fr.val (ztz x.2.1,())) (ps:=qbj) (rs:=[factT]) (dfP qbj) (by kernel_rfl) (fun c E _=>qd c 0) (fun x=>by kernel_rfl)) _ _ (fun _ _ _ _ _ _=>⟨trivial,rfl⟩)
def zt0 (f:factT.den):factT.den:=(zj f,za f,0,qja f,qf5 f,qhj f,(0,0,0,(0,0,0,0,()),[],0,()),qa7 f,qr5 f,wo f,())
def qqo:Ct:=⟨qbj,[factT],fun x=>(zt0 x.2.1,()),fun _=>[]⟩
theorem ydf:qa Tryz.prog 314 qqo:=
 conv (qg xf (Λ:=qp) (fn:=Tryz.f314) (fr:=fun x=>Fr.val (zt0 x.2.1,())) (ps:=qbj) (rs:=[factT]) (dfP qbj) (by kernel_rfl) (fun c E _=>qd c 0) (fun x=>by kernel_rfl)) _ _ (fun _ _ _ _ _ _=>⟨trivial,rfl⟩)
def zt1 (f:factT.den):factT.den:=(zj f,za f,0,0,qf5 f,qhj f,qec f,qa7 f,qr5 f,wo f,())
def qqp:Ct:=⟨qbj,[factT],fun x=>(zt1 x.2.1,()),fun _=>[]⟩
theorem ydg:qa Tryz.prog 315 qqp:=
 conv (qg xf (Λ:=qp) (fn:=Tryz.f315) (fr:=fun x=>Fr.val (zt1 x.2.1,())) (ps:=qbj) (rs:=[factT]) (dfP qbj) (by kernel_rfl) (fun c E _=>qd c 0) (fun x=>by kernel_rfl)) _ _ (fun _ _ _ _ _ _=>⟨trivial,rfl⟩)
def zt2 (f:factT.den):factT.den:=(zj f,za f,fId f,qja f,qf5 f,qhj f,qec f,(0,0,0,0,0,0,()),qr5 f,wo f,())
def qqq:Ct:=⟨qbj,[factT],fun x=>(zt2 x.2.1,()),fun _=>[]⟩
theorem ydh:qa Tryz.prog 316 qqq:=
 conv (qg xf (Λ:=qp) (fn:=Tryz.f316) (fr:=fun x=>Fr.val (zt2 x.2.1,())) (ps:=qbj) (rs:=[factT]) (dfP qbj) (by kernel_rfl) (fun c E _=>qd c 0) (fun x=>by kernel_rfl)) _ _ (fun _ _ _ _ _ _=>⟨trivial,rfl⟩)
def zt3 (f:factT.den):factT.den:=(zj f,za f,0,qja f,qf5 f,qhj f,qec f,qa7 f,(0,0,0,()),wo f,())
def qqr:Ct:=⟨qbj,[factT],fun x=>(zt3 x.2.1,()),fun _=>[]⟩
theorem ydi:qa Tryz.prog 317 qqr:=
 conv (qg xf (Λ:=qp) (fn:=Tryz.f317) (fr:=fun x=>Fr.val (zt3 x.2.1,())) (ps:=qbj) (rs:=[factT]) (dfP qbj) (by kernel_rfl) (fun c E _=>qd c 0) (fun x=>by kernel_rfl)) _ _ (fun _ _ _ _ _ _=>⟨trivial,rfl⟩)
def zt4 (f:factT.den):factT.den:=(zj f,za f,fId f,qja f,qf5 f,qhj f,qec f,qa7 f,qr5 f,(0,0,(0,0,()),0,0,0,0,0,()),())
def qqs:Ct:=⟨qbj,[factT],fun x=>(zt4 x.2.1,()),fun _=>[]⟩
theorem ydj:qa Tryz.prog 318 qqs:=
 conv (qg xf (Λ:=qp) (fn:=Tryz.f318) (fr:=fun x=>Fr.val (zt4 x.2.1,())) (ps:=qbj) (rs:=[factT]) (dfP qbj) (by kernel_rfl) (fun c E _=>qd c 0) (fun x=>by kernel_rfl)) _ _ (fun _ _ _ _ _ _=>⟨trivial,rfl⟩)
def zt5 (f:factT.den):factT.den:=(zj f,za f,fId f,qja f,0,qhj f,qec f,qa7 f,qr5 f,wo f,())
def qqt:Ct:=⟨qbj,[factT],fun x=>(zt5 x.2.1,()),fun _=>[]⟩
theorem ydk:qa Tryz.prog 319 qqt:=
 conv (qg xf (Λ:=qp) (fn:=Tryz.f319) (fr:=fun x=>Fr.val (zt5 x.2.1,())) (ps:=qbj) (rs:=[factT]) (dfP qbj) (by kernel_rfl) (fun c E _=>qd c 0) (fun x=>by kernel_rfl)) _ _ (fun _ _ _ _ _ _=>⟨trivial,rfl⟩)
noncomputable def yfr:List (FuncId × Ct):=[(96,qab),(97,zgg),(98,qhe),(99,qea),(100,zh1),(27,qmy),(41,zb2),(313,qnk),(314,qqo),(315,qqp),(316,qqq),(317,qqr),(318,qqs),(319,qqt)]
noncomputable def yqv:Cx:=cx yfr []
theorem ygk:CxOK Tryz.prog yqv:=zb (cs:=yfr) (ps:=[]) qv ⟨ymn,yg6,qvp,qrv,yas,zdp,zyc,yde,ydf,ydg,ydh,ydi,ydj,ydk,trivial⟩ trivial
def qij (x:qm [.d factT]):Fr (qi [.bool]):=
 Fr.need ((bif bif (yw esF (qab.f (x.1.2.1,())).1.1).isNone then true else decide (x.1.1 < 1) then true else decide (x.1.1 > 292194))=false->(qab.f (x.1.2.1,())).1.1=1->qq ([]++([]++[])++qnk.ok ((),x.1,()))) (Fr.need ((bif bif (yw esF (qab.f (x.1.2.1,())).1.1).isNone then true else decide (x.1.1 < 1) then true else decide (x.1.1 > 292194))=false->(qab.f (x.1.2.1,())).1.1 ≠ 1->qq [(qab.f (x.1.2.1,())).1.1=2->qq ([]++([]++[])++qqo.ok ((),x.1,())),(qab.f (x.1.2.1,())).1.1 ≠ 2->qq [(qab.f (x.1.2.1,())).1.1=3->qq ([]++([]++[])++qqp.ok ((),x.1,())),(qab.f (x.1.2.1,())).1.1 ≠ 3->qq [(qab.f (x.1.2.1,())).1.1=4->qq ([]++([]++[])++qqq.ok ((),x.1,())),(qab.f (x.1.2.1,())).1.1 ≠ 4->qq [(qab.f (x.1.2.1,())).1.1=5->qq ([]++([]++[])++qqr.ok ((),x.1,())),(qab.f (x.1.2.1,())).1.1 ≠ 5->qq [(qab.f (x.1.2.1,())).1.1=6->qq ([]++([]++[])++qqs.ok ((),x.1,())),(qab.f (x.1.2.1,())).1.1 ≠ 6->qq (((qab.f (x.1.2.1,())).1.1=7) :: ([]++([]++[])++qqt.ok ((),x.1,())))]]]]]) (Fr.br (bif bif bif (yw esF (qab.f (x.1.2.1,())).1.1).isNone then true else decide (x.1.1 < 1) then true else decide (x.1.1 > 292194) then true else !(zgg.f ((bif (qab.f (x.1.2.1,())).1.1==1 then qnk.f ((),x.1,()) else bif (qab.f (x.1.2.1,())).1.1==2 then qqo.f ((),x.1,()) else bif (qab.f (x.1.2.1,())).1.1==3 then qqp.f ((),x.1,()) else bif (qab.f (x.1.2.1,())).1.1==4 then qqq.f ((),x.1,()) else bif (qab.f (x.1.2.1,())).1.1==5 then qqr.f ((),x.1,()) else bif (qab.f (x.1.2.1,())).1.1==6 then qqs.f ((),x.1,()) else qqt.f ((),x.1,())).1,())).1) (Fr.val (false,())) (Fr.br (yw esF (qab.f (x.1.2.1,())).1.1==some 173) (Fr.val (bif bif decide (x.1.2.2.1 ≥ 1) then decide (x.1.2.2.1<=1000000000) else false then (qhe.f (x.1.2.2.2.2.2.1,())).1 else false,())) (Fr.br (yw esF (qab.f (x.1.2.1,())).1.1==some 175) (Fr.val (bif bif bif decide (x.1.2.2.1 ≥ 1) then decide (x.1.2.2.1<=1000000000) else false then (qea.f (x.1.2.2.2.2.2.2.1,())).1 else false then x.1.2.2.2.2.2.2.1.1==x.1.1 else false,())) (Fr.br (yw esF (qab.f (x.1.2.1,())).1.1==some 177) (Fr.val (bif bif bif decide (x.1.2.2.1 ≥ 1) then decide (x.1.2.2.1<=1000000000) else false then decide (x.1.2.2.2.1 ≥ 1) else false then decide (x.1.2.2.2.1<=1000000000000000) else false,())) (Fr.br (yw esF (qab.f (x.1.2.1,())).1.1==some 178) (Fr.val (bif (zh1.f (x.1.2.2.2.2.2.2.2.1,())).1 then x.1.2.2.2.2.2.2.2.1.2.2.2.2.1==x.1.1 else false,())) (Fr.br (yw esF (qab.f (x.1.2.1,())).1.1==some 179) (Fr.val (bif bif bif decide (x.1.2.2.1 ≥ 1) then decide (x.1.2.2.1<=1000000000) else false then (qmy.f (x.1.2.2.2.2.2.2.2.2.1,())).1 else false then x.1.2.2.2.2.2.2.2.2.1.1==x.1.1 else false,())) (Fr.br (yw esF (qab.f (x.1.2.1,())).1.1==some 180) (Fr.val ((zb2.f (x.1.2.2.2.2.2.2.2.2.2.1,())).1,())) (Fr.val (bif decide (x.1.2.2.2.2.1 ≥ 1) then decide (x.1.2.2.2.2.1<=x.1.1) else false,()))))))))))
theorem zjg:qa Tryz.prog 63 ⟨[.d factT],[.bool],fun xs=>(qij xs).get,fun xs=>[(qij xs).ok]⟩:=
 qg ygk (Λ:=qp) (fn:=Tryz.f63) (dfP [.d factT]) (by kernel_rfl) (fun c E _=>qd c 0) (fun x=>by kernel_rfl)
def qwq (f:factT.den):factT.den:=
 bif za f==1 then ztz f else bif za f==2 then zt0 f else bif za f==3 then zt1 f else bif za f==4 then zt2 f else bif za f==5 then zt3 f else bif za f==6 then zt4 f else zt5 f
def idF (f:factT.den):Bool:=decide (fId f ≥ 1)&&decide (fId f<=1000000000)
def yfg (f:factT.den):Bool:=
 bif za f==1 then idF f&&qeo (qhj f) else bif za f==2 then (idF f&&xu (qec f))&&(qec f).1==zj f
  else bif za f==3 then (idF f&&decide (qja f ≥ 1))&&decide (qja f<=1000000000000000) else bif za f==4 then zvk (qa7 f)&&(qa7 f).2.2.2.2.1==zj f
  else bif za f==5 then (idF f&&qm0 (qr5 f))&&(qr5 f).1==zj f else bif za f==6 then zp1 (wo f) else decide (qf5 f ≥ 1)&&decide (qf5 f<=zj f)
def kq (f:factT.den):Bool:=
 (decide (1<=za f)&&decide (za f<=7))&&((decide (1<=zj f)&&decide (zj f<=292194))&&(qy2 (qwq f)&&yfg f))
theorem qfx (a b:Bool):(bif a then b else false)=(a&&b):=by cases a<;>rfl
theorem ylq (a b:Bool):(bif a then true else b)=(a || b):=by cases a<;>rfl
theorem zpr {k:Int} (h:1<=k/\k<=7) (h1:k ≠ 1) (h2:k ≠ 2) (h3:k ≠ 3) (h4:k ≠ 4) (h5:k ≠ 5) (h6:k ≠ 6):k=7:=by omega
theorem zno {f:factT.den} (h:za f < 1 ∨ za f > 7):(qij (f,())).ok/\(qij (f,())).get=(kq f,()):=by
 have hn:yw esF (za f)=none:=qyg h
 have hf:kq f=false:=by
  unfold kq
  rcases h with h | h
  ·rw [show decide (1<=za f)=false from decide_eq_false (by omega)]; rfl
  ·rw [show decide (za f<=7)=false from decide_eq_false (by omega),Bool.and_false]; rfl
 rw [hf]
 have hb:(bif bif (yw esF (za f)).isNone then true else decide (zj f < 1) then true else decide (zj f > 292194))=true:=by rw [hn]; rfl
 refine Fr.need_ (fun h0=>absurd (hb.symm.trans h0) (by decide)) (Fr.need_ (fun h0=>absurd (hb.symm.trans h0) (by decide)) (Fr.br_t ?_ ⟨trivial,rfl⟩))
 show (bif (bif bif (yw esF (za f)).isNone then true else decide (zj f < 1) then true else decide (zj f > 292194)) then true else _)=true
 rw [hb]
 rfl
theorem znp {f:factT.den} (h:1<=za f/\za f<=7):(qij (f,())).ok/\(qij (f,())).get=(kq f,()):=by
 have hc:(bif bif (yw esF (za f)).isNone then true else decide (zj f < 1) then true else decide (zj f > 292194))=(decide (zj f < 1) || decide (zj f > 292194)):=by
  rcases za9 h with e | e | e | e | e | e | e<;>rw [e]<;>exact ylq _ _
 have hn1:za f=1->qq ([]++([]++[])++qnk.ok ((),f,())):=fun _=>trivial
 refine Fr.need_ (fun _ _=>trivial) (Fr.need_ (fun _=>?_) ?_)
 ·show za f ≠ 1->(_/\_)
  intro h1
  exact ⟨fun _=>trivial,fun h2=>⟨fun _=>trivial,fun h3=>⟨fun _=>trivial,fun h4=>⟨fun _=>trivial,fun h5=>⟨fun _=>trivial,fun h6=>zpr h h1 h2 h3 h4 h5 h6⟩⟩⟩⟩⟩
 have hr:(bif za f==1 then qnk.f ((),f,()) else bif za f==2 then qqo.f ((),f,()) else bif za f==3 then qqp.f ((),f,()) else bif za f==4 then qqq.f ((),f,()) else bif za f==5 then qqr.f ((),f,()) else bif za f==6 then qqs.f ((),f,()) else qqt.f ((),f,()))=(qwq f,()):=by
  unfold qwq
  rcases za9 h with e | e | e | e | e | e | e<;>rw [e]<;>rfl
 have hk:(decide (1<=za f)&&decide (za f<=7))=true:=by rw [decide_eq_true h.1,decide_eq_true h.2]; rfl
 have hcond:(bif bif bif (yw esF (za f)).isNone then true else decide (zj f < 1) then true else decide (zj f > 292194) then true else !(zgg.f ((bif za f==1 then qnk.f ((),f,()) else bif za f==2 then qqo.f ((),f,()) else bif za f==3 then qqp.f ((),f,()) else bif za f==4 then qqq.f ((),f,()) else bif za f==5 then qqr.f ((),f,()) else bif za f==6 then qqs.f ((),f,()) else qqt.f ((),f,())).1,())).1)
   = !((decide (1<=zj f)&&decide (zj f<=292194))&&qy2 (qwq f)):=by
  rw [hr,hc,ylq]
  show ((decide (zj f < 1) || decide (zj f > 292194)) || !(qy2 (qwq f)))=_
  rw [Bool.not_and,Bool.not_and,← decide_not,← decide_not]
  congr 2
  ·exact decide_eq_decide.mpr (by omega)
  ·exact decide_eq_decide.mpr (by omega)
 cases hb:(decide (1<=zj f)&&decide (zj f<=292194))&&qy2 (qwq f)
 ·have hF:kq f=false:=by unfold kq; rw [← Bool.and_assoc (decide (1<=zj f)&&_),hb,Bool.false_and,Bool.and_false]
  rw [hF]
  exact Fr.br_t (hcond.trans (by rw [hb]; rfl)) ⟨trivial,rfl⟩
 ·have hF:kq f=yfg f:=by unfold kq; rw [← Bool.and_assoc (decide (1<=zj f)&&_),hb,hk,Bool.true_and,Bool.true_and]
  rw [hF]
  refine Fr.br_f (hcond.trans (by rw [hb]; rfl)) ?_
  obtain ⟨bk,k,id,amt,day,tm,ch,cl,ac,tr,_⟩:=f
  have e':=za9 h
  rcases e' with e | e | e | e | e | e | e
  all_goals
   have e1:k=_:=e
   subst e1
  ·exact Fr.br_t rfl ⟨trivial,by rw [qfx,qfx]; rfl⟩
  ·exact Fr.br_f rfl (Fr.br_t rfl ⟨trivial,by rw [qfx,qfx,qfx]; rfl⟩)
  ·exact Fr.br_f rfl (Fr.br_f rfl (Fr.br_t rfl ⟨trivial,by rw [qfx,qfx,qfx]; rfl⟩))
  ·exact Fr.br_f rfl (Fr.br_f rfl (Fr.br_f rfl (Fr.br_t rfl ⟨trivial,by rw [qfx]; rfl⟩)))
  ·exact Fr.br_f rfl (Fr.br_f rfl (Fr.br_f rfl (Fr.br_f rfl (Fr.br_t rfl ⟨trivial,by rw [qfx,qfx,qfx]; rfl⟩))))
  ·exact Fr.br_f rfl (Fr.br_f rfl (Fr.br_f rfl (Fr.br_f rfl (Fr.br_f rfl (Fr.br_t rfl ⟨trivial,rfl⟩)))))
  ·exact Fr.br_f rfl (Fr.br_f rfl (Fr.br_f rfl (Fr.br_f rfl (Fr.br_f rfl (Fr.br_f rfl ⟨trivial,by rw [qfx]; rfl⟩)))))
def qmz:Ct:=⟨[.d factT],[.bool],fun x=>(kq x.1,()),fun _=>[]⟩
theorem zei:qa Tryz.prog 63 qmz:=conv zjg _ _ (fun _ _ x _ _ _=>by
 by_cases h:1<=za x.1/\za x.1<=7
 ·exact znp h
 ·exact zno (by omega))
end Go.Proofs.YtgieagiaagoogaaGreat
namespace Go.Proofs.YtgieagiaagoogaaGreat
open Go Go.Ab Go.RowKit Go.Proofs Go.Shelf Go.Lib
def esK:List (Int × TypeId):=[(1,134),(2,135),(3,136),(4,137),(5,138),(6,139),(7,140)]
def kdV (k:Int) (v:Value):Value:=match yw esK k with
 |some ty=>.iface ty v
 |none=>.nilIface
def kdA (v:Value):Array Value:=#[.nilIface,.iface 134 v,.iface 135 v,.iface 136 v,.iface 137 v,.iface 138 v,.iface 139 v,.iface 140 v]
set_option maxRecDepth 100000 in
theorem ych (k:Int) (hk:1<=k/\k<=7) (v:Value) (w:World):(Instr.index 141 (.agg (kdA v)) (.int .i64 k)).run Tryz.prog w = .ok (kdV k v) w:=by
 rcases za9 hk with rfl | rfl | rfl | rfl | rfl | rfl | rfl<;>kernel_rfl
set_option maxHeartbeats 4000000 in
set_option maxRecDepth 100000 in
theorem ycl (k:Int) (hk:1<=k/\k<=7) (cs:Array Value) (hs:cs.size=39) (h1:cs[1]? = some (.int .i64 k)) (R:Ending->World->Prop) (w:World) (hR:∀ o,R (.returned (kdV k (.agg cs))) (w.alloc o)):Calls Tryz.prog 36 #[.agg cs] w R:=by
 have hh:(w.alloc (.cells cs 46)).heap[w.heap.size]? = some (.cells cs 46 (0,0)):=World.alloc_heap_new w _
 have hr:(w.alloc (.cells cs 46)).rangeAt w.heap.size 0 cs.toList:=fun j v hv=>by
  rw [qj4 hh]; simpa using hv
 have hc:(w.alloc (.cells cs 46)).cell? ⟨w.heap.size,1,none⟩=some (.int .i64 k):=by rw [qj4 hh]; exact h1
 have hi:(Tryz.prog.info? 46).map (·.size)=some cs.toList.length:=by rw [Array.length_toList,hs]; kernel_rfl
 have hx:=ych k hk (.agg cs)
 unfold kdA at hx
 go_enter Tryz.func36,Tryz.ntmps36
 go_wp2_with (first | (refine wpList_load_mid rfl 46 _ rfl w.heap.size 0 rfl cs.toList _ hr Tryz.underlying46 rfl hi ?_) | simp only [hx,hc,Array.toArray_toList])
 exact hR _
def zvl:Ct:=⟨[.d factT],[.ic esK factT],fun x=>((za x.1,x.1),()),fun x=>[1<=za x.1/\za x.1<=7]⟩
theorem yik:qa Tryz.prog 36 zvl:=by
 refine ⟨enters_of Tryz.func36 (by kernel_rfl) rfl,fun w F xs vs hbd hr hok=>?_⟩
 obtain ⟨f,_⟩:=xs
 obtain ⟨v,vs',rfl,hv,hn⟩:=hr
 cases hn
 have hv:zt w F factT f v:=hv
 obtain ⟨cs,rfl⟩:=hv.2.1.1 rfl
 have hs:cs.size=39:=hv.1
 have h1:cs[1]? = some (.int .i64 (za f)):=hv.2.2.2.1.1
 refine ycl (za f) hok cs hs h1 _ w fun o=>zau hbd ?_
 unfold kdV
 split
 ·rename_i ty h
  exact zel h hv
 ·rename_i h
  exact zao h
end Go.Proofs.YtgieagiaagoogaaGreat
namespace Go.Proofs.YtgieagiaagoogaaGreat
open Go Go.Ab Go.RowKit Go.Proofs
noncomputable def yqw:Cx:=cx [(63,qmz)] []
theorem ygl:CxOK Tryz.prog yqw:=zb (cs:=[(63,qmz)]) (ps:=[]) qv ⟨zei,trivial⟩ trivial
def qhc (s:qj.den) (f:factT.den):Int:=bif !(kq f) then 1 else bif decide (zj f<=qn5 s) then 12 else 0
def zq3:Ct:=⟨[.d qj,.d factT],[i64],fun x=>(qhc x.1 x.2.1,()),fun _=>[]⟩
theorem ynq:qa Tryz.prog 35 zq3:=
 conv (qg ygl (Λ:=qp) (fn:=Tryz.f35) (fr:=fun x=>Fr.br (!(kq x.2.1)) (Fr.val (1,())) (Fr.br (decide (zj x.2.1<=qn5 x.1)) (Fr.val (12,())) (Fr.val (0,())))) (ps:=zq3.ps) (rs:=[i64]) (dfP zq3.ps) (by kernel_rfl) (fun c E _=>qd c 0) (fun x=>by kernel_rfl)) _ _ (fun _ _ x _ _ _=>by
  obtain ⟨s,f,_⟩:=x
  show _/\_=(qhc s f,())
  unfold qhc
  cases h1 : !(kq f)
  ·refine Fr.br_f (by first | rfl | exact h1) ?_
   cases h2:decide (zj f<=qn5 s)
   ·exact Fr.br_f (by first | rfl | exact h2) ⟨trivial,rfl⟩
   ·exact Fr.br_t (by first | rfl | exact h2) ⟨trivial,rfl⟩
  ·exact Fr.br_t (by first | rfl | exact h1) ⟨trivial,rfl⟩)
noncomputable def yfs:List (FuncId × Ct):=[(35,zq3),(36,zvl),(255,zox),(267,zh4),(272,zoz),(273,zoy),(284,zvj),(295,zdo),(312,zh5)]
noncomputable def yo8:Cx:=cx yfs []
theorem zzu:CxOK Tryz.prog yo8:=zb (cs:=yfs) (ps:=[]) qv ⟨ynq,yik,zwd,zru,zwh,zwf,ya8,zm6,zrv,trivial⟩ trivial
abbrev s00:qj.den:=(([],()),[],[],[],0,())
def doY (s:qj.den) (f:factT.den):qi [qj,i64]:=bif za f==1 then ((qi7 s f).1,(qi7 s f).2,()) else bif za f==2 then ((qgt s f).1,(qgt s f).2,()) else bif za f==3 then ((qi9 s f).1,(qi9 s f).2,()) else bif za f==4 then ((qi8 s f).1,(qi8 s f).2,()) else bif za f==5 then ((qmi s f).1,(qmi s f).2,()) else bif za f==6 then ((qex s f).1,(qex s f).2,()) else ((qgu s f).1,(qgu s f).2,())
def doF (s:qj.den) (f:factT.den):qj.den × Int:=((doY s f).1,(doY s f).2.1)
def wg (s:qj.den) (f:factT.den):qj.den × Int:=
 bif qhc s f != 0 then (s00,qhc s f) else bif (doF s f).2 != 0 then (s00,(doF s f).2) else ((doF s f).1,0)
abbrev PSF:List PT:=[.d qj,.d factT]
def cDo:Ct:=⟨PSF,[qj,i64],fun x=>((wg x.1 x.2.1).1,(wg x.1 x.2.1).2,()),fun x=>[yd x.1]⟩
def ybw (s:qj.den) (f:factT.den):Fr (qi [qj,i64]):=
 Fr.br (qhc s f != 0) (Fr.val (s00,qhc s f,())) (Fr.need (1<=za f/\za f<=7) (Fr.need (za f=1->qq [yd s]) (Fr.need (za f ≠ 1->qq [za f=2->qq [yd s],za f ≠ 2->qq [za f=3->qq [yd s],za f ≠ 3->qq [za f=4->qq [yd s],za f ≠ 4->qq [za f=5->qq [yd s],za f ≠ 5->qq [za f=6->qq ([]:List Prop),za f ≠ 6->qq [za f=7]]]]]])
  (Fr.br ((doY s f).2.1 != 0) (Fr.val (s00,(doY s f).2.1,())) (Fr.val ((doY s f).1,0,()))))))
theorem zxm {s:qj.den} {f:factT.den} (h:qhc s f=0):kq f=true/\qn5 s < zj f:=by
 unfold qhc at h
 cases h1:kq f
 ·rw [h1] at h; have h:(1:Int)=0:=h; exact absurd h (by decide)
 ·rw [h1] at h
  refine ⟨rfl,?_⟩
  by_cases h2:zj f<=qn5 s
  ·rw [decide_eq_true h2] at h; exact absurd h (by decide)
  ·omega
theorem znn {f:factT.den} (h:kq f=true):1<=za f/\za f<=7:=by
 unfold kq at h
 rw [Bool.and_eq_true,Bool.and_eq_true] at h
 exact ⟨of_decide_eq_true h.1.1,of_decide_eq_true h.1.2⟩
theorem ypg (s:qj.den) (f:factT.den) (hs:yd s):(ybw s f).ok/\(ybw s f).get=((wg s f).1,(wg s f).2,()):=by
 unfold wg
 cases h1:qhc s f != 0
 ·refine Fr.br_f (by first | rfl | exact h1) ?_
  have h0:qhc s f=0:=by simpa using h1
  have hk:=znn (zxm h0).1
  refine Fr.need_ hk (Fr.need_ (fun _=>hs) (Fr.need_ (fun k1=>?_) ?_))
  ·exact ⟨fun _=>hs,fun k2=>⟨fun _=>hs,fun k3=>⟨fun _=>hs,fun k4=>⟨fun _=>hs,fun k5=>⟨fun _=>trivial,fun k6=>zpr hk k1 k2 k3 k4 k5 k6⟩⟩⟩⟩⟩
  ·cases h2:(doF s f).2 != 0
   ·exact Fr.br_f (by first | rfl | exact h2) ⟨trivial,rfl⟩
   ·exact Fr.br_t (by first | rfl | exact h2) ⟨trivial,rfl⟩
 ·exact Fr.br_t (by first | rfl | exact h1) ⟨trivial,rfl⟩
theorem zgq:qa Tryz.prog 14 cDo:=
 conv (qg zzu (Λ:=qp) (fn:=Tryz.f14) (fr:=fun x=>ybw x.1 x.2.1) (ps:=PSF) (rs:=[qj,i64]) (dfP PSF) (by kernel_rfl) (fun c E _=>qd c 0) (fun x=>by kernel_rfl)) _ _ (fun _ _ x _ _ h=>ypg x.1 x.2.1 h)
noncomputable def yk3:Cx:=cx [(14,cDo),(28,qrr)] []
theorem zbp:CxOK Tryz.prog yk3:=zb (cs:=[(14,cDo),(28,qrr)]) (ps:=[]) qv ⟨zgq,zxs,trivial⟩ trivial
abbrev qg1:Pt:=⟨41,0,⟨[(22,.d i64),(21,.d i64),(20,.d (.sl factT)),(1,.d i64)],[.x 4 29 qj,.r 4 4 0,.x 6 29 qj,.r 6 6 0]⟩,⟨[],[.x 4 29 qj,.r 4 4 0,.x 6 29 qj,.r 6 6 0]⟩,⟨[],[]⟩⟩
def yfy (x:qg1.M.X):Fr qg1.Out:=
 Fr.br (decide (x.1.1 < x.1.2.1)) (Fr.need (0<=x.1.1/\x.1.1 < ((List.length x.1.2.2.1):Int)) (Fr.br (decide ((List.getD x.1.2.2.1 (Int.toNat x.1.1) factT.dflt).1 > x.1.2.2.2.1)) (Fr.val (Rd.next ((IntKind.i64.wrap (x.1.1+1),x.1.2.1,x.1.2.2.1,x.1.2.2.2.1,()),x.2.1,x.2.2.1,()))) (Fr.need (yd x.2.2.1) (Fr.br ((cDo.f (x.2.2.1,(List.getD x.1.2.2.1 (Int.toNat x.1.1) factT.dflt),())).2.1==0) (Fr.val (Rd.next ((IntKind.i64.wrap (x.1.1+1),x.1.2.1,x.1.2.2.1,x.1.2.2.2.1,()),x.2.1,(cDo.f (x.2.2.1,(List.getD x.1.2.2.1 (Int.toNat x.1.1) factT.dflt),())).1,()))) (Fr.val (Rd.next ((IntKind.i64.wrap (x.1.1+1),x.1.2.1,x.1.2.2.1,x.1.2.2.2.1,()),x.2.1,x.2.2.1,()))))))) (Fr.val (Rd.out ((),x.2.1,x.2.2.1,())))
theorem yod:qe Tryz.prog (qo Tryz.f17 0) qg1.M qg1 yfy:=
 qe.of_run zbp (bs:=0) (Λ:=qp) rfl rfl rfl (fun E=>qd _ 0) (fun x=>by kernel_rfl)
abbrev zbf:Type:=qm [.d i64] × jc [.x 4 29 qj,.r 4 4 0,.x 6 29 qj,.r 6 6 0]
def qcv (e:factT.den) (s:zbf):Fr zbf:=
 Fr.br (decide (e.1 > s.1.1)) (Fr.val s) (Fr.need (yd s.2.2.1) (Fr.br ((cDo.f (s.2.2.1,e,())).2.1==0) (Fr.val ((s.1.1,()),s.2.1,(cDo.f (s.2.2.1,e,())).1,())) (Fr.val s)))
def qjz (x:qg1.M.X):Int × List factT.den × zbf:=(x.1.1,x.1.2.2.1,x.1.2.2.2,x.2)
def qwi (x:qg1.M.X):Prop:=x.1.2.1=(x.1.2.2.1.length:Int)
def zar (s:zbf):qg1.E.X:=((),s.2.1,s.2.2.1,())
theorem yi2:qe Tryz.prog (.loop (qo Tryz.f17 0)) qg1.M qg1 (FF qcv qjz qwi zar):=by
 refine qe.fold yod qcv qjz qwi zar ?_ ?_
 ·rintro ⟨⟨i,n,l,s⟩,m⟩ hg h0 h1 hb e he Q h
  have hg:n=(l.length:Int):=hg
  subst hg
  have h0:0<=i:=h0
  have h1:i < (l.length:Int):=h1
  have hb:(l.length:Int)<=9223372036854775807:=hb
  have hd:l.getD i.toNat factT.dflt=e:=zr he
  have hw:=zx h0 h1 hb
  dsimp only [qjz,qcv,yfy,Fr.satP] at h ⊢
  simp only [hd,hw] at h ⊢
  refine ⟨fun _=>?_,fun hn=>absurd h1 (of_decide_eq_false hn)⟩
  repeat' first
   |exact h
   |exact ⟨h0,h1⟩
   |exact fun _=>⟨h0,h1⟩
   |exact h _ rfl rfl
   |(refine ⟨fun hc=>?_,fun hc=>?_⟩<;>first | replace h:=h.1 hc | replace h:=h.2 hc)
   |(refine ⟨h.1,?_⟩; replace h:=h.2)
   |refine ⟨⟨h0,h1⟩,?_⟩
   |exact h.1
   |exact h.2.1
   |exact h.2.2.1
   |refine ⟨?_,?_⟩
   |(intro (hc:_=true); replace h:=h.1 hc)
   |(intro (hc:_=false); replace h:=h.2 hc)
   |(replace h:=h.2)
 ·rintro ⟨⟨i,n,l,s⟩,m⟩ hg h1 Q h
  have hg:n=(l.length:Int):=hg
  subst hg
  exact ⟨fun hn=>absurd (of_decide_eq_true hn) h1,fun _=>h⟩
def yr4 (Γ:Gm):St->Option Tr:=qg1.han Γ qg1.M (FF qcv qjz qwi zar)
def yn7 (y:qg1.M.X):zbf:=goF qcv ((qjz y).2.1.drop (qjz y).1.toNat) (qjz y).2.2
def ynv (y:qg1.M.X):Prop:=okF qcv ((qjz y).2.1.drop (qjz y).1.toNat) (qjz y).2.2
def yfv (x:qm [.d jourT,.d i64]):Fr (qi [qj,i64]):=
 Fr.br (decide (((List.length x.1.2.1):Int) > 2000)) (Fr.val ((([],()),[],[],[],0,()),2,())) (Fr.need (InL (qwi ((0,((List.length x.1.2.1):Int),x.1.2.1,x.2.1,()),(([],()),[],[],[],0,()),(qrr.f ((x.1.1.1,()),())).1,())) (qjz ((0,((List.length x.1.2.1):Int),x.1.2.1,x.2.1,()),(([],()),[],[],[],0,()),(qrr.f ((x.1.1.1,()),())).1,()))) (Fr.need (ynv ((0,((List.length x.1.2.1):Int),x.1.2.1,x.2.1,()),(([],()),[],[],[],0,()),(qrr.f ((x.1.1.1,()),())).1,())) (Fr.val ((zar (yn7 ((0,((List.length x.1.2.1):Int),x.1.2.1,x.2.1,()),(([],()),[],[],[],0,()),(qrr.f ((x.1.1.1,()),())).1,()))).2.2.1,0,()))))
theorem ybq:qa Tryz.prog 17 ⟨[.d jourT,.d i64],[qj,i64],fun xs=>(yfv xs).get,fun xs=>[(yfv xs).ok]⟩:=
 qg zbp (Λ:=(fun _=>yr4 yk3.Γ)) (fn:=Tryz.f17) (dfP [.d jourT,.d i64]) (by kernel_rfl) (fun c E hc=>yz hc (by kernel_rfl) (b:=qo Tryz.f17 0) (by kernel_rfl) (qe.han zbp rfl yi2)) (fun x=>by kernel_rfl)
theorem ycc {α:Type} {i:Int} {l:List α} {x a:α} (h:a ∈ qnv i l [x]):a ∈ l ∨ a=x:=by
 unfold qnv at h
 rw [List.mem_append,List.mem_append] at h
 rcases h with (h | h) | h
 ·exact .inl (List.mem_of_mem_take h)
 ·exact .inr (List.mem_singleton.1 h)
 ·exact .inl (List.mem_of_mem_drop h)
theorem znr {α:Type} (i:Int) (l:List α) (x:α):(qnv i l [x]).length=l.length+1:=by
 unfold qnv
 rw [List.length_append,List.length_append,List.length_take,List.length_drop,List.length_singleton]
 omega
theorem ztr {α:Type} {g:α->Int} {l:List α} {x a:α} (h:a ∈ qc5 g l x):a ∈ l ∨ a=x:=ycc h
theorem qtn {α:Type} (g:α->Int) (l:List α) (x:α):(qc5 g l x).length=l.length+1:=znr _ l x
theorem ztb {α:Type} {l:List α} {i:Nat} {x a:α} (h:a ∈ l.set i x):a ∈ l ∨ a=x:=List.mem_or_eq_of_mem_set h
theorem qq2 {t:zd.den} (h:jq t):yd (qia t):=⟨h,Nat.zero_le _,Nat.zero_le _,fun a ha=>by cases ha⟩
theorem ybm {s:qj.den} (f:factT.den) (h:yd s):yd (qi7 s f).1:=by
 unfold qi7
 cases h1:decide (aI s f ≥ 0)
 ·cases h2:decide (((List.length (kw s):Nat):Int) ≥ 2000)
  ·have h2':=of_decide_eq_false h2
   refine ⟨h.1,?_,h.2.2.1,fun a ha=>?_⟩
   ·show (qc5 aId (kw s) ((bH f).1,0,())).length<=100000
    rw [qtn]; omega
   ·rcases ztr ha with ha | ha
    ·exact h.2.2.2 a ha
    ·rw [ha]; exact zhw _ _ _
  ·exact h
 ·exact h
theorem zo4 {s:qj.den} (i:Nat) (x:ze.den) (h:yd s) (hx:jf x.1):yd (qg5 s ((kw s).set i x)):=by
 refine ⟨h.1,?_,h.2.2.1,fun a ha=>?_⟩
 ·show ((kw s).set i x).length<=100000
  rw [List.length_set]; exact h.2.1
 ·rcases ztb ha with ha | ha
  ·exact h.2.2.2 a ha
  ·rw [ha]; exact hx
theorem zwo {s:qj.den} (f:factT.den) (h:yd s):yd (qgt s f).1:=by
 unfold qgt
 cases h1:decide (aI s f < 0)
 ·cases h2:(xq s).any (zbx f)
  ·exact zo4 _ _ h (zp0 (qq1 h (of_decide_eq_false h1)))
  ·exact h
 ·exact h
theorem ybp {s:qj.den} (f:factT.den) (h:yd s):yd (qi9 s f).1:=by
 unfold qi9
 cases h1:decide (aI s f < 0)
 ·cases h2:decide (qja f > IntKind.i64.wrap (4000000000000000000 - (qfn s (aI s f)).2.1))
  ·exact zo4 _ _ h (qq1 h (of_decide_eq_false h1))
  ·exact h
 ·exact h
theorem ybn {s:qj.den} (f:factT.den) (h:yd s):yd (qi8 s f).1:=by
 unfold qi8
 cases h1:decide (qfl s (qa7 f).1 ≥ 0)
 ·cases h2:decide (((List.length (xq s):Nat):Int) ≥ 2000)
  ·have h2':=of_decide_eq_false h2
   cases h3 : !(lA s f).2
   ·refine ⟨h.1,h.2.1,?_,h.2.2.2⟩
    show (qc5 gId (xq s) (qa7 f,[],())).length<=100000
    rw [qtn]; omega
   ·exact h
  ·exact h
 ·exact h
theorem yht {s:qj.den} (f:factT.den) (h:yd s):yd (qmi s f).1:=by
 unfold qmi
 cases h1:decide (gI s f < 0)
 ·refine ⟨h.1,h.2.1,?_,h.2.2.2⟩
  show ((xq s).set (gI s f).toNat (pG s f).1).length<=100000
  rw [List.length_set]; exact h.2.2.1
 ·exact h
theorem zr1 {s:qj.den} (f:factT.den) (h:yd s):yd (qex s f).1:=by
 unfold qex
 cases zg9 s (wo f)
 ·cases decide (((List.length (qel s):Nat):Int) ≥ 100)
  ·cases qsy (qel s) (wo f)
   ·exact ⟨h.1,h.2.1,h.2.2.1,h.2.2.2⟩
   ·exact h
  ·exact h
 ·exact h
theorem zwp {s:qj.den} (f:factT.den) (h:yd s):yd (qgu s f).1:=by
 unfold qgu
 cases decide (qf5 f<=qn5 s)
 ·exact ⟨h.1,h.2.1,h.2.2.1,h.2.2.2⟩
 ·exact h
theorem zwq {s:qj.den} (f:factT.den) (h:yd s):yd (doF s f).1:=by
 show yd (doY s f).1
 unfold doY
 cases za f==1
 ·cases za f==2
  ·cases za f==3
   ·cases za f==4
    ·cases za f==5
     ·cases za f==6
      ·exact zwp f h
      ·exact zr1 f h
     ·exact yht f h
    ·exact ybn f h
   ·exact ybp f h
  ·exact zwo f h
 ·exact ybm f h
def qsp (s:qj.den) (f:factT.den):qj.den:=bif (wg s f).2==0 then (wg s f).1 else s
theorem yj1 {s:qj.den} {f:factT.den} (h:(wg s f).2=0):qhc s f=0/\(doF s f).2=0/\(wg s f).1=(doF s f).1:=by
 unfold wg at h ⊢
 cases h1:qhc s f != 0
 ·have h0:qhc s f=0:=by simpa using h1
  rw [h1] at h
  cases h2:(doF s f).2 != 0
  ·exact ⟨h0,by simpa using h2,rfl⟩
  ·rw [h2] at h
   have h':(doF s f).2=0:=h
   rw [h'] at h2; exact absurd h2 (by decide)
 ·rw [h1] at h
  have h':qhc s f=0:=h
  rw [h'] at h1; exact absurd h1 (by decide)
theorem ybo {s:qj.den} (f:factT.den) (h:yd s):yd (qsp s f):=by
 unfold qsp
 cases h1:(wg s f).2==0
 ·exact h
 ·show yd (wg s f).1
  rw [(yj1 (eq_of_beq h1)).2.2]
  exact zwq f h
def qfu (b:Int) (s:qj.den) (f:factT.den):qj.den:=bif decide (zj f > b) then s else qsp s f
theorem zi9 {b:Int} {s:qj.den} (f:factT.den) (h:yd s):yd (qfu b s f):=by
 unfold qfu
 cases decide (zj f > b)
 ·exact ybo f h
 ·exact h
def qdr (b:Int) (l:List factT.den) (s:qj.den):qj.den:=l.foldl (qfu b) s
theorem zi8 {b:Int}:(l:List factT.den) -> {s:qj.den}->yd s->yd (qdr b l s)
 |[],_,h=>h
 |f :: l,_,h=>zi8 l (zi9 f h)
def ofJ (j:jourT.den) (b:Int):qj.den × Int:=bif decide (((List.length (α:=factT.den) j.2.1:Nat):Int) > 2000) then (s00,2) else (qdr b j.2.1 (qia j.1),0)
theorem yi4 (e:factT.den) (b:Int) (q s:qj.den) (hs:yd s):(qcv e ((b,()),q,s,())).ok/\(qcv e ((b,()),q,s,())).get=((b,()),q,qfu b s e,()):=by
 unfold qfu
 cases h1:decide (zj e > b)
 ·refine Fr.br_f (by first | rfl | exact h1) (Fr.need_ hs ?_)
  unfold qsp
  cases h2:(wg s e).2==0
  ·exact Fr.br_f (by first | rfl | exact h2) ⟨trivial,rfl⟩
  ·exact Fr.br_t (by first | rfl | exact h2) ⟨trivial,rfl⟩
 ·exact Fr.br_t (by first | rfl | exact h1) ⟨trivial,rfl⟩
theorem yf6 (b:Int) (q:qj.den):(l:List factT.den)->(s:qj.den)->yd s->okF qcv l ((b,()),q,s,())/\goF qcv l ((b,()),q,s,())=((b,()),q,qdr b l s,())
 |[],_,_=>⟨trivial,rfl⟩
 |e :: l,s,hs=>by
  have h1:=yi4 e b q s hs
  have h2:=yf6 b q l (qfu b s e) (zi9 e hs)
  refine ⟨⟨h1.1,?_⟩,?_⟩
  ·rw [h1.2]; exact h2.1
  ·show goF qcv l (qcv e ((b,()),q,s,())).get=_
   rw [h1.2]; exact h2.2
def qde:Ct:=⟨[.d jourT,.d i64],[qj,i64],fun x=>((ofJ x.1 x.2.1).1,(ofJ x.1 x.2.1).2,()),fun x=>[jq x.1.1]⟩
theorem zxy:qa Tryz.prog 17 qde:=conv ybq _ _ (fun _ _ x _ _ ht=>by
 obtain ⟨j,b,_⟩:=x
 have ht:jq j.1:=ht
 show _/\_=((ofJ j b).1,(ofJ j b).2,())
 unfold ofJ
 cases h:decide (((List.length (α:=factT.den) j.2.1:Nat):Int) > 2000)
 ·have h':=of_decide_eq_false h
  have hg:=yf6 b s00 (List.drop 0 j.2.1) (qia j.1) (qq2 ht)
  refine Fr.br_f (by first | rfl | exact h) (Fr.need_ ⟨rfl,Int.le_refl _,Int.natCast_nonneg _,?_⟩ (Fr.need_ hg.1 ⟨trivial,?_⟩))
  ·show ((List.length (α:=factT.den) j.2.1:Nat):Int)<=_
   omega
  ·show ((goF qcv (List.drop 0 j.2.1) ((b,()),s00,qia j.1,())).2.2.1,0,())=_
   rw [hg.2,List.drop_zero]
   rfl
 ·exact Fr.br_t (by first | rfl | exact h) ⟨trivial,rfl⟩)
noncomputable def yk4:Cx:=cx [(70,qeb qb)] []
theorem zbq:CxOK Tryz.prog yk4:=zb (cs:=[(70,qeb qb)]) (ps:=[]) qv ⟨qld,trivial⟩ trivial
def zo6 (x:qm [.d factT]):Fr (qi [factT]):=
 Fr.need (List.length x.1.2.2.2.2.2.1.2.2.1<=1000000) (Fr.need (List.length x.1.2.2.2.2.2.2.1.2.2.2.2.1<=1000000) (Fr.val ((x.1.1,x.1.2.1,x.1.2.2.1,x.1.2.2.2.1,x.1.2.2.2.2.1,(x.1.2.2.2.2.2.1.1,x.1.2.2.2.2.2.1.2.1,((qeb qb).f (x.1.2.2.2.2.2.1.2.2.1,())).1,()),(x.1.2.2.2.2.2.2.1.1,x.1.2.2.2.2.2.2.1.2.1,x.1.2.2.2.2.2.2.1.2.2.1,x.1.2.2.2.2.2.2.1.2.2.2.1,((qeb qb).f (x.1.2.2.2.2.2.2.1.2.2.2.2.1,())).1,x.1.2.2.2.2.2.2.1.2.2.2.2.2.1,()),x.1.2.2.2.2.2.2.2.1,x.1.2.2.2.2.2.2.2.2.1,x.1.2.2.2.2.2.2.2.2.2.1,()),())))
theorem zr5:qa Tryz.prog 44 ⟨[.d factT],[factT],fun xs=>(zo6 xs).get,fun xs=>[(zo6 xs).ok]⟩:=
 qg zbq (Λ:=qp) (fn:=Tryz.f44) (dfP [.d factT]) (by kernel_rfl) (fun c E _=>qd c 0) (fun x=>by kernel_rfl)
def qzk (x:qm [.d jourT]):Fr (qi [i64]):=
 Fr.need (InL (qkv ((0,((List.length x.1.2.1):Int),x.1.2.1,0,()),())) (qbx ((0,((List.length x.1.2.1):Int),x.1.2.1,0,()),()))) (Fr.need (ztd ((0,((List.length x.1.2.1):Int),x.1.2.1,0,()),())) (Fr.val ((qmt (zty ((0,((List.length x.1.2.1):Int),x.1.2.1,0,()),()))).1.1,())))
theorem zfp:qa Tryz.prog 88 ⟨[.d jourT],[i64],fun xs=>(qzk xs).get,fun xs=>[(qzk xs).ok]⟩:=
 qg zbq (Λ:=(fun _=>ye3 yk4.Γ)) (fn:=Tryz.f88) (dfP [.d jourT]) (by kernel_rfl) (fun c E hc=>yz hc (by kernel_rfl) (b:=qo Tryz.f88 0) (by kernel_rfl) (qe.han zbq rfl znt)) (fun x=>by kernel_rfl)
def qhb (f:factT.den):Prop:=(qhj f).2.2.1.length<=1000000/\(qec f).2.2.2.2.1.length<=1000000
def qgo:Ct:=⟨[.d factT],[factT],fun x=>(x.1,()),fun x=>[qhb x.1]⟩
theorem yhw:qa Tryz.prog 44 qgo:=conv zr5 _ _ (fun _ _ x _ _ h=>Fr.need_ h.1 (Fr.need_ h.2 ⟨trivial,rfl⟩))
def zik (d:Int) (f:factT.den):Int:=bif za f==7 then (if d < qf5 f then qf5 f else d) else d
def zb6 (l:List factT.den):Int:=l.foldl zik 0
theorem yax (e:factT.den) (d:Int):(ve e ((d,()),())).ok/\(ve e ((d,()),())).get=((zik d e,()),()):=by
 unfold zik
 cases h:za e==7
 ·exact Fr.br_f (by first | rfl | exact h) ⟨trivial,rfl⟩
 ·exact Fr.br_t (by first | rfl | exact h) ⟨trivial,rfl⟩
theorem zvu:(l:List factT.den)->(d:Int)->okF ve l ((d,()),())/\goF ve l ((d,()),())=((l.foldl zik d,()),())
 |[],_=>⟨trivial,rfl⟩
 |e :: l,d=>by
  have h1:=yax e d
  have h2:=zvu l (zik d e)
  refine ⟨⟨h1.1,?_⟩,?_⟩
  ·rw [h1.2]; exact h2.1
  ·show goF ve l (ve e ((d,()),())).get=_
   rw [h1.2]; exact h2.2
def qni:Ct:=⟨[.d jourT],[i64],fun x=>(zb6 x.1.2.1,()),fun _=>[]⟩
theorem zpi {w:World} {F:Nat->Prop} {j:jourT.den} {v:Value} (h:zt w F jourT j v):((List.length (α:=factT.den) j.2.1:Nat):Int)<=9223372036854775807:=by
 have h1:List.length (α:=factT.den) j.2.1<=maxLen:=(qs.wf h.2.2).2.1.1
 unfold maxLen at h1
 omega
theorem zr0:qa Tryz.prog 88 qni:=conv zfp _ _ (fun w F x vs hr _=>by
 obtain ⟨j,_⟩:=x
 obtain ⟨v,vs',rfl,hv,_⟩:=hr
 have hg:=zvu (List.drop 0 j.2.1) 0
 refine Fr.need_ ⟨rfl,Int.le_refl _,Int.natCast_nonneg _,zpi hv⟩ (Fr.need_ hg.1 ⟨trivial,?_⟩)
 show ((goF ve (List.drop 0 j.2.1) ((0,()),())).1.1,())=_
 rw [hg.2,List.drop_zero]
 rfl)
noncomputable def yk5:Cx:=cx [(44,qgo),(88,qni),(63,qmz)] []
theorem qvx:CxOK Tryz.prog yk5:=zb (cs:=[(44,qgo),(88,qni),(63,qmz)]) (ps:=[]) qv ⟨yhw,zr0,zei,trivial⟩ trivial
abbrev qbf:Pt:=⟨28,0,⟨[(11,.d i64),(10,.d i64),(9,.d (.sl factT)),(1,.d i64)],[.x 2 64 jourT,.r 2 2 0,.x 4 64 jourT,.r 4 4 0,.o 5 46 factT]⟩,⟨[],[.x 2 64 jourT,.r 2 2 0,.x 4 64 jourT,.r 4 4 0,.o 5 46 factT]⟩,⟨[],[]⟩⟩
def zj7 (x:qbf.M.X):Fr qbf.Out:=
 Fr.br (decide (x.1.1 < x.1.2.1)) (Fr.need (0<=x.1.1/\x.1.1 < ((List.length x.1.2.2.1):Int)) (Fr.br (decide ((List.getD x.1.2.2.1 (Int.toNat x.1.1) factT.dflt).1<=x.1.2.2.2.1)) (Fr.need (qhb (List.getD x.1.2.2.1 (Int.toNat x.1.1) factT.dflt)) (Fr.need (x.2.2.2.1.length + [(qgo.f ((List.getD x.1.2.2.1 (Int.toNat x.1.1) factT.dflt),())).1].length<=maxLen/\(x.2.2.2.1.length + [(qgo.f ((List.getD x.1.2.2.1 (Int.toNat x.1.1) factT.dflt),())).1].length) * 344<=140737488355328) (Fr.val (Rd.next ((IntKind.i64.wrap (x.1.1+1),x.1.2.1,x.1.2.2.1,x.1.2.2.2.1,()),x.2.1,x.2.2.1,x.2.2.2.1++[(qgo.f ((List.getD x.1.2.2.1 (Int.toNat x.1.1) factT.dflt),())).1],()))))) (Fr.val (Rd.next ((IntKind.i64.wrap (x.1.1+1),x.1.2.1,x.1.2.2.1,x.1.2.2.2.1,()),x.2.1,x.2.2.1,x.2.2.2.1,()))))) (Fr.val (Rd.out ((),x.2.1,x.2.2.1,x.2.2.2.1,())))
theorem zyw:qe Tryz.prog (qo Tryz.f19 0) qbf.M qbf zj7:=
 qe.of_run qvx (bs:=0) (Λ:=qp) rfl rfl rfl (fun E=>qd _ 0) (fun x=>by kernel_rfl)
abbrev qoa:Type:=qm [.d i64] × jc [.x 2 64 jourT,.r 2 2 0,.x 4 64 jourT,.r 4 4 0,.o 5 46 factT]
def vw (e:factT.den) (s:qoa):Fr qoa:=
 Fr.br (decide (e.1<=s.1.1)) (Fr.need (qhb e) (Fr.need (s.2.2.2.1.length + [(qgo.f (e,())).1].length<=maxLen/\(s.2.2.2.1.length + [(qgo.f (e,())).1].length) * 344<=140737488355328) (Fr.val ((s.1.1,()),s.2.1,s.2.2.1,s.2.2.2.1++[(qgo.f (e,())).1],())))) (Fr.val s)
def qda (x:qbf.M.X):Int × List factT.den × qoa:=(x.1.1,x.1.2.2.1,x.1.2.2.2,x.2)
def qmn (x:qbf.M.X):Prop:=x.1.2.1=(x.1.2.2.1.length:Int)
def qlq (s:qoa):qbf.E.X:=((),s.2.1,s.2.2.1,s.2.2.2.1,())
theorem zs6:qe Tryz.prog (.loop (qo Tryz.f19 0)) qbf.M qbf (FF vw qda qmn qlq):=by
 refine qe.fold zyw vw qda qmn qlq ?_ ?_
 ·rintro ⟨⟨i,n,l,s⟩,m⟩ hg h0 h1 hb e he Q h
  have hg:n=(l.length:Int):=hg
  subst hg
  have h0:0<=i:=h0
  have h1:i < (l.length:Int):=h1
  have hb:(l.length:Int)<=9223372036854775807:=hb
  have hd:l.getD i.toNat factT.dflt=e:=zr he
  have hw:=zx h0 h1 hb
  dsimp only [qda,vw,zj7,Fr.satP] at h ⊢
  simp only [hd,hw] at h ⊢
  refine ⟨fun _=>?_,fun hn=>absurd h1 (of_decide_eq_false hn)⟩
  repeat' first
   |exact h
   |exact ⟨h0,h1⟩
   |exact fun _=>⟨h0,h1⟩
   |exact h _ rfl rfl
   |(refine ⟨fun hc=>?_,fun hc=>?_⟩<;>first | replace h:=h.1 hc | replace h:=h.2 hc)
   |(refine ⟨h.1,?_⟩; replace h:=h.2)
   |refine ⟨⟨h0,h1⟩,?_⟩
   |exact h.1
   |exact h.2.1
   |exact h.2.2.1
   |refine ⟨?_,?_⟩
   |(intro (hc:_=true); replace h:=h.1 hc)
   |(intro (hc:_=false); replace h:=h.2 hc)
   |(replace h:=h.2)
 ·rintro ⟨⟨i,n,l,s⟩,m⟩ hg h1 Q h
  have hg:n=(l.length:Int):=hg
  subst hg
  exact ⟨fun hn=>absurd (of_decide_eq_true hn) h1,fun _=>h⟩
def ykh (Γ:Gm):St->Option Tr:=qbf.han Γ qbf.M (FF vw qda qmn qlq)
def ze1 (y:qbf.M.X):qoa:=goF vw ((qda y).2.1.drop (qda y).1.toNat) (qda y).2.2
def zx1 (y:qbf.M.X):Prop:=okF vw ((qda y).2.1.drop (qda y).1.toNat) (qda y).2.2
def qwc (x:qm [.d jourT,.d factT]):Fr (qi [jourT,i64]):=
 Fr.br (!(qmz.f (x.2.1,())).1) (Fr.val ((([],()),[],()),1,())) (Fr.br (decide (((List.length x.1.2.1):Int) ≥ 2000)) (Fr.val ((([],()),[],()),2,())) (Fr.need (decide (((List.length x.1.2.1):Int) > 0)=true->0<=IntKind.i64.wrap (((List.length x.1.2.1):Int) - 1)/\IntKind.i64.wrap (((List.length x.1.2.1):Int) - 1) < ((List.length x.1.2.1):Int)) (Fr.br (bif decide (((List.length x.1.2.1):Int) > 0) then decide (x.2.1.1 < (List.getD x.1.2.1 (IntKind.i64.wrap (((List.length x.1.2.1):Int) - 1)).toNat factT.dflt).1) else false) (Fr.val ((([],()),[],()),4,())) (Fr.br (bif decide (x.2.1.1<=(qni.f (x.1,())).1) then true else bif x.2.1.2.1==7 then decide (x.2.1.2.2.2.2.1<=(qni.f (x.1,())).1) else false) (Fr.val ((([],()),[],()),12,())) (Fr.need (0<=(0:Int)/\(0:Int)<=((List.length x.1.2.1):Int)/\((List.length x.1.2.1):Int)<=((List.length x.1.2.1):Int)/\((List.length x.1.2.1):Int)=((List.length x.1.2.1):Int)) (Fr.need (qhb x.2.1) (Fr.need (0 < [(qgo.f (x.2.1,())).1].length/\(List.take (((List.length x.1.2.1):Int) - (0:Int)).toNat (List.drop ((0:Int)).toNat x.1.2.1)).length + [(qgo.f (x.2.1,())).1].length<=maxLen/\((List.take (((List.length x.1.2.1):Int) - (0:Int)).toNat (List.drop ((0:Int)).toNat x.1.2.1)).length + [(qgo.f (x.2.1,())).1].length) * 344<=140737488355328) (Fr.val (((x.1.1.1,()),List.take (((List.length x.1.2.1):Int) - (0:Int)).toNat (List.drop ((0:Int)).toNat x.1.2.1)++[(qgo.f (x.2.1,())).1],()),0,())))))))))
theorem zr6:qa Tryz.prog 50 ⟨[.d jourT,.d factT],[jourT,i64],fun xs=>(qwc xs).get,fun xs=>[(qwc xs).ok]⟩:=
 qg qvx (Λ:=qp) (fn:=Tryz.f50) (dfP [.d jourT,.d factT]) (by kernel_rfl) (fun c E _=>qd c 0) (fun x=>by kernel_rfl)
def qr8 (x:qm [.d jourT,.d i64]):Fr (qi [jourT]):=
 Fr.need (InL (qmn ((0,((List.length x.1.2.1):Int),x.1.2.1,x.2.1,()),x.1,(([],()),[],()),[],())) (qda ((0,((List.length x.1.2.1):Int),x.1.2.1,x.2.1,()),x.1,(([],()),[],()),[],()))) (Fr.need (zx1 ((0,((List.length x.1.2.1):Int),x.1.2.1,x.2.1,()),x.1,(([],()),[],()),[],())) (Fr.val ((((qlq (ze1 ((0,((List.length x.1.2.1):Int),x.1.2.1,x.2.1,()),x.1,(([],()),[],()),[],()))).2.1.1.1,()),(qlq (ze1 ((0,((List.length x.1.2.1):Int),x.1.2.1,x.2.1,()),x.1,(([],()),[],()),[],()))).2.2.2.1,()),())))
theorem znd:qa Tryz.prog 19 ⟨[.d jourT,.d i64],[jourT],fun xs=>(qr8 xs).get,fun xs=>[(qr8 xs).ok]⟩:=
 qg qvx (Λ:=(fun _=>ykh yk5.Γ)) (fn:=Tryz.f19) (dfP [.d jourT,.d i64]) (by kernel_rfl) (fun c E hc=>yz hc (by kernel_rfl) (b:=qo Tryz.f19 0) (by kernel_rfl) (qe.han qvx rfl zs6)) (fun x=>by kernel_rfl)
abbrev j00:jourT.den:=(([],()),[],())
def qwl (l:List factT.den) (f:factT.den):Bool:=match l.getLast? with
 |some g=>decide (zj f < zj g)
 |none=>false
def zg5 (l:List factT.den) (f:factT.den):Bool:=bif decide (zj f<=zb6 l) then true else bif za f==7 then decide (qf5 f<=zb6 l) else false
def qgd (j:jourT.den) (f:factT.den):jourT.den × Int:=
 bif !(kq f) then (j00,1) else bif decide (((List.length (α:=factT.den) j.2.1:Nat):Int) ≥ 2000) then (j00,2) else bif qwl j.2.1 f then (j00,4) else bif zg5 j.2.1 f then (j00,12) else ((j.1,j.2.1++[f],()),0)
def qv3:Ct:=⟨[.d jourT,.d factT],[jourT,i64],fun x=>((qgd x.1 x.2.1).1,(qgd x.1 x.2.1).2,()),fun x=>[qhb x.2.1]⟩
theorem zpl (l:List factT.den) (f:factT.den) (hl:l.length < 2000):(bif decide (((List.length l:Nat):Int) > 0) then decide (zj f < (List.getD l (IntKind.i64.wrap (((List.length l:Nat):Int) - 1)).toNat factT.dflt).1) else false)=qwl l f:=by
 unfold qwl
 cases l with
 |nil=>rfl
 |cons a r=>
  have hw:IntKind.i64.wrap (((a :: r).length:Int) - 1)=r.length:=by
   rw [IntWalk.i64_in _ (by simp only [List.length_cons] at hl ⊢; omega)]; simp
  rw [hw,decide_eq_true (by simp:(((a :: r).length:Nat):Int) > 0),List.getLast?_eq_getElem?,List.getD_eq_getElem?_getD]
  have:((r.length:Int)).toNat=(a :: r).length - 1:=by simp
  rw [this,List.getElem?_eq_getElem (by simp)]
  rfl
theorem yio {l:List factT.den} (hl:l.length < 2000):decide (((List.length l:Nat):Int) > 0)=true->0<=IntKind.i64.wrap (((List.length l:Nat):Int) - 1)/\IntKind.i64.wrap (((List.length l:Nat):Int) - 1) < ((List.length l:Nat):Int):=fun h=>by
 have h:=of_decide_eq_true h
 rw [IntWalk.i64_in _ (by omega)]
 omega
theorem yhx (t:zd.den) (l:List factT.den) (f:factT.den) (hf:qhb f):(qwc ((t,l,()),f,())).ok/\(qwc ((t,l,()),f,())).get=((qgd (t,l,()) f).1,(qgd (t,l,()) f).2,()):=by
 unfold qgd
 cases h1 : !(kq f)
 ·refine Fr.br_f (by first | rfl | exact h1) ?_
  cases h2:decide (((List.length l:Nat):Int) ≥ 2000)
  ·refine Fr.br_f (by first | rfl | exact h2) ?_
   have hl:l.length < 2000:=by have:=of_decide_eq_false h2; omega
   refine Fr.need_ (yio hl) ?_
   cases h3:qwl l f
   ·refine Fr.br_f ((zpl l f hl).trans h3) ?_
    cases h4:zg5 l f
    ·refine Fr.br_f h4 (Fr.need_ ⟨Int.le_refl _,by omega,Int.le_refl _,rfl⟩ (Fr.need_ hf (Fr.need_ ⟨Nat.one_pos,?_,?_⟩ ⟨trivial,?_⟩)))
     ·show (List.take (((List.length l:Nat):Int) - 0).toNat (List.drop 0 l)).length+1<=maxLen
      rw [List.length_take,List.length_drop]; unfold maxLen; omega
     ·show ((List.take (((List.length l:Nat):Int) - 0).toNat (List.drop 0 l)).length+1) * 344<=140737488355328
      rw [List.length_take,List.length_drop]; omega
     ·show ((t,List.take (((List.length l:Nat):Int) - 0).toNat (List.drop 0 l)++[f],()),0,())=_
      rw [List.drop_zero,List.take_of_length_le (by omega)]
      rfl
    ·exact Fr.br_t h4 ⟨trivial,rfl⟩
   ·exact Fr.br_t ((zpl l f hl).trans h3) ⟨trivial,rfl⟩
  ·exact Fr.br_t (by first | rfl | exact h2) ⟨trivial,rfl⟩
 ·exact Fr.br_t (by first | rfl | exact h1) ⟨trivial,rfl⟩
theorem yhy:qa Tryz.prog 50 qv3:=conv zr6 _ _ (fun _ _ x _ _ h=>yhx x.1.1 x.1.2.1 x.2.1 h)
def qwx (j:jourT.den) (b:Int):jourT.den:=(j.1,j.2.1.filter (fun f=>decide (zj f<=b)),())
theorem zp9 (b:Int) (q r:jourT.den):(l a:List factT.den)->(∀ f ∈ l,qhb f)->a.length+l.length<=100000->okF vw l ((b,()),q,r,a,())/\goF vw l ((b,()),q,r,a,())=((b,()),q,r,a++l.filter (fun f=>decide (zj f<=b)),())
 |[],a,_,_=>⟨trivial,by rw [List.filter_nil,List.append_nil]; rfl⟩
 |e :: l,a,hf,hl=>by
  rw [List.length_cons] at hl
  have hs:(vw e ((b,()),q,r,a,())).ok/\(vw e ((b,()),q,r,a,())).get=((b,()),q,r,(if zj e<=b then a++[e] else a),()):=by
   by_cases h:zj e<=b
   ·rw [if_pos h]
    refine Fr.br_t (decide_eq_true h) (Fr.need_ (hf e List.mem_cons_self) (Fr.need_ ⟨?_,?_⟩ ⟨trivial,rfl⟩))
    ·show a.length+1<=maxLen
     unfold maxLen; omega
    ·show (a.length+1) * 344<=140737488355328
     omega
   ·rw [if_neg h]
    exact Fr.br_f (decide_eq_false h) ⟨trivial,rfl⟩
  have h2:=zp9 b q r l (if zj e<=b then a++[e] else a) (fun f hf'=>hf f (List.mem_cons_of_mem _ hf')) (by split<;>first | omega | (rw [List.length_append,List.length_singleton]; omega))
  refine ⟨⟨hs.1,?_⟩,?_⟩
  ·rw [hs.2]; exact h2.1
  ·show goF vw l (vw e ((b,()),q,r,a,())).get=_
   rw [hs.2,h2.2]
   by_cases h:zj e<=b
   ·rw [if_pos h,List.filter_cons_of_pos (by simpa using h),List.append_assoc]; rfl
   ·rw [if_neg h,List.filter_cons_of_neg (by simpa using h)]
def qtx:Ct:=⟨[.d jourT,.d i64],[jourT],fun x=>(qwx x.1 x.2.1,()),fun x=>[∀ f ∈ x.1.2.1,qhb f,List.length (α:=factT.den) x.1.2.1<=100000]⟩
theorem yby (t:zd.den) (l:List factT.den) (b:Int) (hf:∀ f ∈ l,qhb f) (hl:l.length<=100000):(qr8 ((t,l,()),b,())).ok/\(qr8 ((t,l,()),b,())).get=(qwx (t,l,()) b,()):=by
 have hg:=zp9 b (t,l,()) j00 (List.drop 0 l) [] (by rw [List.drop_zero]; exact hf) (by rw [List.drop_zero]; simp; omega)
 refine Fr.need_ ⟨rfl,Int.le_refl _,Int.natCast_nonneg _,?_⟩ (Fr.need_ hg.1 ⟨trivial,?_⟩)
 ·show ((List.length l:Nat):Int)<=_
  omega
 ·show ((((goF vw (List.drop 0 l) ((b,()),(t,l,()),j00,[],())).2.1.1.1,()),(goF vw (List.drop 0 l) ((b,()),(t,l,()),j00,[],())).2.2.2.1,()),())=_
  rw [hg.2,List.drop_zero,List.nil_append]
  rfl
theorem ybz:qa Tryz.prog 19 qtx:=conv znd _ _ (fun _ _ x _ _ h=>yby x.1.1 x.1.2.1 x.2.1 h.1 h.2)
noncomputable def yqx:Cx:=cx [(50,qv3),(17,qde),(14,cDo)] []
theorem ygm:CxOK Tryz.prog yqx:=zb (cs:=[(50,qv3),(17,qde),(14,cDo)]) (ps:=[]) qv ⟨yhy,zxy,zgq,trivial⟩ trivial
def zws (x:qm [.d jourT,.d factT]):Fr (qi [jourT,i64]):=
 Fr.need (qhb x.2.1) (Fr.br ((qv3.f x).2.1 != 0) (Fr.val ((([],()),[],()),(qv3.f x).2.1,())) (Fr.need (jq (x.1.1.1,())) (Fr.br ((qde.f (x.1,292194,())).2.1 != 0) (Fr.val ((([],()),[],()),(qde.f (x.1,292194,())).2.1,())) (Fr.need (yd (qde.f (x.1,292194,())).1) (Fr.br ((cDo.f ((qde.f (x.1,292194,())).1,x.2.1,())).2.1 != 0) (Fr.val ((([],()),[],()),(cDo.f ((qde.f (x.1,292194,())).1,x.2.1,())).2.1,())) (Fr.val ((qv3.f x).1,0,())))))))
theorem zwt:qa Tryz.prog 23 ⟨[.d jourT,.d factT],[jourT,i64],fun xs=>(zws xs).get,fun xs=>[(zws xs).ok]⟩:=
 qg ygm (Λ:=qp) (fn:=Tryz.f23) (dfP [.d jourT,.d factT]) (by kernel_rfl) (fun c E _=>qd c 0) (fun x=>by kernel_rfl)
def qca (j:jourT.den) (f:factT.den):jourT.den × Int:=
 bif (qgd j f).2 != 0 then (j00,(qgd j f).2) else bif (ofJ j 292194).2 != 0 then (j00,(ofJ j 292194).2) else bif (wg (ofJ j 292194).1 f).2 != 0 then (j00,(wg (ofJ j 292194).1 f).2) else ((qgd j f).1,0)
theorem zo3 {j:jourT.den} (b:Int) (h:jq j.1):yd (ofJ j b).1:=by
 unfold ofJ
 cases decide (((List.length (α:=factT.den) j.2.1:Nat):Int) > 2000)
 ·exact zi8 _ (qq2 h)
 ·exact ⟨⟨Nat.zero_le _,fun v hv=>by cases hv⟩,Nat.zero_le _,Nat.zero_le _,fun a ha=>by cases ha⟩
def qhu:Ct:=⟨[.d jourT,.d factT],[jourT,i64],fun x=>((qca x.1 x.2.1).1,(qca x.1 x.2.1).2,()),fun x=>[qhb x.2.1,jq x.1.1]⟩
theorem yjy:qa Tryz.prog 23 qhu:=conv zwt _ _ (fun _ _ x _ _ h=>by
 obtain ⟨j,f,_⟩:=x
 obtain ⟨hf,ht⟩:qhb f/\jq j.1:=h
 show _/\_=((qca j f).1,(qca j f).2,())
 unfold qca
 refine Fr.need_ hf ?_
 cases h1:(qgd j f).2 != 0
 ·refine Fr.br_f (by first | rfl | exact h1) (Fr.need_ ht ?_)
  cases h2:(ofJ j 292194).2 != 0
  ·refine Fr.br_f (by first | rfl | exact h2) (Fr.need_ (zo3 _ ht) ?_)
   cases h3:(wg (ofJ j 292194).1 f).2 != 0
   ·exact Fr.br_f (by first | rfl | exact h3) ⟨trivial,rfl⟩
   ·exact Fr.br_t (by first | rfl | exact h3) ⟨trivial,rfl⟩
  ·exact Fr.br_t (by first | rfl | exact h2) ⟨trivial,rfl⟩
 ·exact Fr.br_t (by first | rfl | exact h1) ⟨trivial,rfl⟩)
noncomputable def zqh:Cx:=cx [] []
theorem qcq:CxOK Tryz.prog zqh:=zb (cs:=[]) (ps:=[]) qv trivial trivial
def zo7 (x:qm []):Fr (qi [zd]):=
 Fr.val (([(1,(100,100,100,100,()),[],[10000],[10000,10000,10000,10000,10000,10000,10000,10000],0,())],()),())
theorem zr9:qa Tryz.prog 29 ⟨[],[zd],fun xs=>(zo7 xs).get,fun xs=>[(zo7 xs).ok]⟩:=
 qg qcq (Λ:=qp) (fn:=Tryz.f29) (dfP []) (by kernel_rfl) (fun c E _=>qd c 0) (fun x=>by kernel_rfl)
def zjc (x:qm [.d i64]):Fr (qi [factT]):=
 Fr.val ((1,1,x.1,0,0,((1,101,()),(0,36500,0,0,()),[(1,1000,1000,0,10000,())],()),(0,0,0,(0,0,0,0,()),[],0,()),(0,0,0,0,0,0,()),(0,0,0,()),(0,0,(0,0,()),0,0,0,0,0,()),()),())
theorem zna:qa Tryz.prog 30 ⟨[.d i64],[factT],fun xs=>(zjc xs).get,fun xs=>[(zjc xs).ok]⟩:=
 qg qcq (Λ:=qp) (fn:=Tryz.f30) (dfP [.d i64]) (by kernel_rfl) (fun c E _=>qd c 0) (fun x=>by kernel_rfl)
def zje (x:qm [.d factT]):Fr (qi [.bool]):=
 Fr.val (bif decide (((List.length x.1.2.2.2.2.2.1.2.2.1):Int)<=50) then decide (((List.length x.1.2.2.2.2.2.2.1.2.2.2.2.1):Int)<=50) else false,())
theorem znc:qa Tryz.prog 12 ⟨[.d factT],[.bool],fun xs=>(zje xs).get,fun xs=>[(zje xs).ok]⟩:=
 qg qcq (Λ:=qp) (fn:=Tryz.f12) (dfP [.d factT]) (by kernel_rfl) (fun c E _=>qd c 0) (fun x=>by kernel_rfl)
def zd1 (x:qm [.d factT]):Fr (qi [.bool]):=
 Fr.val (bif decide (((List.length x.1.2.2.2.2.2.1.2.2.1):Int)<=50) then decide (((List.length x.1.2.2.2.2.2.2.1.2.2.2.2.1):Int)<=50) else false,())
theorem zjf:qa Tryz.prog 40 ⟨[.d factT],[.bool],fun xs=>(zd1 xs).get,fun xs=>[(zd1 xs).ok]⟩:=
 qg qcq (Λ:=qp) (fn:=Tryz.f40) (dfP [.d factT]) (by kernel_rfl) (fun c E _=>qd c 0) (fun x=>by kernel_rfl)
abbrev T28:zd.den:=([(1,(100,100,100,100,()),[],[10000],[10000,10000,10000,10000,10000,10000,10000,10000],0,())],())
abbrev zhv (id:Int):factT.den:=(1,1,id,0,0,((1,101,()),(0,36500,0,0,()),[(1,1000,1000,0,10000,())],()),(0,0,0,(0,0,0,0,()),[],0,()),(0,0,0,0,0,0,()),(0,0,0,()),(0,0,(0,0,()),0,0,0,0,0,()),())
def zig:Ct:=⟨[],[zd],fun _=>(T28,()),fun _=>[]⟩
def zb0:Ct:=⟨[.d i64],[factT],fun x=>(zhv x.1,()),fun _=>[]⟩
def qf6 (f:factT.den):Bool:=bif decide (((List.length (qhj f).2.2.1:Nat):Int)<=50) then decide (((List.length (qec f).2.2.2.2.1:Nat):Int)<=50) else false
def qi2:Ct:=⟨[.d factT],[.bool],fun x=>(qf6 x.1,()),fun _=>[]⟩
theorem yek:qa Tryz.prog 29 zig:=conv zr9 _ _ (fun _ _ _ _ _ _=>⟨trivial,rfl⟩)
theorem zvh:qa Tryz.prog 30 zb0:=conv zna _ _ (fun _ _ _ _ _ _=>⟨trivial,rfl⟩)
theorem ybk:qa Tryz.prog 12 qi2:=conv znc _ _ (fun _ _ _ _ _ _=>⟨trivial,rfl⟩)
theorem zwr:qa Tryz.prog 40 qi2:=conv zjf _ _ (fun _ _ _ _ _ _=>⟨trivial,rfl⟩)
theorem qr7 {f:factT.den} (h:qf6 f=true):qhb f:=by
 unfold qf6 at h
 rw [qfx,Bool.and_eq_true] at h
 have h1:=of_decide_eq_true h.1
 have h2:=of_decide_eq_true h.2
 exact ⟨by omega,by omega⟩
noncomputable def yo9:Cx:=cx [(29,zig),(30,zb0),(28,qrr),(14,cDo),(21,qy4),(31,zh8)] []
theorem zzv:CxOK Tryz.prog yo9:=zb (cs:=[(29,zig),(30,zb0),(28,qrr),(14,cDo),(21,qy4),(31,zh8)]) (ps:=[]) qv ⟨yek,zvh,zxs,zgq,zhp,ybr,trivial⟩ trivial
def zju (_:qm []):Fr (qi [.bool]):=Fr.need (yd (qia T28)) (Fr.need (yd (wg (qia T28) (zhv 1)).1) (Fr.need (yd (wg (qia T28) (zhv 1)).1) (Fr.val (true,()))))
theorem yag:qa Tryz.prog 10 ⟨[],[.bool],fun xs=>(zju xs).get,fun xs=>[(zju xs).ok]⟩:=
 qg zzv (Λ:=qp) (fn:=Tryz.f10) (fr:=zju) (ps:=[]) (rs:=[.bool]) () (by kernel_rfl) (fun c E _=>qd c 0) (fun x=>by kernel_rfl)
def qlb:Ct:=⟨[],[.bool],fun _=>(true,()),fun _=>[]⟩
theorem zi7:jq T28:=by
 refine ⟨by decide,fun v hv=>?_⟩
 simp only [T28,List.mem_cons,List.not_mem_nil,or_false] at hv
 subst hv
 exact ⟨by decide,by decide,by decide⟩
theorem zd0 {s:qj.den} (f:factT.den) (h:yd s):yd (wg s f).1:=by
 have z:yd s00:=⟨⟨Nat.zero_le _,fun v hv=>by cases hv⟩,Nat.zero_le _,Nat.zero_le _,fun a ha=>by cases ha⟩
 unfold wg
 cases qhc s f != 0
 ·cases (doF s f).2 != 0
  ·exact zwq f h
  ·exact z
 ·exact z
theorem zqt:qa Tryz.prog 10 qlb:=
 conv yag _ _ (fun _ _ _ _ _ _=>Fr.need_ (qq2 zi7) (Fr.need_ (zd0 _ (qq2 zi7)) (Fr.need_ (zd0 _ (qq2 zi7)) ⟨trivial,rfl⟩)))
noncomputable def yqy:Cx:=cx [(40,qi2)] []
theorem ygn:CxOK Tryz.prog yqy:=zb (cs:=[(40,qi2)]) (ps:=[]) qv ⟨zwr,trivial⟩ trivial
abbrev wx:Pt:=⟨36,0,⟨[(6,.d i64)],[.x 2 64 jourT,.r 2 2 0]⟩,⟨[],[]⟩,⟨[(4,.d .bool)],[]⟩⟩
def zj6 (x:wx.M.X):Fr wx.Out:=
 Fr.br (decide (x.1.1 < ((List.length x.2.1.2.1):Int))) (Fr.need (0<=x.1.1/\x.1.1 < ((List.length x.2.1.2.1):Int)) (Fr.br (!(qi2.f ((List.getD x.2.1.2.1 (Int.toNat x.1.1) factT.dflt),())).1) (Fr.val (Rd.back ((false,()),()))) (Fr.val (Rd.next ((IntKind.i64.wrap (x.1.1+1),()),x.2.1,()))))) (Fr.val (Rd.out ((),())))
theorem zyv:qe Tryz.prog (qo Tryz.f16 0) wx.M wx zj6:=
 qe.of_run ygn (bs:=0) (Λ:=qp) rfl rfl rfl (fun E=>qd _ 0) (fun x=>by kernel_rfl)
abbrev qkn:Type:=qm [] × jc [.x 2 64 jourT,.r 2 2 0]
def qcm (e:factT.den) (s:qkn):Fr (qkn ⊕ wx.R.X):=
 Fr.br (!(qi2.f (e,())).1) (Fr.val (.inr ((false,()),()))) (Fr.val (.inl ((),s.2.1,())))
def qc9 (x:wx.M.X):Int × List factT.den × qkn:=(x.1.1,x.2.1.2.1,x.1.2,x.2)
def qmm (x:wx.M.X):Prop:=True
def quz (s:qkn):wx.E.X:=((),())
def qx1:qkn:=(dfP _,dfM _)
def qrx:wx.R.X:=(dfP _,dfM _)
theorem zs5:qe Tryz.prog (.loop (qo Tryz.f16 0)) wx.M wx (FL qcm qc9 qmm quz Rd.back qx1 qrx):=by
 refine qe.list zyv qcm qc9 qmm quz Rd.back qx1 qrx ?_ ?_
 ·rintro ⟨⟨i,s⟩,m⟩ hg h0 h1 hb e he Q h
  have h0:0<=i:=h0
  have h1:i < (m.1.2.1.length:Int):=h1
  have hb:(m.1.2.1.length:Int)<=9223372036854775807:=hb
  have hd:m.1.2.1.getD i.toNat factT.dflt=e:=zr he
  have hw:=zx h0 h1 hb
  dsimp only [qc9,qcm,zj6,Fr.satP] at h ⊢
  simp only [hd,hw] at h ⊢
  refine ⟨fun _=>?_,fun hn=>absurd h1 (of_decide_eq_false hn)⟩
  repeat' first
   |exact h
   |exact ⟨h0,h1⟩
   |exact fun _=>⟨h0,h1⟩
   |exact h _ rfl trivial
   |(refine ⟨fun hc=>?_,fun hc=>?_⟩<;>first | replace h:=h.1 hc | replace h:=h.2 hc)
   |(refine ⟨h.1,?_⟩; replace h:=h.2)
   |refine ⟨⟨h0,h1⟩,?_⟩
   |exact h.1
   |exact h.2.1
   |exact h.2.2.1
   |refine ⟨?_,?_⟩
   |(intro (hc:_=true); replace h:=h.1 hc)
   |(intro (hc:_=false); replace h:=h.2 hc)
   |(replace h:=h.2)
 ·rintro ⟨⟨i,s⟩,m⟩ hg h1 Q h
  exact ⟨fun hn=>absurd (of_decide_eq_true hn) h1,fun _=>h⟩
def ykg (Γ:Gm):St->Option Tr:=wx.han Γ wx.M (FL qcm qc9 qmm quz Rd.back qx1 qrx)
def ze0 (y:wx.M.X):qkn ⊕ wx.R.X:=goL qcm ((qc9 y).2.1.drop (qc9 y).1.toNat) (qc9 y).2.2
def zx0 (y:wx.M.X):Prop:=okL qcm ((qc9 y).2.1.drop (qc9 y).1.toNat) (qc9 y).2.2
abbrev vj:Pt:=⟨38,0,⟨[(5,.d i64)],[.x 2 76 qr,.r 2 2 0,.x 3 76 qr,.r 3 3 0]⟩,⟨[],[]⟩,⟨[(4,.d .bool)],[]⟩⟩
def zed (x:vj.M.X):Fr vj.Out:=
 Fr.br (decide (x.1.1 < ((List.length x.2.1.2.1):Int))) (Fr.need (0<=x.1.1/\x.1.1 < ((List.length x.2.1.2.1):Int)) (Fr.need (0<=x.1.1/\x.1.1 < ((List.length x.2.2.1.2.1):Int)) (Fr.br (!((List.getD x.2.1.2.1 (Int.toNat x.1.1) zf.dflt).1==(List.getD x.2.2.1.2.1 (Int.toNat x.1.1) zf.dflt).1&&((List.getD x.2.1.2.1 (Int.toNat x.1.1) zf.dflt).2.1==(List.getD x.2.2.1.2.1 (Int.toNat x.1.1) zf.dflt).2.1&&((List.getD x.2.1.2.1 (Int.toNat x.1.1) zf.dflt).2.2.1==(List.getD x.2.2.1.2.1 (Int.toNat x.1.1) zf.dflt).2.2.1&&true)))) (Fr.val (Rd.back ((false,()),()))) (Fr.val (Rd.next ((IntKind.i64.wrap (x.1.1+1),()),x.2.1,x.2.2.1,())))))) (Fr.val (Rd.out ((),())))
theorem zuh:qe Tryz.prog (qo Tryz.f39 0) vj.M vj zed:=
 qe.of_run qcq (bs:=0) (Λ:=qp) rfl rfl rfl (fun E=>qd _ 0) (fun x=>by kernel_rfl)
abbrev qit:Type:=qm [] × jc [.x 2 76 qr,.r 2 2 0,.x 3 76 qr,.r 3 3 0]
def qbo (e:(zf.den × zf.den)) (s:qit):Fr (qit ⊕ vj.R.X):=
 Fr.br (!(e.1.1==e.2.1&&(e.1.2.1==e.2.2.1&&(e.1.2.2.1==e.2.2.2.1&&true)))) (Fr.val (.inr ((false,()),()))) (Fr.val (.inl ((),s.2.1,s.2.2.1,())))
def qb0 (x:vj.M.X):Int × List (zf.den × zf.den) × qit:=(x.1.1,x.2.1.2.1.zip x.2.2.1.2.1,x.1.2,x.2)
def qky (x:vj.M.X):Prop:=x.2.1.2.1.length=x.2.2.1.2.1.length
def qsv (s:qit):vj.E.X:=((),())
def qt9:qit:=(dfP _,dfM _)
def qoo:vj.R.X:=(dfP _,dfM _)
theorem znw:qe Tryz.prog (.loop (qo Tryz.f39 0)) vj.M vj (FL qbo qb0 qky qsv Rd.back qt9 qoo):=by
 refine qe.list zuh qbo qb0 qky qsv Rd.back qt9 qoo ?_ ?_
 ·rintro ⟨⟨i,s⟩,m⟩ hg h0 h1 hb e he Q h
  have hz:m.1.2.1.length=m.2.1.2.1.length:=hg
  have h0:0<=i:=h0
  have h1:i < (m.1.2.1.length:Int):=qhq hz h1
  have hb:(m.1.2.1.length:Int)<=9223372036854775807:=qhp hz hb
  have h1z:i < (m.2.1.2.1.length:Int):=by rw [← hz]; exact h1
  have hd:m.1.2.1.getD i.toNat zf.dflt=e.1:=zr (qfi he)
  have hdz:m.2.1.2.1.getD i.toNat zf.dflt=e.2:=zr (qfk he)
  have hw:=zx h0 h1 hb
  dsimp only [qb0,qbo,zed,Fr.satP] at h ⊢
  simp only [hd,hw,hdz] at h ⊢
  refine ⟨fun _=>?_,fun hn=>absurd h1 (of_decide_eq_false hn)⟩
  repeat' first
   |exact h
   |exact ⟨h0,h1⟩
   |exact fun _=>⟨h0,h1⟩
   |exact ⟨h0,h1z⟩
   |exact fun _=>⟨h0,h1z⟩
   |exact h _ rfl hz
   |(refine ⟨fun hc=>?_,fun hc=>?_⟩<;>first | replace h:=h.1 hc | replace h:=h.2 hc)
   |(refine ⟨h.1,?_⟩; replace h:=h.2)
   |refine ⟨⟨h0,h1⟩,?_⟩
   |exact h.1
   |exact h.2.1
   |exact h.2.2.1
   |refine ⟨?_,?_⟩
   |(intro (hc:_=true); replace h:=h.1 hc)
   |(intro (hc:_=false); replace h:=h.2 hc)
   |(replace h:=h.2)
 ·rintro ⟨⟨i,s⟩,m⟩ hg h1 Q h
  have hz:m.1.2.1.length=m.2.1.2.1.length:=hg
  exact ⟨fun hn=>absurd (of_decide_eq_true hn) (qfj hz h1),fun _=>h⟩
def ye6 (Γ:Gm):St->Option Tr:=vj.han Γ vj.M (FL qbo qb0 qky qsv Rd.back qt9 qoo)
def za1 (y:vj.M.X):qit ⊕ vj.R.X:=goL qbo ((qb0 y).2.1.drop (qb0 y).1.toNat) (qb0 y).2.2
def ztg (y:vj.M.X):Prop:=okL qbo ((qb0 y).2.1.drop (qb0 y).1.toNat) (qb0 y).2.2
abbrev vg:Pt:=⟨26,0,⟨[(5,.d i64),(0,.d jd),(1,.d jd)],[]⟩,⟨[],[]⟩,⟨[(4,.d .bool)],[]⟩⟩
def zeb (x:vg.M.X):Fr vg.Out:=
 Fr.br (decide (x.1.1 < ((List.length x.1.2.1):Int))) (Fr.need (0<=x.1.1/\x.1.1 < ((List.length x.1.2.1):Int)) (Fr.need (0<=x.1.1/\x.1.1 < ((List.length x.1.2.2.1):Int)) (Fr.br (List.getD x.1.2.1 (Int.toNat x.1.1) i64.dflt != List.getD x.1.2.2.1 (Int.toNat x.1.1) i64.dflt) (Fr.val (Rd.back ((false,()),()))) (Fr.val (Rd.next ((IntKind.i64.wrap (x.1.1+1),x.1.2.1,x.1.2.2.1,()),())))))) (Fr.val (Rd.out ((),())))
theorem zuf:qe Tryz.prog (qo Tryz.f102 0) vg.M vg zeb:=
 qe.of_run qcq (bs:=0) (Λ:=qp) rfl rfl rfl (fun E=>qd _ 0) (fun x=>by kernel_rfl)
abbrev qir:Type:=qm [.d jd] × jc []
def qbm (e:(i64.den × i64.den)) (s:qir):Fr (qir ⊕ vg.R.X):=
 Fr.br (e.1 != e.2) (Fr.val (.inr ((false,()),()))) (Fr.val (.inl ((s.1.1,()),())))
def qby (x:vg.M.X):Int × List (i64.den × i64.den) × qir:=(x.1.1,x.1.2.1.zip x.1.2.2.1,x.1.2.2,x.2)
def qkw (x:vg.M.X):Prop:=x.1.2.1.length=x.1.2.2.1.length
def qst (s:qir):vg.E.X:=((),())
def qt7:qir:=(dfP _,dfM _)
def qom:vg.R.X:=(dfP _,dfM _)
theorem znu:qe Tryz.prog (.loop (qo Tryz.f102 0)) vg.M vg (FL qbm qby qkw qst Rd.back qt7 qom):=by
 refine qe.list zuf qbm qby qkw qst Rd.back qt7 qom ?_ ?_
 ·rintro ⟨⟨i,l,s⟩,m⟩ hg h0 h1 hb e he Q h
  have hz:l.length=s.1.length:=hg
  have h0:0<=i:=h0
  have h1:i < (l.length:Int):=qhq hz h1
  have hb:(l.length:Int)<=9223372036854775807:=qhp hz hb
  have h1z:i < (s.1.length:Int):=by rw [← hz]; exact h1
  have hd:l.getD i.toNat i64.dflt=e.1:=zr (qfi he)
  have hdz:s.1.getD i.toNat i64.dflt=e.2:=zr (qfk he)
  have hw:=zx h0 h1 hb
  dsimp only [qby,qbm,zeb,Fr.satP] at h ⊢
  simp only [hd,hw,hdz] at h ⊢
  refine ⟨fun _=>?_,fun hn=>absurd h1 (of_decide_eq_false hn)⟩
  repeat' first
   |exact h
   |exact ⟨h0,h1⟩
   |exact fun _=>⟨h0,h1⟩
   |exact ⟨h0,h1z⟩
   |exact fun _=>⟨h0,h1z⟩
   |exact h _ rfl hz
   |(refine ⟨fun hc=>?_,fun hc=>?_⟩<;>first | replace h:=h.1 hc | replace h:=h.2 hc)
   |(refine ⟨h.1,?_⟩; replace h:=h.2)
   |refine ⟨⟨h0,h1⟩,?_⟩
   |exact h.1
   |exact h.2.1
   |exact h.2.2.1
   |refine ⟨?_,?_⟩
   |(intro (hc:_=true); replace h:=h.1 hc)
   |(intro (hc:_=false); replace h:=h.2 hc)
   |(replace h:=h.2)
 ·rintro ⟨⟨i,l,s⟩,m⟩ hg h1 Q h
  have hz:l.length=s.1.length:=hg
  exact ⟨fun hn=>absurd (of_decide_eq_true hn) (qfj hz h1),fun _=>h⟩
def ye4 (Γ:Gm):St->Option Tr:=vg.han Γ vg.M (FL qbm qby qkw qst Rd.back qt7 qom)
def zaz (y:vg.M.X):qir ⊕ vg.R.X:=goL qbm ((qby y).2.1.drop (qby y).1.toNat) (qby y).2.2
def zte (y:vg.M.X):Prop:=okL qbm ((qby y).2.1.drop (qby y).1.toNat) (qby y).2.2
abbrev jy:Pt:=⟨26,0,⟨[(5,.d i64),(0,.d (.sl qw)),(1,.d (.sl qw))],[]⟩,⟨[],[]⟩,⟨[(4,.d .bool)],[]⟩⟩
def qz4 (x:jy.M.X):Fr jy.Out:=
 Fr.br (decide (x.1.1 < ((List.length x.1.2.1):Int))) (Fr.need (0<=x.1.1/\x.1.1 < ((List.length x.1.2.1):Int)) (Fr.need (0<=x.1.1/\x.1.1 < ((List.length x.1.2.2.1):Int)) (Fr.br (!((List.getD x.1.2.1 (Int.toNat x.1.1) qw.dflt).1==(List.getD x.1.2.2.1 (Int.toNat x.1.1) qw.dflt).1&&((List.getD x.1.2.1 (Int.toNat x.1.1) qw.dflt).2.1==(List.getD x.1.2.2.1 (Int.toNat x.1.1) qw.dflt).2.1&&true))) (Fr.val (Rd.back ((false,()),()))) (Fr.val (Rd.next ((IntKind.i64.wrap (x.1.1+1),x.1.2.1,x.1.2.2.1,()),())))))) (Fr.val (Rd.out ((),())))
theorem zoc:qe Tryz.prog (qo Tryz.f101 0) jy.M jy qz4:=
 qe.of_run qcq (bs:=0) (Λ:=qp) rfl rfl rfl (fun E=>qd _ 0) (fun x=>by kernel_rfl)
abbrev qg4:Type:=qm [.d (.sl qw)] × jc []
def qao (e:(qw.den × qw.den)) (s:qg4):Fr (qg4 ⊕ jy.R.X):=
 Fr.br (!(e.1.1==e.2.1&&(e.1.2.1==e.2.2.1&&true))) (Fr.val (.inr ((false,()),()))) (Fr.val (.inl ((s.1.1,()),())))
def qas (x:jy.M.X):Int × List (qw.den × qw.den) × qg4:=(x.1.1,x.1.2.1.zip x.1.2.2.1,x.1.2.2,x.2)
def qjc (x:jy.M.X):Prop:=x.1.2.1.length=x.1.2.2.1.length
def qqc (s:qg4):jy.E.X:=((),())
def qry:qg4:=(dfP _,dfM _)
def qmh:jy.R.X:=(dfP _,dfM _)
theorem zky:qe Tryz.prog (.loop (qo Tryz.f101 0)) jy.M jy (FL qao qas qjc qqc Rd.back qry qmh):=by
 refine qe.list zoc qao qas qjc qqc Rd.back qry qmh ?_ ?_
 ·rintro ⟨⟨i,l,s⟩,m⟩ hg h0 h1 hb e he Q h
  have hz:l.length=s.1.length:=hg
  have h0:0<=i:=h0
  have h1:i < (l.length:Int):=qhq hz h1
  have hb:(l.length:Int)<=9223372036854775807:=qhp hz hb
  have h1z:i < (s.1.length:Int):=by rw [← hz]; exact h1
  have hd:l.getD i.toNat qw.dflt=e.1:=zr (qfi he)
  have hdz:s.1.getD i.toNat qw.dflt=e.2:=zr (qfk he)
  have hw:=zx h0 h1 hb
  dsimp only [qas,qao,qz4,Fr.satP] at h ⊢
  simp only [hd,hw,hdz] at h ⊢
  refine ⟨fun _=>?_,fun hn=>absurd h1 (of_decide_eq_false hn)⟩
  repeat' first
   |exact h
   |exact ⟨h0,h1⟩
   |exact fun _=>⟨h0,h1⟩
   |exact ⟨h0,h1z⟩
   |exact fun _=>⟨h0,h1z⟩
   |exact h _ rfl hz
   |(refine ⟨fun hc=>?_,fun hc=>?_⟩<;>first | replace h:=h.1 hc | replace h:=h.2 hc)
   |(refine ⟨h.1,?_⟩; replace h:=h.2)
   |refine ⟨⟨h0,h1⟩,?_⟩
   |exact h.1
   |exact h.2.1
   |exact h.2.2.1
   |refine ⟨?_,?_⟩
   |(intro (hc:_=true); replace h:=h.1 hc)
   |(intro (hc:_=false); replace h:=h.2 hc)
   |(replace h:=h.2)
 ·rintro ⟨⟨i,l,s⟩,m⟩ hg h1 Q h
  have hz:l.length=s.1.length:=hg
  exact ⟨fun hn=>absurd (of_decide_eq_true hn) (qfj hz h1),fun _=>h⟩
def zzn (Γ:Gm):St->Option Tr:=jy.han Γ jy.M (FL qao qas qjc qqc Rd.back qry qmh)
def qxi (y:jy.M.X):qg4 ⊕ jy.R.X:=goL qao ((qas y).2.1.drop (qas y).1.toNat) (qas y).2.2
def zn4 (y:jy.M.X):Prop:=okL qao ((qas y).2.1.drop (qas y).1.toNat) (qas y).2.2
noncomputable def yfb:Cx:=cx [(32,zq0)] []
theorem zhk:CxOK Tryz.prog yfb:=zb (cs:=[(32,zq0)]) (ps:=[]) qv ⟨yml,trivial⟩ trivial
def zo5 (x:qm [.d jourT,.d i64]):Fr (qi [.bool]):=
 Fr.br (bif !(zq0.f ((0,0,((0,0,()),(0,0,0,0,()),[],()),[],()),(x.1.1.1,()),())).1 then true else decide (((List.length x.1.2.1):Int) > x.2.1)) (Fr.val (false,())) (Fr.need (InL (qmm ((0,()),x.1,())) (qc9 ((0,()),x.1,()))) (Fr.need (zx0 ((0,()),x.1,())) (Fr.br (isL (ze0 ((0,()),x.1,()))) (Fr.val (true,())) (Fr.val ((jg qrx (ze0 ((0,()),x.1,()))).1.1,())))))
theorem zr4:qa Tryz.prog 16 ⟨[.d jourT,.d i64],[.bool],fun xs=>(zo5 xs).get,fun xs=>[(zo5 xs).ok]⟩:=
 qg zhk (Λ:=(fun _=>ykg yfb.Γ)) (fn:=Tryz.f16) (dfP [.d jourT,.d i64]) (by kernel_rfl) (fun c E hc=>yz hc (by kernel_rfl) (b:=qo Tryz.f16 0) (by kernel_rfl) (qe.han zhk rfl zs5)) (fun x=>by kernel_rfl)
def zd4 (x:qm [.d qr,.d qr]):Fr (qi [.bool]):=
 Fr.br (bif !(x.1.1.1==x.2.1.1.1&&(x.1.1.2.1==x.2.1.1.2.1&&(x.1.1.2.2.1==x.2.1.1.2.2.1&&(x.1.1.2.2.2.1==x.2.1.1.2.2.2.1&&(x.1.1.2.2.2.2.1==x.2.1.1.2.2.2.2.1&&(x.1.1.2.2.2.2.2.1==x.2.1.1.2.2.2.2.2.1&&true)))))) then true else ((List.length x.1.2.1):Int) != ((List.length x.2.1.2.1):Int)) (Fr.val (false,())) (Fr.need (InL (qky ((0,()),x.1,x.2.1,())) (qb0 ((0,()),x.1,x.2.1,()))) (Fr.need (ztg ((0,()),x.1,x.2.1,())) (Fr.br (isL (za1 ((0,()),x.1,x.2.1,()))) (Fr.val (true,())) (Fr.val ((jg qoo (za1 ((0,()),x.1,x.2.1,()))).1.1,())))))
theorem zjl:qa Tryz.prog 39 ⟨[.d qr,.d qr],[.bool],fun xs=>(zd4 xs).get,fun xs=>[(zd4 xs).ok]⟩:=
 qg qcq (Λ:=(fun _=>ye6 zqh.Γ)) (fn:=Tryz.f39) (dfP [.d qr,.d qr]) (by kernel_rfl) (fun c E hc=>yz hc (by kernel_rfl) (b:=qo Tryz.f39 0) (by kernel_rfl) (qe.han qcq rfl znw)) (fun x=>by kernel_rfl)
def zd2 (x:qm [.d jd,.d jd]):Fr (qi [.bool]):=
 Fr.br (((List.length x.1):Int) != ((List.length x.2.1):Int)) (Fr.val (false,())) (Fr.need (InL (qkw ((0,x.1,x.2.1,()),())) (qby ((0,x.1,x.2.1,()),()))) (Fr.need (zte ((0,x.1,x.2.1,()),())) (Fr.br (isL (zaz ((0,x.1,x.2.1,()),()))) (Fr.val (true,())) (Fr.val ((jg qom (zaz ((0,x.1,x.2.1,()),()))).1.1,())))))
theorem zjj:qa Tryz.prog 102 ⟨[.d jd,.d jd],[.bool],fun xs=>(zd2 xs).get,fun xs=>[(zd2 xs).ok]⟩:=
 qg qcq (Λ:=(fun _=>ye4 zqh.Γ)) (fn:=Tryz.f102) (dfP [.d jd,.d jd]) (by kernel_rfl) (fun c E hc=>yz hc (by kernel_rfl) (b:=qo Tryz.f102 0) (by kernel_rfl) (qe.han qcq rfl znu)) (fun x=>by kernel_rfl)
def qzj (x:qm [.d (.sl qw),.d (.sl qw)]):Fr (qi [.bool]):=
 Fr.br (((List.length x.1):Int) != ((List.length x.2.1):Int)) (Fr.val (false,())) (Fr.need (InL (qjc ((0,x.1,x.2.1,()),())) (qas ((0,x.1,x.2.1,()),()))) (Fr.need (zn4 ((0,x.1,x.2.1,()),())) (Fr.br (isL (qxi ((0,x.1,x.2.1,()),()))) (Fr.val (true,())) (Fr.val ((jg qmh (qxi ((0,x.1,x.2.1,()),()))).1.1,())))))
theorem zfo:qa Tryz.prog 101 ⟨[.d (.sl qw),.d (.sl qw)],[.bool],fun xs=>(qzj xs).get,fun xs=>[(qzj xs).ok]⟩:=
 qg qcq (Λ:=(fun _=>zzn zqh.Γ)) (fn:=Tryz.f101) (dfP [.d (.sl qw),.d (.sl qw)]) (by kernel_rfl) (fun c E hc=>yz hc (by kernel_rfl) (b:=qo Tryz.f101 0) (by kernel_rfl) (qe.han qcq rfl zky)) (fun x=>by kernel_rfl)
theorem qko {σ ρ:Type} {good ok:Prop} {g:σ ⊕ ρ} {v:ρ->Bool} {d:ρ} {s1:σ} {c:ρ} {b:Bool} (hg:good) (ho:ok) (h:g=if b=true then .inl s1 else .inr c) (hc:v c=false) :
  (Fr.need good (Fr.need ok (Fr.br (isL g) (Fr.val ((true,()):qi [.bool])) (Fr.val (v (jg d g),()))))).ok/\(Fr.need good (Fr.need ok (Fr.br (isL g) (Fr.val ((true,()):qi [.bool])) (Fr.val (v (jg d g),()))))).get=(b,()):=by
 cases b
 ·have h':g = .inr c:=h
  subst h'
  exact Fr.need_ hg (Fr.need_ ho (Fr.br_f rfl ⟨trivial,by show (v c,())=_; rw [hc]⟩))
 ·have h':g = .inl s1:=h
  subst h'
  exact Fr.need_ hg (Fr.need_ ho (Fr.br_t rfl ⟨trivial,rfl⟩))
theorem qpo {α β:Type} (a:List α) (b:List β) {n:Int} (h:((List.length a:Nat):Int)<=n):((List.length (a.zip b):Nat):Int)<=n:=by
 rw [List.length_zip]; omega
theorem xn {α:Type} {p:α × α->Bool}:(a:List α)->(∀ x ∈ a,p (x,x)=true)->(a.zip a).all p=true
 |[],_=>rfl
 |x :: a,h=>by
  rw [List.zip_cons_cons,List.all_cons,h x List.mem_cons_self,Bool.true_and]
  exact xn a (fun y hy=>h y (List.mem_cons_of_mem _ hy))
def zly (a b:List Int):Bool:=bif ((List.length a:Nat):Int) != ((List.length b:Nat):Int) then false else (a.zip b).all fun e=>!(e.1 != e.2)
def zb3:Ct:=⟨[.d jd,.d jd],[.bool],fun x=>(zly x.1 x.2.1,()),fun _=>[]⟩
theorem qo8 {m n:Nat} (h:(((m:Nat):Int) != ((n:Nat):Int))=false):m=n:=by
 have:((m:Nat):Int)=((n:Nat):Int):=by simpa using h
 omega
theorem zyo:qa Tryz.prog 102 zb3:=conv zjj _ _ (fun w F x vs hr _=>by
 obtain ⟨a,b,_⟩:=x
 obtain ⟨v,vs',rfl,hv,_⟩:=hr
 have hlen:((List.length (α:=Int) a:Nat):Int)<=9223372036854775807:=qcg hv
 show _/\_=(zly a b,())
 unfold zly
 cases h:((List.length (α:=Int) a:Nat):Int) != ((List.length (α:=Int) b:Nat):Int)
 ·refine Fr.br_f h (qko (v:=fun r=>r.1.1) (s1:=((b,()),())) (c:=((false,()),())) ⟨qo8 h,Int.le_refl _,Int.natCast_nonneg _,qpo a b hlen⟩ (qc3 (step:=qbm) _ (fun e _ s=>⟨fun _=>trivial,fun _=>trivial⟩) _) ?_ rfl)
  show goL qbm (List.drop 0 (a.zip b)) _=_
  rw [List.drop_zero,qc2 (step:=qbm) (I:=fun _=>True) (p:=fun e=>!(e.1 != e.2)) (c:=((false,()),())) (fun e s _=>?_) _ _ trivial]
  ·cases (a.zip b).all fun e=>!(e.1 != e.2)<;>rfl
  ·show (Fr.br (e.1 != e.2) _ _).get=_
   cases e.1 != e.2<;>rfl
 ·exact Fr.br_t h ⟨trivial,rfl⟩)
theorem zlz (a:List Int):zly a a=true:=by
 unfold zly
 rw [show (((List.length a:Nat):Int) != ((List.length a:Nat):Int))=false by simp]
 exact xn a (fun x _=>by simp)
def bdE (e:qw.den × qw.den):Bool:=e.1.1==e.2.1&&(e.1.2.1==e.2.2.1&&true)
def zht (a b:List qw.den):Bool:=bif ((List.length a:Nat):Int) != ((List.length b:Nat):Int) then false else (a.zip b).all bdE
def zh0:Ct:=⟨[.d (.sl qw),.d (.sl qw)],[.bool],fun x=>(zht x.1 x.2.1,()),fun _=>[]⟩
theorem zqu:qa Tryz.prog 101 zh0:=conv zfo _ _ (fun w F x vs hr _=>by
 obtain ⟨a,b,_⟩:=x
 obtain ⟨v,vs',rfl,hv,_⟩:=hr
 have hlen:((List.length (α:=qw.den) a:Nat):Int)<=9223372036854775807:=qcg hv
 show _/\_=(zht a b,())
 unfold zht
 cases h:((List.length (α:=qw.den) a:Nat):Int) != ((List.length (α:=qw.den) b:Nat):Int)
 ·refine Fr.br_f h (qko (v:=fun r=>r.1.1) (s1:=((b,()),())) (c:=((false,()),())) ⟨qo8 h,Int.le_refl _,Int.natCast_nonneg _,qpo a b hlen⟩ (qc3 (step:=qao) _ (fun e _ s=>⟨fun _=>trivial,fun _=>trivial⟩) _) ?_ rfl)
  show goL qao (List.drop 0 (a.zip b)) _=_
  rw [List.drop_zero,qc2 (step:=qao) (I:=fun _=>True) (p:=bdE) (c:=((false,()),())) (fun e s _=>?_) _ _ trivial]
  ·cases (a.zip b).all bdE<;>rfl
  ·show (Fr.br (!(bdE e)) _ _).get=_
   cases bdE e<;>rfl
 ·exact Fr.br_t h ⟨trivial,rfl⟩)
theorem yah (a:List qw.den):zht a a=true:=by
 unfold zht
 rw [show (((List.length a:Nat):Int) != ((List.length a:Nat):Int))=false by simp]
 exact xn a (fun x _=>by simp [bdE])
def acE (e:zf.den × zf.den):Bool:=e.1.1==e.2.1&&(e.1.2.1==e.2.2.1&&(e.1.2.2.1==e.2.2.2.1&&true))
def clE (a b:ju.den):Bool:=a.1==b.1&&(a.2.1==b.2.1&&(a.2.2.1==b.2.2.1&&(a.2.2.2.1==b.2.2.2.1&&(a.2.2.2.2.1==b.2.2.2.2.1&&(a.2.2.2.2.2.1==b.2.2.2.2.2.1&&true)))))
def qn4 (a b:qr.den):Bool:=bif bif !(clE a.1 b.1) then true else ((List.length (α:=zf.den) a.2.1:Nat):Int) != ((List.length (α:=zf.den) b.2.1:Nat):Int) then false else (List.zip (α:=zf.den) (β:=zf.den) a.2.1 b.2.1).all acE
def zid:Ct:=⟨[.d qr,.d qr],[.bool],fun x=>(qn4 x.1 x.2.1,()),fun _=>[]⟩
theorem orF {a b:Bool} (h:(bif a then true else b)=false):a=false/\b=false:=by cases a<;>cases b<;>first | exact ⟨rfl,rfl⟩ | cases h
theorem zyq:qa Tryz.prog 39 zid:=conv zjl _ _ (fun w F x vs hr _=>by
 obtain ⟨a,b,_⟩:=x
 obtain ⟨v,vs',rfl,hv,_⟩:=hr
 have hlen:=zpa hv
 show _/\_=(qn4 a b,())
 unfold qn4
 cases h:(bif !(clE a.1 b.1) then true else ((List.length (α:=zf.den) a.2.1:Nat):Int) != ((List.length (α:=zf.den) b.2.1:Nat):Int))
 ·refine Fr.br_f h (qko (v:=fun r=>r.1.1) (s1:=((),a,b,())) (c:=((false,()),())) ⟨qo8 (orF h).2,Int.le_refl _,Int.natCast_nonneg _,qpo _ _ hlen⟩ (qc3 (step:=qbo) _ (fun e _ s=>⟨fun _=>trivial,fun _=>trivial⟩) _) ?_ rfl)
  show goL qbo (List.drop 0 (List.zip (α:=zf.den) (β:=zf.den) a.2.1 b.2.1)) _=_
  rw [List.drop_zero,qc2 (step:=qbo) (I:=fun _=>True) (p:=acE) (c:=((false,()),())) (fun e s _=>?_) _ _ trivial]
  ·cases (List.zip (α:=zf.den) (β:=zf.den) a.2.1 b.2.1).all acE<;>rfl
  ·show (Fr.br (!(acE e)) _ _).get=_
   cases acE e<;>rfl
 ·exact Fr.br_t h ⟨trivial,rfl⟩)
theorem ydy (a:qr.den):qn4 a a=true:=by
 unfold qn4
 rw [show (bif !(clE a.1 a.1) then true else ((List.length (α:=zf.den) a.2.1:Nat):Int) != ((List.length (α:=zf.den) a.2.1:Nat):Int))=false by simp [clE]]
 exact xn (α:=zf.den) a.2.1 (fun x _=>by simp [acE])
def qx4 (j:jourT.den) (n:Int):Bool:=bif bif !(qr6 h00 j.1) then true else decide (((List.length (α:=factT.den) j.2.1:Nat):Int) > n) then false else j.2.1.all qf6
def zgj:Ct:=⟨[.d jourT,.d i64],[.bool],fun x=>(qx4 x.1 x.2.1,()),fun _=>[]⟩
theorem yhs:qa Tryz.prog 16 zgj:=conv zr4 _ _ (fun w F x vs hr _=>by
 obtain ⟨j,n,_⟩:=x
 obtain ⟨v,vs',rfl,hv,_⟩:=hr
 have hlen:=zpi hv
 show _/\_=(qx4 j n,())
 unfold qx4
 cases h:(bif !(qr6 h00 j.1) then true else decide (((List.length (α:=factT.den) j.2.1:Nat):Int) > n))
 ·refine Fr.br_f h (qko (v:=fun r=>r.1.1) (s1:=((),j,())) (c:=((false,()),())) ⟨trivial,Int.le_refl _,Int.natCast_nonneg _,hlen⟩ (qc3 (step:=qcm) _ (fun e _ s=>⟨fun _=>trivial,fun _=>trivial⟩) _) ?_ rfl)
  show goL qcm (List.drop 0 j.2.1) _=_
  rw [List.drop_zero,qc2 (step:=qcm) (I:=fun _=>True) (p:=qf6) (c:=((false,()),())) (fun e s _=>?_) _ _ trivial]
  ·cases j.2.1.all qf6<;>rfl
  ·show (Fr.br (!(qf6 e)) _ _).get=_
   cases qf6 e<;>rfl
 ·exact Fr.br_t h ⟨trivial,rfl⟩)
theorem zi6 {j:jourT.den} {n:Int} (h:qx4 j n=true):jq j.1/\((List.length (α:=factT.den) j.2.1:Nat):Int)<=n/\∀ f ∈ j.2.1,qf6 f=true:=by
 unfold qx4 at h
 cases h1:(bif !(qr6 h00 j.1) then true else decide (((List.length (α:=factT.den) j.2.1:Nat):Int) > n))
 ·rw [h1] at h
  obtain ⟨h2,h3⟩:=orF h1
  have h4:qr6 h00 j.1=true:=by simpa using h2
  exact ⟨(zwm h4).2,by have:=of_decide_eq_false h3; omega,List.all_eq_true.mp h⟩
 ·rw [h1] at h; cases h
noncomputable def yqz:Cx:=cx [(103,qe6),(102,zb3),(101,zh0)] []
theorem zbr:CxOK Tryz.prog yqz:=zb (cs:=[(103,qe6),(102,zb3),(101,zh0)]) (ps:=[]) qv ⟨za3,zyo,zqu,trivial⟩ trivial
def qsa (x:qm [.d qt,.d qt]):Fr (qi [.bool]):=
 Fr.val (bif bif bif bif bif x.1.1==x.2.1.1 then x.1.2.1.1==x.2.1.2.1.1&&(x.1.2.1.2.1==x.2.1.2.1.2.1&&(x.1.2.1.2.2.1==x.2.1.2.1.2.2.1&&(x.1.2.1.2.2.2.1==x.2.1.2.1.2.2.2.1&&true))) else false then x.1.2.2.2.2.2.1==x.2.1.2.2.2.2.2.1 else false then (zh0.f (x.1.2.2.1,x.2.1.2.2.1,())).1 else false then (zb3.f (x.1.2.2.2.1,x.2.1.2.2.2.1,())).1 else false then (zb3.f (x.1.2.2.2.2.1,x.2.1.2.2.2.2.1,())).1 else false,())
theorem zng:qa Tryz.prog 64 ⟨[.d qt,.d qt],[.bool],fun xs=>(qsa xs).get,fun xs=>[(qsa xs).ok]⟩:=
 qg zbr (Λ:=qp) (fn:=Tryz.f64) (dfP [.d qt,.d qt]) (by kernel_rfl) (fun c E _=>qd c 0) (fun x=>by kernel_rfl)
def qov (x:qm [.d qc,.d qc]):Fr (qi [.bool]):=
 Fr.val (bif bif bif bif bif (qe6.f (x.1.2.2.2.2.1,x.2.1.2.2.2.2.1,())).1 then x.1.1==x.2.1.1 else false then x.1.2.1==x.2.1.2.1 else false then x.1.2.2.1==x.2.1.2.2.1 else false then x.1.2.2.2.1.1==x.2.1.2.2.2.1.1&&(x.1.2.2.2.1.2.1==x.2.1.2.2.2.1.2.1&&(x.1.2.2.2.1.2.2.1==x.2.1.2.2.2.1.2.2.1&&(x.1.2.2.2.1.2.2.2.1==x.2.1.2.2.2.1.2.2.2.1&&true))) else false then x.1.2.2.2.2.2.1==x.2.1.2.2.2.2.2.1 else false,())
theorem zjm:qa Tryz.prog 66 ⟨[.d qc,.d qc],[.bool],fun xs=>(qov xs).get,fun xs=>[(qov xs).ok]⟩:=
 qg zbr (Λ:=qp) (fn:=Tryz.f66) (dfP [.d qc,.d qc]) (by kernel_rfl) (fun c E _=>qd c 0) (fun x=>by kernel_rfl)
def qow (x:qm [.d zo,.d zo]):Fr (qi [.bool]):=
 Fr.val (bif bif (qe6.f (x.1.2.2.1,x.2.1.2.2.1,())).1 then x.1.1.1==x.2.1.1.1&&(x.1.1.2.1==x.2.1.1.2.1&&true) else false then x.1.2.1.1==x.2.1.2.1.1&&(x.1.2.1.2.1==x.2.1.2.1.2.1&&(x.1.2.1.2.2.1==x.2.1.2.1.2.2.1&&(x.1.2.1.2.2.2.1==x.2.1.2.1.2.2.2.1&&true))) else false,())
theorem zjo:qa Tryz.prog 65 ⟨[.d zo,.d zo],[.bool],fun xs=>(qow xs).get,fun xs=>[(qow xs).ok]⟩:=
 qg zbr (Λ:=qp) (fn:=Tryz.f65) (dfP [.d zo,.d zo]) (by kernel_rfl) (fun c E _=>qd c 0) (fun x=>by kernel_rfl)
def svF (a b:qt.den):Bool:=(qsa (a,b,())).get.1
def qvg (a b:qc.den):Bool:=(qov (a,b,())).get.1
def zuo (a b:zo.den):Bool:=(qow (a,b,())).get.1
def cSV:Ct:=⟨[.d qt,.d qt],[.bool],fun x=>(svF x.1 x.2.1,()),fun _=>[]⟩
def zie:Ct:=⟨[.d qc,.d qc],[.bool],fun x=>(qvg x.1 x.2.1,()),fun _=>[]⟩
def zq5:Ct:=⟨[.d zo,.d zo],[.bool],fun x=>(zuo x.1 x.2.1,()),fun _=>[]⟩
theorem yqi:qa Tryz.prog 64 cSV:=conv zng _ _ (fun _ _ _ _ _ _=>⟨trivial,rfl⟩)
theorem yn9:qa Tryz.prog 66 zie:=conv zjm _ _ (fun _ _ _ _ _ _=>⟨trivial,rfl⟩)
theorem yoj:qa Tryz.prog 65 zq5:=conv zjo _ _ (fun _ _ _ _ _ _=>⟨trivial,rfl⟩)
theorem za4 (l:List qb.den):qal l l=true:=by
 rw [qph rfl]
 exact xn l (fun x _=>by simp [qcr])
theorem qye (b:Bool):(Fr.val ((b,()):qi [.bool])).get.1=b:=rfl
theorem yj3 (a:qt.den):svF a a=true:=by
 have h1:=yah a.2.2.1
 have h2:=zlz a.2.2.2.1
 have h3:=zlz a.2.2.2.2.1
 unfold svF qsa
 rw [qye]
 simp only [zh0,zb3,qfx]
 rw [h1,h2,h3]
 simp
theorem ydz (a:qc.den):qvg a a=true:=by
 have h1:=za4 a.2.2.2.2.1
 unfold qvg qov
 rw [qye]
 simp only [qe6,qfx]
 rw [h1]
 simp
theorem yed (a:zo.den):zuo a a=true:=by
 have h1:=za4 a.2.2.1
 unfold zuo qow
 rw [qye]
 simp only [qe6,qfx]
 rw [h1]
 simp
noncomputable def yq0:Cx:=cx [(64,cSV),(66,zie)] []
theorem zom:CxOK Tryz.prog yq0:=zb (cs:=[(64,cSV),(66,zie)]) (ps:=[]) qv ⟨yqi,yn9,trivial⟩ trivial
abbrev vi:Pt:=⟨32,0,⟨[(5,.d i64)],[.x 2 24 zd,.r 2 2 0,.x 3 24 zd,.r 3 3 0]⟩,⟨[],[]⟩,⟨[(4,.d .bool)],[]⟩⟩
def zec (x:vi.M.X):Fr vi.Out:=
 Fr.br (decide (x.1.1 < ((List.length x.2.1.1):Int))) (Fr.need (0<=x.1.1/\x.1.1 < ((List.length x.2.1.1):Int)) (Fr.need (0<=x.1.1/\x.1.1 < ((List.length x.2.2.1.1):Int)) (Fr.br (!(cSV.f ((List.getD x.2.1.1 (Int.toNat x.1.1) qt.dflt),(List.getD x.2.2.1.1 (Int.toNat x.1.1) qt.dflt),())).1) (Fr.val (Rd.back ((false,()),()))) (Fr.val (Rd.next ((IntKind.i64.wrap (x.1.1+1),()),(x.2.1.1,()),(x.2.2.1.1,()),())))))) (Fr.val (Rd.out ((),())))
theorem zug:qe Tryz.prog (qo Tryz.f37 0) vi.M vi zec:=
 qe.of_run zom (bs:=0) (Λ:=qp) rfl rfl rfl (fun E=>qd _ 0) (fun x=>by kernel_rfl)
abbrev qis:Type:=qm [] × jc [.x 2 24 zd,.r 2 2 0,.x 3 24 zd,.r 3 3 0]
def qbn (e:(qt.den × qt.den)) (s:qis):Fr (qis ⊕ vi.R.X):=
 Fr.br (!(cSV.f (e.1,e.2,())).1) (Fr.val (.inr ((false,()),()))) (Fr.val (.inl ((),(s.2.1.1,()),(s.2.2.1.1,()),())))
def qbz (x:vi.M.X):Int × List (qt.den × qt.den) × qis:=(x.1.1,x.2.1.1.zip x.2.2.1.1,x.1.2,x.2)
def qkx (x:vi.M.X):Prop:=x.2.1.1.length=x.2.2.1.1.length
def qsu (s:qis):vi.E.X:=((),())
def qt8:qis:=(dfP _,dfM _)
def qon:vi.R.X:=(dfP _,dfM _)
theorem znv:qe Tryz.prog (.loop (qo Tryz.f37 0)) vi.M vi (FL qbn qbz qkx qsu Rd.back qt8 qon):=by
 refine qe.list zug qbn qbz qkx qsu Rd.back qt8 qon ?_ ?_
 ·rintro ⟨⟨i,s⟩,m⟩ hg h0 h1 hb e he Q h
  have hz:m.1.1.length=m.2.1.1.length:=hg
  have h0:0<=i:=h0
  have h1:i < (m.1.1.length:Int):=qhq hz h1
  have hb:(m.1.1.length:Int)<=9223372036854775807:=qhp hz hb
  have h1z:i < (m.2.1.1.length:Int):=by rw [← hz]; exact h1
  have hd:m.1.1.getD i.toNat qt.dflt=e.1:=zr (qfi he)
  have hdz:m.2.1.1.getD i.toNat qt.dflt=e.2:=zr (qfk he)
  have hw:=zx h0 h1 hb
  dsimp only [qbz,qbn,zec,Fr.satP] at h ⊢
  simp only [hd,hw,hdz] at h ⊢
  refine ⟨fun _=>?_,fun hn=>absurd h1 (of_decide_eq_false hn)⟩
  repeat' first
   |exact h
   |exact ⟨h0,h1⟩
   |exact fun _=>⟨h0,h1⟩
   |exact ⟨h0,h1z⟩
   |exact fun _=>⟨h0,h1z⟩
   |exact h _ rfl hz
   |(refine ⟨fun hc=>?_,fun hc=>?_⟩<;>first | replace h:=h.1 hc | replace h:=h.2 hc)
   |(refine ⟨h.1,?_⟩; replace h:=h.2)
   |refine ⟨⟨h0,h1⟩,?_⟩
   |exact h.1
   |exact h.2.1
   |exact h.2.2.1
   |refine ⟨?_,?_⟩
   |(intro (hc:_=true); replace h:=h.1 hc)
   |(intro (hc:_=false); replace h:=h.2 hc)
   |(replace h:=h.2)
 ·rintro ⟨⟨i,s⟩,m⟩ hg h1 Q h
  have hz:m.1.1.length=m.2.1.1.length:=hg
  exact ⟨fun hn=>absurd (of_decide_eq_true hn) (qfj hz h1),fun _=>h⟩
def ye5 (Γ:Gm):St->Option Tr:=vi.han Γ vi.M (FL qbn qbz qkx qsu Rd.back qt8 qon)
def za0 (y:vi.M.X):qis ⊕ vi.R.X:=goL qbn ((qbz y).2.1.drop (qbz y).1.toNat) (qbz y).2.2
def ztf (y:vi.M.X):Prop:=okL qbn ((qbz y).2.1.drop (qbz y).1.toNat) (qbz y).2.2
abbrev vk:Pt:=⟨58,0,⟨[(6,.d i64)],[.x 2 54 ql,.r 2 2 0,.x 3 54 ql,.r 3 3 0]⟩,⟨[],[]⟩,⟨[(4,.d .bool)],[]⟩⟩
def zee (x:vk.M.X):Fr vk.Out:=
 Fr.br (decide (x.1.1 < ((List.length x.2.1.2.2.2.1):Int))) (Fr.need (0<=x.1.1/\x.1.1 < ((List.length x.2.1.2.2.2.1):Int)) (Fr.need (0<=x.1.1/\x.1.1 < ((List.length x.2.2.1.2.2.2.1):Int)) (Fr.br (!(zie.f ((List.getD x.2.1.2.2.2.1 (Int.toNat x.1.1) qc.dflt),(List.getD x.2.2.1.2.2.2.1 (Int.toNat x.1.1) qc.dflt),())).1) (Fr.val (Rd.back ((false,()),()))) (Fr.val (Rd.next ((IntKind.i64.wrap (x.1.1+1),()),x.2.1,x.2.2.1,())))))) (Fr.val (Rd.out ((),())))
theorem zui:qe Tryz.prog (qo Tryz.f38 0) vk.M vk zee:=
 qe.of_run zom (bs:=0) (Λ:=qp) rfl rfl rfl (fun E=>qd _ 0) (fun x=>by kernel_rfl)
abbrev qiu:Type:=qm [] × jc [.x 2 54 ql,.r 2 2 0,.x 3 54 ql,.r 3 3 0]
def qbp (e:(qc.den × qc.den)) (s:qiu):Fr (qiu ⊕ vk.R.X):=
 Fr.br (!(zie.f (e.1,e.2,())).1) (Fr.val (.inr ((false,()),()))) (Fr.val (.inl ((),s.2.1,s.2.2.1,())))
def qb1 (x:vk.M.X):Int × List (qc.den × qc.den) × qiu:=(x.1.1,x.2.1.2.2.2.1.zip x.2.2.1.2.2.2.1,x.1.2,x.2)
def qkz (x:vk.M.X):Prop:=x.2.1.2.2.2.1.length=x.2.2.1.2.2.2.1.length
def qsw (s:qiu):vk.E.X:=((),())
def qua:qiu:=(dfP _,dfM _)
def qop:vk.R.X:=(dfP _,dfM _)
theorem znx:qe Tryz.prog (.loop (qo Tryz.f38 0)) vk.M vk (FL qbp qb1 qkz qsw Rd.back qua qop):=by
 refine qe.list zui qbp qb1 qkz qsw Rd.back qua qop ?_ ?_
 ·rintro ⟨⟨i,s⟩,m⟩ hg h0 h1 hb e he Q h
  have hz:m.1.2.2.2.1.length=m.2.1.2.2.2.1.length:=hg
  have h0:0<=i:=h0
  have h1:i < (m.1.2.2.2.1.length:Int):=qhq hz h1
  have hb:(m.1.2.2.2.1.length:Int)<=9223372036854775807:=qhp hz hb
  have h1z:i < (m.2.1.2.2.2.1.length:Int):=by rw [← hz]; exact h1
  have hd:m.1.2.2.2.1.getD i.toNat qc.dflt=e.1:=zr (qfi he)
  have hdz:m.2.1.2.2.2.1.getD i.toNat qc.dflt=e.2:=zr (qfk he)
  have hw:=zx h0 h1 hb
  dsimp only [qb1,qbp,zee,Fr.satP] at h ⊢
  simp only [hd,hw,hdz] at h ⊢
  refine ⟨fun _=>?_,fun hn=>absurd h1 (of_decide_eq_false hn)⟩
  repeat' first
   |exact h
   |exact ⟨h0,h1⟩
   |exact fun _=>⟨h0,h1⟩
   |exact ⟨h0,h1z⟩
   |exact fun _=>⟨h0,h1z⟩
   |exact h _ rfl hz
   |(refine ⟨fun hc=>?_,fun hc=>?_⟩<;>first | replace h:=h.1 hc | replace h:=h.2 hc)
   |(refine ⟨h.1,?_⟩; replace h:=h.2)
   |refine ⟨⟨h0,h1⟩,?_⟩
   |exact h.1
   |exact h.2.1
   |exact h.2.2.1
   |refine ⟨?_,?_⟩
   |(intro (hc:_=true); replace h:=h.1 hc)
   |(intro (hc:_=false); replace h:=h.2 hc)
   |(replace h:=h.2)
 ·rintro ⟨⟨i,s⟩,m⟩ hg h1 Q h
  have hz:m.1.2.2.2.1.length=m.2.1.2.2.2.1.length:=hg
  exact ⟨fun hn=>absurd (of_decide_eq_true hn) (qfj hz h1),fun _=>h⟩
def ye7 (Γ:Gm):St->Option Tr:=vk.han Γ vk.M (FL qbp qb1 qkz qsw Rd.back qua qop)
def za2 (y:vk.M.X):qiu ⊕ vk.R.X:=goL qbp ((qb1 y).2.1.drop (qb1 y).1.toNat) (qb1 y).2.2
def zth (y:vk.M.X):Prop:=okL qbp ((qb1 y).2.1.drop (qb1 y).1.toNat) (qb1 y).2.2
noncomputable def zzw:Cx:=cx [(65,zq5)] []
theorem qvy:CxOK Tryz.prog zzw:=zb (cs:=[(65,zq5)]) (ps:=[]) qv ⟨yoj,trivial⟩ trivial
def zd3 (x:qm [.d zd,.d zd]):Fr (qi [.bool]):=
 Fr.br (((List.length x.1.1):Int) != ((List.length x.2.1.1):Int)) (Fr.val (false,())) (Fr.need (InL (qkx ((0,()),(x.1.1,()),(x.2.1.1,()),())) (qbz ((0,()),(x.1.1,()),(x.2.1.1,()),()))) (Fr.need (ztf ((0,()),(x.1.1,()),(x.2.1.1,()),())) (Fr.br (isL (za0 ((0,()),(x.1.1,()),(x.2.1.1,()),()))) (Fr.val (true,())) (Fr.val ((jg qon (za0 ((0,()),(x.1.1,()),(x.2.1.1,()),()))).1.1,())))))
theorem zjk:qa Tryz.prog 37 ⟨[.d zd,.d zd],[.bool],fun xs=>(zd3 xs).get,fun xs=>[(zd3 xs).ok]⟩:=
 qg qvy (Λ:=(fun _=>ye5 zzw.Γ)) (fn:=Tryz.f37) (dfP [.d zd,.d zd]) (by kernel_rfl) (fun c E hc=>yz hc (by kernel_rfl) (b:=qo Tryz.f37 0) (by kernel_rfl) (qe.han qvy rfl znv)) (fun x=>by kernel_rfl)
def zd5 (x:qm [.d ql,.d ql]):Fr (qi [.bool]):=
 Fr.br (bif bif bif !(zq5.f (x.1.2.2.1,x.2.1.2.2.1,())).1 then true else x.1.1 != x.2.1.1 then true else x.1.2.1 != x.2.1.2.1 then true else ((List.length x.1.2.2.2.1):Int) != ((List.length x.2.1.2.2.2.1):Int)) (Fr.val (false,())) (Fr.need (InL (qkz ((0,()),x.1,x.2.1,())) (qb1 ((0,()),x.1,x.2.1,()))) (Fr.need (zth ((0,()),x.1,x.2.1,())) (Fr.br (isL (za2 ((0,()),x.1,x.2.1,()))) (Fr.val (true,())) (Fr.val ((jg qop (za2 ((0,()),x.1,x.2.1,()))).1.1,())))))
theorem zjn:qa Tryz.prog 38 ⟨[.d ql,.d ql],[.bool],fun xs=>(zd5 xs).get,fun xs=>[(zd5 xs).ok]⟩:=
 qg qvy (Λ:=(fun _=>ye7 zzw.Γ)) (fn:=Tryz.f38) (dfP [.d ql,.d ql]) (by kernel_rfl) (fun c E hc=>yz hc (by kernel_rfl) (b:=qo Tryz.f38 0) (by kernel_rfl) (qe.han qvy rfl znx)) (fun x=>by kernel_rfl)
def zdd (a b:zd.den):Bool:=bif ((List.length (α:=qt.den) a.1:Nat):Int) != ((List.length (α:=qt.den) b.1:Nat):Int) then false else (List.zip (α:=qt.den) (β:=qt.den) a.1 b.1).all fun e=>svF e.1 e.2
def yav:Ct:=⟨[.d zd,.d zd],[.bool],fun x=>(zdd x.1 x.2.1,()),fun _=>[]⟩
theorem yom {w:World} {F:Nat->Prop} {t:zd.den} {v:Value} (h:zt w F zd t v):((List.length (α:=qt.den) t.1:Nat):Int)<=9223372036854775807:=by
 have h1:List.length (α:=qt.den) t.1<=maxLen:=(qs.wf h.2.2).1.1
 unfold maxLen at h1
 omega
theorem yib {w:World} {F:Nat->Prop} {t:ql.den} {v:Value} (h:zt w F ql t v):((List.length (α:=qc.den) t.2.2.2.1:Nat):Int)<=9223372036854775807:=by
 have h1:List.length (α:=qc.den) t.2.2.2.1<=maxLen:=(qs.wf h.2.2).2.2.2.1.1
 unfold maxLen at h1
 omega
theorem zyp:qa Tryz.prog 37 yav:=conv zjk _ _ (fun w F x vs hr _=>by
 obtain ⟨a,b,_⟩:=x
 obtain ⟨v,vs',rfl,hv,_⟩:=hr
 have hlen:=yom hv
 show _/\_=(zdd a b,())
 unfold zdd
 cases h:((List.length (α:=qt.den) a.1:Nat):Int) != ((List.length (α:=qt.den) b.1:Nat):Int)
 ·refine Fr.br_f h (qko (v:=fun r=>r.1.1) (s1:=((),a,b,())) (c:=((false,()),())) ⟨qo8 h,Int.le_refl _,Int.natCast_nonneg _,qpo _ _ hlen⟩ (qc3 (step:=qbn) _ (fun e _ s=>⟨fun _=>trivial,fun _=>trivial⟩) _) ?_ rfl)
  show goL qbn (List.drop 0 (List.zip (α:=qt.den) (β:=qt.den) a.1 b.1)) _=_
  rw [List.drop_zero,qc2 (step:=qbn) (I:=fun _=>True) (p:=fun e=>svF e.1 e.2) (c:=((false,()),())) (fun e s _=>?_) _ _ trivial]
  ·cases (List.zip (α:=qt.den) (β:=qt.den) a.1 b.1).all fun e=>svF e.1 e.2<;>rfl
  ·show (Fr.br (!(svF e.1 e.2)) _ _).get=_
   cases svF e.1 e.2<;>rfl
 ·exact Fr.br_t h ⟨trivial,rfl⟩)
theorem ydw (a:zd.den):zdd a a=true:=by
 unfold zdd
 rw [show (((List.length (α:=qt.den) a.1:Nat):Int) != ((List.length (α:=qt.den) a.1:Nat):Int))=false by simp]
 exact xn (α:=qt.den) a.1 (fun x _=>yj3 x)
def shB (a b:ql.den):Bool:=bif bif bif !(zuo a.2.2.1 b.2.2.1) then true else a.1 != b.1 then true else a.2.1 != b.2.1 then true else ((List.length (α:=qc.den) a.2.2.2.1:Nat):Int) != ((List.length (α:=qc.den) b.2.2.2.1:Nat):Int)
def shF (a b:ql.den):Bool:=bif shB a b then false else (List.zip (α:=qc.den) (β:=qc.den) a.2.2.2.1 b.2.2.2.1).all fun e=>qvg e.1 e.2
def cSH:Ct:=⟨[.d ql,.d ql],[.bool],fun x=>(shF x.1 x.2.1,()),fun _=>[]⟩
theorem zyr:qa Tryz.prog 38 cSH:=conv zjn _ _ (fun w F x vs hr _=>by
 obtain ⟨a,b,_⟩:=x
 obtain ⟨v,vs',rfl,hv,_⟩:=hr
 have hlen:=yib hv
 show _/\_=(shF a b,())
 unfold shF
 cases h:shB a b
 ·refine Fr.br_f h (qko (v:=fun r=>r.1.1) (s1:=((),a,b,())) (c:=((false,()),())) ⟨qo8 (orF h).2,Int.le_refl _,Int.natCast_nonneg _,qpo _ _ hlen⟩ (qc3 (step:=qbp) _ (fun e _ s=>⟨fun _=>trivial,fun _=>trivial⟩) _) ?_ rfl)
  show goL qbp (List.drop 0 (List.zip (α:=qc.den) (β:=qc.den) a.2.2.2.1 b.2.2.2.1)) _=_
  rw [List.drop_zero,qc2 (step:=qbp) (I:=fun _=>True) (p:=fun e=>qvg e.1 e.2) (c:=((false,()),())) (fun e s _=>?_) _ _ trivial]
  ·cases (List.zip (α:=qc.den) (β:=qc.den) a.2.2.2.1 b.2.2.2.1).all fun e=>qvg e.1 e.2<;>rfl
  ·show (Fr.br (!(qvg e.1 e.2)) _ _).get=_
   cases qvg e.1 e.2<;>rfl
 ·exact Fr.br_t h ⟨trivial,rfl⟩)
theorem yjw (a:ql.den):shF a a=true:=by
 unfold shF
 rw [show shB a a=false by unfold shB; rw [yed]; simp]
 exact xn (α:=qc.den) a.2.2.2.1 (fun x _=>ydz x)
noncomputable def yq1:Cx:=cx [(38,cSH),(39,zid)] []
theorem zbs:CxOK Tryz.prog yq1:=zb (cs:=[(38,cSH),(39,zid)]) (ps:=[]) qv ⟨zyr,zyq,trivial⟩ trivial
abbrev jv:Pt:=⟨127,0,⟨[(6,.d i64)],[.x 2 29 qj,.r 2 2 0,.x 3 29 qj,.r 3 3 0]⟩,⟨[],[.x 2 29 qj,.r 2 2 0,.x 3 29 qj,.r 3 3 0]⟩,⟨[(4,.d .bool)],[]⟩⟩
def zef (x:jv.M.X):Fr jv.Out:=
 Fr.br (decide (x.1.1 < ((List.length x.2.1.2.1):Int))) (Fr.need (0<=x.1.1/\x.1.1 < ((List.length x.2.1.2.1):Int)) (Fr.need (0<=x.1.1/\x.1.1 < ((List.length x.2.2.1.2.1):Int)) (Fr.need ((!(cSH.f ((List.getD x.2.1.2.1 (Int.toNat x.1.1) ze.dflt).1,(List.getD x.2.2.1.2.1 (Int.toNat x.1.1) ze.dflt).1,())).1)=false->0<=x.1.1/\x.1.1 < ((List.length x.2.1.2.1):Int)) (Fr.need ((!(cSH.f ((List.getD x.2.1.2.1 (Int.toNat x.1.1) ze.dflt).1,(List.getD x.2.2.1.2.1 (Int.toNat x.1.1) ze.dflt).1,())).1)=false->0<=x.1.1/\x.1.1 < ((List.length x.2.2.1.2.1):Int)) (Fr.br (bif !(cSH.f ((List.getD x.2.1.2.1 (Int.toNat x.1.1) ze.dflt).1,(List.getD x.2.2.1.2.1 (Int.toNat x.1.1) ze.dflt).1,())).1 then true else (List.getD x.2.1.2.1 (Int.toNat x.1.1) ze.dflt).2.1 != (List.getD x.2.2.1.2.1 (Int.toNat x.1.1) ze.dflt).2.1) (Fr.val (Rd.back ((false,()),()))) (Fr.val (Rd.next ((IntKind.i64.wrap (x.1.1+1),()),x.2.1,x.2.2.1,())))))))) (Fr.val (Rd.out ((),x.2.1,x.2.2.1,())))
theorem zuj:qe Tryz.prog (qo Tryz.f15 0) jv.M jv zef:=
 qe.of_run zbs (bs:=0) (Λ:=qp) rfl rfl rfl (fun E=>qd _ 0) (fun x=>by kernel_rfl)
abbrev qiv:Type:=qm [] × jc [.x 2 29 qj,.r 2 2 0,.x 3 29 qj,.r 3 3 0]
def qbq (e:(ze.den × ze.den)) (s:qiv):Fr (qiv ⊕ jv.R.X):=
 Fr.br (bif !(cSH.f (e.1.1,e.2.1,())).1 then true else e.1.2.1 != e.2.2.1) (Fr.val (.inr ((false,()),()))) (Fr.val (.inl ((),s.2.1,s.2.2.1,())))
def qb2 (x:jv.M.X):Int × List (ze.den × ze.den) × qiv:=(x.1.1,x.2.1.2.1.zip x.2.2.1.2.1,x.1.2,x.2)
def qk0 (x:jv.M.X):Prop:=x.2.1.2.1.length=x.2.2.1.2.1.length
def qjk (s:qiv):jv.E.X:=((),s.2.1,s.2.2.1,())
def qle:qiv:=(dfP _,dfM _)
def qoq:jv.R.X:=(dfP _,dfM _)
theorem zny:qe Tryz.prog (.loop (qo Tryz.f15 0)) jv.M jv (FL qbq qb2 qk0 qjk Rd.back qle qoq):=by
 refine qe.list zuj qbq qb2 qk0 qjk Rd.back qle qoq ?_ ?_
 ·rintro ⟨⟨i,s⟩,m⟩ hg h0 h1 hb e he Q h
  have hz:m.1.2.1.length=m.2.1.2.1.length:=hg
  have h0:0<=i:=h0
  have h1:i < (m.1.2.1.length:Int):=qhq hz h1
  have hb:(m.1.2.1.length:Int)<=9223372036854775807:=qhp hz hb
  have h1z:i < (m.2.1.2.1.length:Int):=by rw [← hz]; exact h1
  have hd:m.1.2.1.getD i.toNat ze.dflt=e.1:=zr (qfi he)
  have hdz:m.2.1.2.1.getD i.toNat ze.dflt=e.2:=zr (qfk he)
  have hw:=zx h0 h1 hb
  dsimp only [qb2,qbq,zef,Fr.satP] at h ⊢
  simp only [hd,hw,hdz] at h ⊢
  refine ⟨fun _=>?_,fun hn=>absurd h1 (of_decide_eq_false hn)⟩
  repeat' first
   |exact h
   |exact ⟨h0,h1⟩
   |exact fun _=>⟨h0,h1⟩
   |exact ⟨h0,h1z⟩
   |exact fun _=>⟨h0,h1z⟩
   |exact h _ rfl hz
   |(refine ⟨fun hc=>?_,fun hc=>?_⟩<;>first | replace h:=h.1 hc | replace h:=h.2 hc)
   |(refine ⟨h.1,?_⟩; replace h:=h.2)
   |refine ⟨⟨h0,h1⟩,?_⟩
   |exact h.1
   |exact h.2.1
   |exact h.2.2.1
   |refine ⟨?_,?_⟩
   |(intro (hc:_=true); replace h:=h.1 hc)
   |(intro (hc:_=false); replace h:=h.2 hc)
   |(replace h:=h.2)
 ·rintro ⟨⟨i,s⟩,m⟩ hg h1 Q h
  have hz:m.1.2.1.length=m.2.1.2.1.length:=hg
  exact ⟨fun hn=>absurd (of_decide_eq_true hn) (qfj hz h1),fun _=>h⟩
def ye8 (Γ:Gm):St->Option Tr:=jv.han Γ jv.M (FL qbq qb2 qk0 qjk Rd.back qle qoq)
def qjw (y:jv.M.X):qiv ⊕ jv.R.X:=goL qbq ((qb2 y).2.1.drop (qb2 y).1.toNat) (qb2 y).2.2
def zti (y:jv.M.X):Prop:=okL qbq ((qb2 y).2.1.drop (qb2 y).1.toNat) (qb2 y).2.2
abbrev ji:Pt:=⟨127,2,⟨[(8,.d i64)],[.x 2 29 qj,.r 2 2 0,.x 3 29 qj,.r 3 3 0]⟩,⟨[],[.x 2 29 qj,.r 2 2 0,.x 3 29 qj,.r 3 3 0]⟩,⟨[(4,.d .bool)],[]⟩⟩
def zeg (x:ji.M.X):Fr ji.Out:=
 Fr.br (decide (x.1.1 < ((List.length x.2.1.2.2.1):Int))) (Fr.need (0<=x.1.1/\x.1.1 < ((List.length x.2.1.2.2.1):Int)) (Fr.need (0<=x.1.1/\x.1.1 < ((List.length x.2.2.1.2.2.1):Int)) (Fr.br (!(zid.f ((List.getD x.2.1.2.2.1 (Int.toNat x.1.1) qr.dflt),(List.getD x.2.2.1.2.2.1 (Int.toNat x.1.1) qr.dflt),())).1) (Fr.val (Rd.back ((false,()),()))) (Fr.val (Rd.next ((IntKind.i64.wrap (x.1.1+1),()),x.2.1,x.2.2.1,())))))) (Fr.val (Rd.out ((),x.2.1,x.2.2.1,())))
theorem zuk:qe Tryz.prog (qo Tryz.f15 1) ji.M ji zeg:=
 qe.of_run zbs (bs:=0) (Λ:=qp) rfl rfl rfl (fun E=>qd _ 0) (fun x=>by kernel_rfl)
abbrev qgi:Type:=qm [] × jc [.x 2 29 qj,.r 2 2 0,.x 3 29 qj,.r 3 3 0]
def qbr (e:(qr.den × qr.den)) (s:qgi):Fr (qgi ⊕ ji.R.X):=
 Fr.br (!(zid.f (e.1,e.2,())).1) (Fr.val (.inr ((false,()),()))) (Fr.val (.inl ((),s.2.1,s.2.2.1,())))
def qaz (x:ji.M.X):Int × List (qr.den × qr.den) × qgi:=(x.1.1,x.2.1.2.2.1.zip x.2.2.1.2.2.1,x.1.2,x.2)
def qhl (x:ji.M.X):Prop:=x.2.1.2.2.1.length=x.2.2.1.2.2.1.length
def qjl (s:qgi):ji.E.X:=((),s.2.1,s.2.2.1,())
def qlf:qgi:=(dfP _,dfM _)
def qor:ji.R.X:=(dfP _,dfM _)
theorem znz:qe Tryz.prog (.loop (qo Tryz.f15 1)) ji.M ji (FL qbr qaz qhl qjl Rd.back qlf qor):=by
 refine qe.list zuk qbr qaz qhl qjl Rd.back qlf qor ?_ ?_
 ·rintro ⟨⟨i,s⟩,m⟩ hg h0 h1 hb e he Q h
  have hz:m.1.2.2.1.length=m.2.1.2.2.1.length:=hg
  have h0:0<=i:=h0
  have h1:i < (m.1.2.2.1.length:Int):=qhq hz h1
  have hb:(m.1.2.2.1.length:Int)<=9223372036854775807:=qhp hz hb
  have h1z:i < (m.2.1.2.2.1.length:Int):=by rw [← hz]; exact h1
  have hd:m.1.2.2.1.getD i.toNat qr.dflt=e.1:=zr (qfi he)
  have hdz:m.2.1.2.2.1.getD i.toNat qr.dflt=e.2:=zr (qfk he)
  have hw:=zx h0 h1 hb
  dsimp only [qaz,qbr,zeg,Fr.satP] at h ⊢
  simp only [hd,hw,hdz] at h ⊢
  refine ⟨fun _=>?_,fun hn=>absurd h1 (of_decide_eq_false hn)⟩
  repeat' first
   |exact h
   |exact ⟨h0,h1⟩
   |exact fun _=>⟨h0,h1⟩
   |exact ⟨h0,h1z⟩
   |exact fun _=>⟨h0,h1z⟩
   |exact h _ rfl hz
   |(refine ⟨fun hc=>?_,fun hc=>?_⟩<;>first | replace h:=h.1 hc | replace h:=h.2 hc)
   |(refine ⟨h.1,?_⟩; replace h:=h.2)
   |refine ⟨⟨h0,h1⟩,?_⟩
   |exact h.1
   |exact h.2.1
   |exact h.2.2.1
   |refine ⟨?_,?_⟩
   |(intro (hc:_=true); replace h:=h.1 hc)
   |(intro (hc:_=false); replace h:=h.2 hc)
   |(replace h:=h.2)
 ·rintro ⟨⟨i,s⟩,m⟩ hg h1 Q h
  have hz:m.1.2.2.1.length=m.2.1.2.2.1.length:=hg
  exact ⟨fun hn=>absurd (of_decide_eq_true hn) (qfj hz h1),fun _=>h⟩
def ye9 (Γ:Gm):St->Option Tr:=ji.han Γ ji.M (FL qbr qaz qhl qjl Rd.back qlf qor)
def qjx (y:ji.M.X):qgi ⊕ ji.R.X:=goL qbr ((qaz y).2.1.drop (qaz y).1.toNat) (qaz y).2.2
def ztj (y:ji.M.X):Prop:=okL qbr ((qaz y).2.1.drop (qaz y).1.toNat) (qaz y).2.2
abbrev jw:Pt:=⟨127,4,⟨[(10,.d i64)],[.x 2 29 qj,.r 2 2 0,.x 3 29 qj,.r 3 3 0]⟩,⟨[],[]⟩,⟨[(4,.d .bool)],[]⟩⟩
def zeh (x:jw.M.X):Fr jw.Out:=
 Fr.br (decide (x.1.1 < ((List.length x.2.1.2.2.2.1):Int))) (Fr.need (0<=x.1.1/\x.1.1 < ((List.length x.2.1.2.2.2.1):Int)) (Fr.need (0<=x.1.1/\x.1.1 < ((List.length x.2.2.1.2.2.2.1):Int)) (Fr.br (!((List.getD x.2.1.2.2.2.1 (Int.toNat x.1.1) qf.dflt).1==(List.getD x.2.2.1.2.2.2.1 (Int.toNat x.1.1) qf.dflt).1&&((List.getD x.2.1.2.2.2.1 (Int.toNat x.1.1) qf.dflt).2.1==(List.getD x.2.2.1.2.2.2.1 (Int.toNat x.1.1) qf.dflt).2.1&&((List.getD x.2.1.2.2.2.1 (Int.toNat x.1.1) qf.dflt).2.2.1.1==(List.getD x.2.2.1.2.2.2.1 (Int.toNat x.1.1) qf.dflt).2.2.1.1&&((List.getD x.2.1.2.2.2.1 (Int.toNat x.1.1) qf.dflt).2.2.1.2.1==(List.getD x.2.2.1.2.2.2.1 (Int.toNat x.1.1) qf.dflt).2.2.1.2.1&&true)&&((List.getD x.2.1.2.2.2.1 (Int.toNat x.1.1) qf.dflt).2.2.2.1==(List.getD x.2.2.1.2.2.2.1 (Int.toNat x.1.1) qf.dflt).2.2.2.1&&((List.getD x.2.1.2.2.2.1 (Int.toNat x.1.1) qf.dflt).2.2.2.2.1==(List.getD x.2.2.1.2.2.2.1 (Int.toNat x.1.1) qf.dflt).2.2.2.2.1&&((List.getD x.2.1.2.2.2.1 (Int.toNat x.1.1) qf.dflt).2.2.2.2.2.1==(List.getD x.2.2.1.2.2.2.1 (Int.toNat x.1.1) qf.dflt).2.2.2.2.2.1&&((List.getD x.2.1.2.2.2.1 (Int.toNat x.1.1) qf.dflt).2.2.2.2.2.2.1==(List.getD x.2.2.1.2.2.2.1 (Int.toNat x.1.1) qf.dflt).2.2.2.2.2.2.1&&((List.getD x.2.1.2.2.2.1 (Int.toNat x.1.1) qf.dflt).2.2.2.2.2.2.2.1==(List.getD x.2.2.1.2.2.2.1 (Int.toNat x.1.1) qf.dflt).2.2.2.2.2.2.2.1&&true))))))))) (Fr.val (Rd.back ((false,()),()))) (Fr.val (Rd.next ((IntKind.i64.wrap (x.1.1+1),()),x.2.1,x.2.2.1,())))))) (Fr.val (Rd.out ((),())))
theorem zul:qe Tryz.prog (qo Tryz.f15 2) jw.M jw zeh:=
 qe.of_run zbs (bs:=0) (Λ:=qp) rfl rfl rfl (fun E=>qd _ 0) (fun x=>by kernel_rfl)
abbrev qgj:Type:=qm [] × jc [.x 2 29 qj,.r 2 2 0,.x 3 29 qj,.r 3 3 0]
def qbs (e:(qf.den × qf.den)) (s:qgj):Fr (qgj ⊕ jw.R.X):=
 Fr.br (!(e.1.1==e.2.1&&(e.1.2.1==e.2.2.1&&(e.1.2.2.1.1==e.2.2.2.1.1&&(e.1.2.2.1.2.1==e.2.2.2.1.2.1&&true)&&(e.1.2.2.2.1==e.2.2.2.2.1&&(e.1.2.2.2.2.1==e.2.2.2.2.2.1&&(e.1.2.2.2.2.2.1==e.2.2.2.2.2.2.1&&(e.1.2.2.2.2.2.2.1==e.2.2.2.2.2.2.2.1&&(e.1.2.2.2.2.2.2.2.1==e.2.2.2.2.2.2.2.2.1&&true))))))))) (Fr.val (.inr ((false,()),()))) (Fr.val (.inl ((),s.2.1,s.2.2.1,())))
def qa0 (x:jw.M.X):Int × List (qf.den × qf.den) × qgj:=(x.1.1,x.2.1.2.2.2.1.zip x.2.2.1.2.2.2.1,x.1.2,x.2)
def qhm (x:jw.M.X):Prop:=x.2.1.2.2.2.1.length=x.2.2.1.2.2.2.1.length
def qsx (s:qgj):jw.E.X:=((),())
def qub:qgj:=(dfP _,dfM _)
def qos:jw.R.X:=(dfP _,dfM _)
theorem zn0:qe Tryz.prog (.loop (qo Tryz.f15 2)) jw.M jw (FL qbs qa0 qhm qsx Rd.back qub qos):=by
 refine qe.list zul qbs qa0 qhm qsx Rd.back qub qos ?_ ?_
 ·rintro ⟨⟨i,s⟩,m⟩ hg h0 h1 hb e he Q h
  have hz:m.1.2.2.2.1.length=m.2.1.2.2.2.1.length:=hg
  have h0:0<=i:=h0
  have h1:i < (m.1.2.2.2.1.length:Int):=qhq hz h1
  have hb:(m.1.2.2.2.1.length:Int)<=9223372036854775807:=qhp hz hb
  have h1z:i < (m.2.1.2.2.2.1.length:Int):=by rw [← hz]; exact h1
  have hd:m.1.2.2.2.1.getD i.toNat qf.dflt=e.1:=zr (qfi he)
  have hdz:m.2.1.2.2.2.1.getD i.toNat qf.dflt=e.2:=zr (qfk he)
  have hw:=zx h0 h1 hb
  dsimp only [qa0,qbs,zeh,Fr.satP] at h ⊢
  simp only [hd,hw,hdz] at h ⊢
  refine ⟨fun _=>?_,fun hn=>absurd h1 (of_decide_eq_false hn)⟩
  repeat' first
   |exact h
   |exact ⟨h0,h1⟩
   |exact fun _=>⟨h0,h1⟩
   |exact ⟨h0,h1z⟩
   |exact fun _=>⟨h0,h1z⟩
   |exact h _ rfl hz
   |(refine ⟨fun hc=>?_,fun hc=>?_⟩<;>first | replace h:=h.1 hc | replace h:=h.2 hc)
   |(refine ⟨h.1,?_⟩; replace h:=h.2)
   |refine ⟨⟨h0,h1⟩,?_⟩
   |exact h.1
   |exact h.2.1
   |exact h.2.2.1
   |refine ⟨?_,?_⟩
   |(intro (hc:_=true); replace h:=h.1 hc)
   |(intro (hc:_=false); replace h:=h.2 hc)
   |(replace h:=h.2)
 ·rintro ⟨⟨i,s⟩,m⟩ hg h1 Q h
  have hz:m.1.2.2.2.1.length=m.2.1.2.2.2.1.length:=hg
  exact ⟨fun hn=>absurd (of_decide_eq_true hn) (qfj hz h1),fun _=>h⟩
def yfa (Γ:Gm):St->Option Tr:=jw.han Γ jw.M (FL qbs qa0 qhm qsx Rd.back qub qos)
def qs4 (y:jw.M.X):qgj ⊕ jw.R.X:=goL qbs ((qa0 y).2.1.drop (qa0 y).1.toNat) (qa0 y).2.2
def ztk (y:jw.M.X):Prop:=okL qbs ((qa0 y).2.1.drop (qa0 y).1.toNat) (qa0 y).2.2
theorem ypo {P:Program} {E:Env} {Λ:Nat->St->Option Tr} {fn:Func} {c b0 b1 b2:Code} (hc:fn.body=some c) (hn:(fn.body.map zp)=some 3) (hb0:fn.body.bind (Go.Ab.loopB · 0)=some b0) (hb1:fn.body.bind (Go.Ab.loopB · 1)=some b1) (hb2:fn.body.bind (Go.Ab.loopB · 2)=some b2)
  (h0:qe4 P E b0 (Λ 0)) (h1:qe4 P E b1 (Λ 1)) (h2:qe4 P E b2 (Λ 2)):jt P E Λ c 0:=by
 rw [hc] at hn hb0 hb1 hb2
 simp only [Option.map_some,Option.some.injEq] at hn
 simp only [Option.bind_some] at hb0 hb1 hb2
 refine Go.Ab.lamAll c 0 fun i b' hb'=>?_
 have hlt:=Go.Ab.loopB_lt hb'
 have hi:i=0 ∨ i=1 ∨ i=2:=by omega
 rcases hi with rfl | rfl | rfl
 ·rw [hb0] at hb'
  cases hb'
  exact h0
 ·rw [hb1] at hb'
  cases hb'
  exact h1
 ·rw [hb2] at hb'
  cases hb'
  exact h2
theorem zy7 {σ ρ:Type} {good ok:Prop} {g:σ ⊕ ρ} {v:ρ->Bool} {d:ρ} {s1:σ} {c:ρ} {b r:Bool} {K:Fr (qi [.bool])} (hg:good) (ho:ok) (h:g=if b=true then .inl s1 else .inr c) (hc:v c=false) (hK:b=true->K.ok/\K.get=(r,())) :
  (Fr.need good (Fr.need ok (Fr.br (isL g) K (Fr.val (v (jg d g),()))))).ok/\(Fr.need good (Fr.need ok (Fr.br (isL g) K (Fr.val (v (jg d g),()))))).get=(b&&r,()):=by
 cases b
 ·have h':g = .inr c:=h
  subst h'
  exact Fr.need_ hg (Fr.need_ ho (Fr.br_f rfl ⟨trivial,by show (v c,())=_; rw [hc]; rfl⟩))
 ·have h':g = .inl s1:=h
  subst h'
  exact Fr.need_ hg (Fr.need_ ho (Fr.br_t rfl (hK rfl)))
noncomputable def zqi:Cx:=cx [(37,yav)] []
theorem qvz:CxOK Tryz.prog zqi:=zb (cs:=[(37,yav)]) (ps:=[]) qv ⟨zyp,trivial⟩ trivial
def zl0 (a b:qj.den):Bool:=bif bif bif bif !(zdd a.1 b.1) then true else qn5 a != qn5 b then true else ((List.length (α:=ze.den) (kw a):Nat):Int) != ((List.length (α:=ze.den) (kw b):Nat):Int) then true else ((List.length (α:=qr.den) (xq a):Nat):Int) != ((List.length (α:=qr.den) (xq b):Nat):Int) then true else ((List.length (α:=qf.den) (qel a):Nat):Int) != ((List.length (α:=qf.den) (qel b):Nat):Int)
def acS (e:ze.den × ze.den):Bool:=!(bif !(shF e.1.1 e.2.1) then true else e.1.2.1 != e.2.2.1)
def trS (e:qf.den × qf.den):Bool:=e.1.1==e.2.1&&(e.1.2.1==e.2.2.1&&(e.1.2.2.1.1==e.2.2.2.1.1&&(e.1.2.2.1.2.1==e.2.2.2.1.2.1&&true)&&(e.1.2.2.2.1==e.2.2.2.2.1&&(e.1.2.2.2.2.1==e.2.2.2.2.2.1&&(e.1.2.2.2.2.2.1==e.2.2.2.2.2.2.1&&(e.1.2.2.2.2.2.2.1==e.2.2.2.2.2.2.2.1&&(e.1.2.2.2.2.2.2.2.1==e.2.2.2.2.2.2.2.2.1&&true)))))))
abbrev zA (a b:qj.den):List (ze.den × ze.den):=List.zip (α:=ze.den) (β:=ze.den) (kw a) (kw b)
abbrev zF (a b:qj.den):List (qr.den × qr.den):=List.zip (α:=qr.den) (β:=qr.den) (xq a) (xq b)
abbrev zT (a b:qj.den):List (qf.den × qf.den):=List.zip (α:=qf.den) (β:=qf.den) (qel a) (qel b)
def qve (a b:qj.den):Bool:=bif zl0 a b then false else (zA a b).all acS&&((zF a b).all (fun e=>qn4 e.1 e.2)&&(zT a b).all trS)
def zif:Ct:=⟨[.d qj,.d qj],[.bool],fun x=>(qve x.1 x.2.1,()),fun _=>[]⟩
abbrev en0 (a b:qj.den):jv.M.X:=((0,()),a,b,())
abbrev o0 (a b:qj.den):jv.E.X:=qjk (qak qle (qjw (en0 a b)))
abbrev en1 (a b:qj.den):ji.M.X:=((0,()),(o0 a b).2.1,(o0 a b).2.2.1,())
abbrev o1 (a b:qj.den):ji.E.X:=qjl (qak qlf (qjx (en1 a b)))
abbrev en2 (a b:qj.den):jw.M.X:=((0,()),(o1 a b).2.1,(o1 a b).2.2.1,())
def qz3 (a b:qj.den):Fr (qi [.bool]):=
 Fr.br (zl0 a b) (Fr.val (false,())) (Fr.need (InL (qk0 (en0 a b)) (qb2 (en0 a b))) (Fr.need (zti (en0 a b)) (Fr.br (isL (qjw (en0 a b)))
  (Fr.need (InL (qhl (en1 a b)) (qaz (en1 a b))) (Fr.need (ztj (en1 a b)) (Fr.br (isL (qjx (en1 a b)))
   (Fr.need (InL (qhm (en2 a b)) (qa0 (en2 a b))) (Fr.need (ztk (en2 a b)) (Fr.br (isL (qs4 (en2 a b))) (Fr.val (true,())) (Fr.val ((jg qos (qs4 (en2 a b))).1.1,())))))
   (Fr.val ((jg qor (qjx (en1 a b))).1.1,())))))
  (Fr.val ((jg qoq (qjw (en0 a b))).1.1,())))))
theorem yjm:qa Tryz.prog 15 ⟨[.d qj,.d qj],[.bool],fun x=>(qz3 x.1 x.2.1).get,fun x=>[(qz3 x.1 x.2.1).ok]⟩:=
 qg qvz (Λ:=(fun k=>if k=0 then ye8 zqi.Γ else if k=1 then ye9 zqi.Γ else yfa zqi.Γ)) (fn:=Tryz.f15) (fr:=fun x=>qz3 x.1 x.2.1) (ps:=[.d qj,.d qj]) (rs:=[.bool]) (dfP [.d qj,.d qj]) (by kernel_rfl)
  (fun c E hc=>ypo hc (by kernel_rfl) (b0:=qo Tryz.f15 0) (b1:=qo Tryz.f15 1) (b2:=qo Tryz.f15 2) (by kernel_rfl) (by kernel_rfl) (by kernel_rfl) (qe.han qvz rfl zny) (qe.han qvz rfl znz) (qe.han qvz rfl zn0)) (fun x=>by kernel_rfl)
theorem zp3 (a b:qj.den):qjw (en0 a b)=if (zA a b).all acS=true then .inl ((),a,b,()) else .inr ((false,()),()):=by
 show goL qbq (List.drop 0 (zA a b)) ((),a,b,())=_
 rw [List.drop_zero,qc2 (step:=qbq) (I:=fun _=>True) (p:=acS) (c:=((false,()),())) (fun e s _=>?_) _ _ trivial]
 show (Fr.br (bif !(shF e.1.1 e.2.1) then true else e.1.2.1 != e.2.2.1) _ _).get=_
 unfold acS
 cases (bif !(shF e.1.1 e.2.1) then true else e.1.2.1 != e.2.2.1)<;>rfl
theorem zp4 (a b:qj.den):qjx ((0,()),a,b,())=if (zF a b).all (fun e=>qn4 e.1 e.2)=true then .inl ((),a,b,()) else .inr ((false,()),()):=by
 show goL qbr (List.drop 0 (zF a b)) ((),a,b,())=_
 rw [List.drop_zero,qc2 (step:=qbr) (I:=fun _=>True) (p:=fun e=>qn4 e.1 e.2) (c:=((false,()),())) (fun e s _=>?_) _ _ trivial]
 show (Fr.br (!(qn4 e.1 e.2)) _ _).get=_
 cases qn4 e.1 e.2<;>rfl
theorem yjk (a b:qj.den):qs4 ((0,()),a,b,())=if (zT a b).all trS=true then .inl ((),a,b,()) else .inr ((false,()),()):=by
 show goL qbs (List.drop 0 (zT a b)) ((),a,b,())=_
 rw [List.drop_zero,qc2 (step:=qbs) (I:=fun _=>True) (p:=trS) (c:=((false,()),())) (fun e s _=>?_) _ _ trivial]
 show (Fr.br (!(trS e)) _ _).get=_
 cases trS e<;>rfl
theorem yd9 {w:World} {F:Nat->Prop} {s:qj.den} {v:Value} (h:zt w F qj s v):((List.length (α:=ze.den) (kw s):Nat):Int)<=9223372036854775807/\((List.length (α:=qr.den) (xq s):Nat):Int)<=9223372036854775807/\((List.length (α:=qf.den) (qel s):Nat):Int)<=9223372036854775807:=by
 have h0:=qs.wf h.2.2
 have h1:List.length (α:=ze.den) (kw s)<=maxLen:=h0.2.1.1
 have h2:List.length (α:=qr.den) (xq s)<=maxLen:=h0.2.2.1.1
 have h3:List.length (α:=qf.den) (qel s)<=maxLen:=h0.2.2.2.1.1
 unfold maxLen at h1 h2 h3
 exact ⟨by omega,by omega,by omega⟩
theorem yn8:qa Tryz.prog 15 zif:=conv yjm _ _ (fun w F x vs hr _=>by
 obtain ⟨a,b,_⟩:=x
 obtain ⟨v,vs',rfl,hv,_⟩:=hr
 obtain ⟨w1,w2,w3⟩:=yd9 hv
 show (qz3 a b).ok/\(qz3 a b).get=(qve a b,())
 unfold qve
 cases h:zl0 a b
 ·have hA':=orF h
  have hA:=orF hA'.1
  have hB:=orF hA.1
  refine Fr.br_f h (zy7 (v:=fun r=>r.1.1) (s1:=((),a,b,())) (c:=((false,()),())) ⟨qo8 hB.2,Int.le_refl _,Int.natCast_nonneg _,qpo _ _ w1⟩ (qc3 (step:=qbq) _ (fun e _ s=>⟨fun _=>trivial,fun _=>trivial⟩) _) (zp3 a b) rfl fun h0=>?_)
  have e0:o0 a b=((),a,b,()):=by
   show qjk (qak qle (qjw (en0 a b)))=_
   rw [zp3,if_pos h0]; rfl
  have e1:en1 a b=((0,()),a,b,()):=by show ((0,()),(o0 a b).2.1,(o0 a b).2.2.1,())=_; rw [e0]
  rw [e1]
  refine zy7 (good:=InL (qhl ((0,()),a,b,())) (qaz ((0,()),a,b,()))) (σ:=qgi) (ρ:=ji.R.X) (v:=fun r=>r.1.1) (s1:=((),a,b,())) (c:=((false,()),())) (by exact ⟨qo8 hA.2,Int.le_refl _,Int.natCast_nonneg _,qpo _ _ w2⟩) (qc3 (step:=qbr) _ (fun e _ s=>⟨fun _=>trivial,fun _=>trivial⟩) _) (zp4 a b) rfl fun h1=>?_
  have e2:o1 a b=((),a,b,()):=by
   show qjl (qak qlf (qjx (en1 a b)))=_
   rw [e1,zp4,if_pos h1]; rfl
  have e3:en2 a b=((0,()),a,b,()):=by show ((0,()),(o1 a b).2.1,(o1 a b).2.2.1,())=_; rw [e2]
  rw [e3]
  exact qko (good:=InL (qhm ((0,()),a,b,())) (qa0 ((0,()),a,b,()))) (σ:=qgj) (ρ:=jw.R.X) (v:=fun r=>r.1.1) (s1:=((),a,b,())) (c:=((false,()),())) (by exact ⟨qo8 hA'.2,Int.le_refl _,Int.natCast_nonneg _,qpo _ _ w3⟩) (qc3 (step:=qbs) _ (fun e _ s=>⟨fun _=>trivial,fun _=>trivial⟩) _) (yjk a b) rfl
 ·exact Fr.br_t h ⟨trivial,rfl⟩)
theorem qyv (a:qj.den):qve a a=true:=by
 unfold qve
 rw [show zl0 a a=false by unfold zl0; rw [ydw]; simp]
 have h1:(zA a a).all acS=true:=xn (α:=ze.den) _ (fun x _=>by unfold acS; rw [yjw]; simp)
 have h2:(zF a a).all (fun e=>qn4 e.1 e.2)=true:=xn (α:=qr.den) _ (fun x _=>ydy x)
 have h3:(zT a a).all trS=true:=xn (α:=qf.den) _ (fun x _=>by simp [trS])
 rw [h1,h2,h3]
 rfl
noncomputable def yfp:List (FuncId × Ct):=[(10,qlb),(16,zgj),(12,qi2),(17,qde),(23,qhu),(14,cDo),(15,zif),(19,qtx)]
noncomputable def yq2:Cx:=cx yfp []
theorem zon:CxOK Tryz.prog yq2:=zb (cs:=yfp) (ps:=[]) qv ⟨zqt,yhs,ybk,zxy,yjy,zgq,yn8,ybz,trivial⟩ trivial
def qsb (x:qm [.d jourT,.d factT]):Fr (qi [.bool]):=
 Fr.br (bif !(zgj.f (x.1,40,())).1 then true else !(qi2.f (x.2.1,())).1) (Fr.val ((qlb.f ()).1,())) (Fr.need (jq (x.1.1.1,())) (Fr.need (qhb x.2.1) (Fr.need (jq (x.1.1.1,())) (Fr.need (yd (qde.f (x.1,292194,())).1) (Fr.br ((qhu.f (x.1,x.2.1,())).2.1 != 0) (Fr.val (bif (qlb.f ()).1 then ((List.length (qhu.f (x.1,x.2.1,())).1.2.1):Int)==0 else false,())) (Fr.need (jq ((qhu.f (x.1,x.2.1,())).1.1.1,())) (Fr.val (bif bif bif bif bif (qlb.f ()).1 then (qde.f (x.1,292194,())).2.1==0 else false then (cDo.f ((qde.f (x.1,292194,())).1,x.2.1,())).2.1==0 else false then (qde.f ((qhu.f (x.1,x.2.1,())).1,292194,())).2.1==0 else false then (zif.f ((cDo.f ((qde.f (x.1,292194,())).1,x.2.1,())).1,(qde.f ((qhu.f (x.1,x.2.1,())).1,292194,())).1,())).1 else false then ((List.length (qhu.f (x.1,x.2.1,())).1.2.1):Int)==IntKind.i64.wrap (((List.length x.1.2.1):Int)+1) else false,()))))))))
theorem zni:qa Tryz.prog 7 ⟨[.d jourT,.d factT],[.bool],fun xs=>(qsb xs).get,fun xs=>[(qsb xs).ok]⟩:=
 qg zon (Λ:=qp) (fn:=Tryz.f7) (dfP [.d jourT,.d factT]) (by kernel_rfl) (fun c E _=>qd c 0) (fun x=>by kernel_rfl)
def qr9 (x:qm [.d jourT,.d factT,.d i64]):Fr (qi [.bool]):=
 Fr.br (bif !(zgj.f (x.1,40,())).1 then true else !(qi2.f (x.2.1,())).1) (Fr.val ((qlb.f ()).1,())) (Fr.need (jq (x.1.1.1,())) (Fr.need (∀ f ∈ x.1.2.1,qhb f) (Fr.need (List.length x.1.2.1<=100000) (Fr.need (jq ((qtx.f (x.1,x.2.2.1,())).1.1.1,())) (Fr.br (bif (qde.f (x.1,x.2.2.1,())).2.1 != 0 then true else (qde.f ((qtx.f (x.1,x.2.2.1,())).1,292194,())).2.1 != 0) (Fr.val (false,())) (Fr.br (bif decide (x.2.2.1<=292194) then !(zif.f ((qde.f (x.1,x.2.2.1,())).1,(qde.f ((qtx.f (x.1,x.2.2.1,())).1,292194,())).1,())).1 else false) (Fr.val (false,())) (Fr.need (qhb x.2.1) (Fr.need (jq (x.1.1.1,())) (Fr.br (bif (qhu.f (x.1,x.2.1,())).2.1 != 0 then true else decide (x.2.1.1<=x.2.2.1)) (Fr.val ((qlb.f ()).1,())) (Fr.need (jq ((qhu.f (x.1,x.2.1,())).1.1.1,())) (Fr.val (bif bif (qlb.f ()).1 then (qde.f ((qhu.f (x.1,x.2.1,())).1,x.2.2.1,())).2.1==0 else false then (zif.f ((qde.f ((qhu.f (x.1,x.2.1,())).1,x.2.2.1,())).1,(qde.f (x.1,x.2.2.1,())).1,())).1 else false,()))))))))))))
theorem znf:qa Tryz.prog 9 ⟨[.d jourT,.d factT,.d i64],[.bool],fun xs=>(qr9 xs).get,fun xs=>[(qr9 xs).ok]⟩:=
 qg zon (Λ:=qp) (fn:=Tryz.f9) (dfP [.d jourT,.d factT,.d i64]) (by kernel_rfl) (fun c E _=>qd c 0) (fun x=>by kernel_rfl)
theorem qg0 {j:jourT.den} {b:Int} (h:((List.length (α:=factT.den) j.2.1:Nat):Int)<=2000):ofJ j b=(qdr b j.2.1 (qia j.1),0):=by
 unfold ofJ
 rw [show decide (((List.length (α:=factT.den) j.2.1:Nat):Int) > 2000)=false from decide_eq_false (by omega)]
 rfl
theorem zpy {j:jourT.den} {f:factT.den} (h:(qgd j f).2=0):kq f=true/\(qgd j f).1=(j.1,j.2.1++[f],())/\qwl j.2.1 f=false/\zg5 j.2.1 f=false/\((List.length (α:=factT.den) j.2.1:Nat):Int) < 2000:=by
 unfold qgd at h ⊢
 cases h1:kq f
 ·rw [h1] at h; have h:(1:Int)=0:=h; exact absurd h (by decide)
 ·rw [h1] at h
  cases h2:decide (((List.length (α:=factT.den) j.2.1:Nat):Int) ≥ 2000)
  ·rw [h2] at h
   cases h3:qwl j.2.1 f
   ·rw [h3] at h
    cases h4:zg5 j.2.1 f
    ·exact ⟨rfl,rfl,rfl,rfl,by have:=of_decide_eq_false h2; omega⟩
    ·rw [h4] at h; have h:(12:Int)=0:=h; exact absurd h (by decide)
   ·rw [h3] at h; have h:(4:Int)=0:=h; exact absurd h (by decide)
  ·rw [h2] at h; have h:(2:Int)=0:=h; exact absurd h (by decide)
theorem zpz {j:jourT.den} {f:factT.den} (h:(qca j f).2=0):(qgd j f).2=0/\(ofJ j 292194).2=0/\(wg (ofJ j 292194).1 f).2=0/\(qca j f).1=(j.1,j.2.1++[f],()):=by
 unfold qca at h ⊢
 cases h1:(qgd j f).2 != 0
 ·have z1:(qgd j f).2=0:=by simpa using h1
  rw [h1] at h
  cases h2:(ofJ j 292194).2 != 0
  ·have z2:(ofJ j 292194).2=0:=by simpa using h2
   rw [h2] at h
   cases h3:(wg (ofJ j 292194).1 f).2 != 0
   ·exact ⟨z1,z2,by simpa using h3,(zpy z1).2.1⟩
   ·rw [h3] at h
    have h:(wg (ofJ j 292194).1 f).2=0:=h
    rw [h] at h3; exact absurd h3 (by decide)
  ·rw [h2] at h
   have h:(ofJ j 292194).2=0:=h
   rw [h] at h2; exact absurd h2 (by decide)
 ·rw [h1] at h
  have h:(qgd j f).2=0:=h
  rw [h] at h1; exact absurd h1 (by decide)
theorem yjf {j:jourT.den} {f:factT.den} (h:((qca j f).2 != 0)=true):(qca j f).1=j00:=by
 unfold qca at h ⊢
 cases h1:(qgd j f).2 != 0
 ·rw [h1] at h
  cases h2:(ofJ j 292194).2 != 0
  ·rw [h2] at h
   cases h3:(wg (ofJ j 292194).1 f).2 != 0
   ·rw [h3] at h; have h:((0:Int) != 0)=true:=h; exact absurd h (by decide)
   ·rfl
  ·rfl
 ·rfl
theorem znm {f:factT.den} (h:kq f=true):1<=zj f/\zj f<=292194:=by
 unfold kq at h
 simp only [Bool.and_eq_true,decide_eq_true_eq] at h
 exact h.2.1
theorem qzw (b:Int) (l:List factT.den) (f:factT.den) (s:qj.den):qdr b (l++[f]) s=qfu b (qdr b l s) f:=by
 unfold qdr
 rw [List.foldl_append]
 rfl
theorem zfi {b:Int} {s:qj.den} {f:factT.den} (h:zj f > b):qfu b s f=s:=by
 unfold qfu
 rw [decide_eq_true h]
 rfl
theorem zdh {b:Int} {s:qj.den} {f:factT.den} (h:zj f<=b):qfu b s f=qsp s f:=by
 unfold qfu
 rw [decide_eq_false (by omega)]
 rfl
theorem qp4 {b m:Int} (hm:b<=m):(l:List factT.den)->(s:qj.den)->qdr m (l.filter (fun f=>decide (zj f<=b))) s=qdr b l s
 |[],_=>rfl
 |f :: l,s=>by
  by_cases h:zj f<=b
  ·rw [List.filter_cons_of_pos (by simpa using h)]
   show qdr m (l.filter _) (qfu m s f)=qdr b l (qfu b s f)
   rw [zdh h,zdh (Int.le_trans h hm)]
   exact qp4 hm l _
  ·rw [List.filter_cons_of_neg (by simpa using h)]
   show qdr m (l.filter _) s=qdr b l (qfu b s f)
   rw [zfi (by omega)]
   exact qp4 hm l _
theorem zet {a b:Bool} (h:(bif !a then true else !b)=false):a=true/\b=true:=by cases a<;>cases b<;>first | exact ⟨rfl,rfl⟩ | cases h
def zvm (ps:List PT):Ct:=⟨ps,[.bool],fun _=>(true,()),fun _=>[]⟩
theorem yec (j:jourT.den) (f:factT.den):(qsb (j,f,())).ok/\(qsb (j,f,())).get=(true,()):=by
 cases hs:(bif !(qx4 j 40) then true else !(qf6 f))
 ·obtain ⟨hj,hf⟩:=zet hs
  obtain ⟨ht,hl,_⟩:=zi6 hj
  have hl2:((List.length (α:=factT.den) j.2.1:Nat):Int)<=2000:=by omega
  refine Fr.br_f hs (Fr.need_ ht (Fr.need_ (qr7 hf) (Fr.need_ ht (Fr.need_ (zo3 _ ht) ?_))))
  cases hp:(qca j f).2 != 0
  ·have hp0:(qca j f).2=0:=by simpa using hp
   obtain ⟨h1,h2,h3,h4⟩:=zpz hp0
   have hb:=(znm (zpy h1).1).2
   have hn:ofJ (qca j f).1 292194=((wg (ofJ j 292194).1 f).1,0):=by
    rw [h4,qg0 (by show ((List.length (α:=factT.den) (j.2.1++[f]):Nat):Int)<=2000; rw [List.length_append,List.length_singleton]; omega)]
    show (qdr 292194 (j.2.1++[f]) (qia j.1),(0:Int))=_
    rw [qzw,zdh hb,qg0 hl2] 
    show (qsp (qdr 292194 j.2.1 (qia j.1)) f,(0:Int))=_
    unfold qsp
    rw [qg0 hl2] at h3
    rw [show ((wg (qdr 292194 j.2.1 (qia j.1)) f).2==0)=true from by rw [h3]; rfl]
    rfl
   refine Fr.br_f hp (Fr.need_ (by show jq (qca j f).1.1; rw [h4]; exact ht) ⟨trivial,?_⟩)
   show ((bif bif bif bif bif true then (ofJ j 292194).2==0 else false then (wg (ofJ j 292194).1 f).2==0 else false then (ofJ (qca j f).1 292194).2==0 else false then qve (wg (ofJ j 292194).1 f).1 (ofJ (qca j f).1 292194).1 else false then ((List.length (α:=factT.den) (qca j f).1.2.1:Nat):Int)==IntKind.i64.wrap (((List.length (α:=factT.den) j.2.1:Nat):Int)+1) else false),())=_
   rw [hn,h2,h3,h4,qyv]
   show (((((List.length (α:=factT.den) (j.2.1++[f]):Nat):Int)==IntKind.i64.wrap (((List.length (α:=factT.den) j.2.1:Nat):Int)+1)):Bool),())=_
   rw [IntWalk.i64_in _ (by omega),List.length_append,List.length_singleton]
   simp
  ·refine Fr.br_t hp ⟨trivial,?_⟩
   show ((bif true then ((List.length (α:=factT.den) (qca j f).1.2.1:Nat):Int)==0 else false),())=_
   rw [yjf hp]
   rfl
 ·exact Fr.br_t hs ⟨trivial,rfl⟩
theorem lawSteps_ok:qa Tryz.prog 7 (zvm [.d jourT,.d factT]):=conv zni _ _ (fun _ _ x _ _ _=>yec x.1 x.2.1)
theorem ycm (j:jourT.den) (f:factT.den) (b:Int):(qr9 (j,f,b,())).ok/\(qr9 (j,f,b,())).get=(true,()):=by
 cases hs:(bif !(qx4 j 40) then true else !(qf6 f))
 ·obtain ⟨hj,hf⟩:=zet hs
  obtain ⟨ht,hl,hff⟩:=zi6 hj
  have hl2:((List.length (α:=factT.den) j.2.1:Nat):Int)<=2000:=by omega
  have hlu:((List.length (α:=factT.den) (qwx j b).2.1:Nat):Int)<=2000:=by
   have:(j.2.1.filter (fun f=>decide (zj f<=b))).length<=j.2.1.length:=List.length_filter_le _ _
   show ((List.length (α:=factT.den) (j.2.1.filter (fun f=>decide (zj f<=b))):Nat):Int)<=2000
   omega
  refine Fr.br_f hs (Fr.need_ ht (Fr.need_ (fun g hg=>qr7 (hff g hg)) (Fr.need_ (by show List.length (α:=factT.den) j.2.1<=100000; omega) (Fr.need_ ht (Fr.br_f ?_ ?_)))))
  ·show (bif (ofJ j b).2 != 0 then true else (ofJ (qwx j b) 292194).2 != 0)=false
   rw [qg0 hl2,qg0 hlu]
   rfl
  ·refine Fr.br_f ?_ ?_
   ·show (bif decide (b<=292194) then !(qve (ofJ j b).1 (ofJ (qwx j b) 292194).1) else false)=false
    by_cases hb:b<=292194
    ·have he:(ofJ (qwx j b) 292194).1=(ofJ j b).1:=by
      rw [qg0 hl2,qg0 hlu]
      exact qp4 hb j.2.1 (qia j.1)
     rw [he,qyv,decide_eq_true hb]
     rfl
    ·rw [decide_eq_false hb]; rfl
   ·refine Fr.need_ (qr7 hf) (Fr.need_ ht ?_)
    cases hp:(bif (qca j f).2 != 0 then true else decide (zj f<=b))
    ·obtain ⟨hp1,hp2⟩:=orF hp
     have hp0:(qca j f).2=0:=by simpa using hp1
     obtain ⟨h1,h2,h3,h4⟩:=zpz hp0
     have hb:=of_decide_eq_false hp2
     have hn:ofJ (qca j f).1 b=((ofJ j b).1,0):=by
      rw [h4,qg0 (by show ((List.length (α:=factT.den) (j.2.1++[f]):Nat):Int)<=2000; rw [List.length_append,List.length_singleton]; omega),qg0 hl2]
      show (qdr b (j.2.1++[f]) (qia j.1),(0:Int))=_
      rw [qzw,zfi (by omega)]
     refine Fr.br_f hp (Fr.need_ (by show jq (qca j f).1.1; rw [h4]; exact ht) ⟨trivial,?_⟩)
     show ((bif bif true then (ofJ (qca j f).1 b).2==0 else false then qve (ofJ (qca j f).1 b).1 (ofJ j b).1 else false),())=_
     rw [hn,qyv]
     rfl
    ·exact Fr.br_t hp ⟨trivial,rfl⟩
 ·exact Fr.br_t hs ⟨trivial,rfl⟩
theorem lawKnown_ok:qa Tryz.prog 9 (zvm [.d jourT,.d factT,.d i64]):=conv znf _ _ (fun _ _ x _ _ _=>ycm x.1 x.2.1 x.2.2.1)
end Go.Proofs.YtgieagiaagoogaaGreat
