/-
  Parts of the proof, one behind the other: S20, S23, S24, S22, S25, S26, S27, S28, S29, S30, S31, S32, S33, S34, S35, S36, S37, S38, S39, S40, S41, S42, S43, S45, S44.
-/
import Derived.Test.YtgieagiaagoogaaGreatMg
import Derived.Deep.MidRow
namespace Go.Proofs.YtgieagiaagoogaaGreat
open Go Go.Ab Go.RowKit Go.Proofs
noncomputable def ygm:List (FuncId×Ct):=[(48,zg0),(60,zg4),(21,qzt),(256,zv0),(20,ym0),(270,ym3),(26,ymz),(275,ygf),(285,yge),(257,(qym zf)),(274,(qym qt)),(271,(zrs zf)),(286,(zrs qt)),(268,(qr3 qt)),(258,zrh),(276,zrm),(269,zrf)]
noncomputable def yr7:Cx:=cx ygm []
theorem qqx:CxOK Tryz.prog yr7:=zc (cs:=ygm) (ps:=[]) qv ⟨zo4,zpm,zh7,ya7,ynq,ypb,ynh,ykc,yif,zyr,zys,yfu,yfv,yhx,ymu,yox,ymq,trivial⟩ trivial
abbrev qhb (s:qj.den) (l:List zf.den):qj.den:=(s.1,l,s.2.2.1,s.2.2.2.1,s.2.2.2.2.1,())
abbrev qxk (s:qj.den) (l:List qt.den):qj.den:=(s.1,s.2.1,l,s.2.2.2.1,s.2.2.2.2.1,())
def yf (s:qj.den):Prop:=wn s.1/\(kr s).length<=100000/\(xb s).length<=100000/\∀ a∈kr s,jj a.1
abbrev qe1 (s:qj.den) (i:Int):zf.den:=(kr s).getD i.toNat zf.dflt
abbrev yqt (s:qj.den) (i:Int):qt.den:=(xb s).getD i.toNat qt.dflt
abbrev bH (f:qk.den):qm.den×Int:=qo1 (fId f) (zt f) (qhp f)
abbrev aI (s:qj.den) (f:qk.den):Int:=qhe s (fId f)
abbrev gI (s:qj.den) (f:qk.den):Int:=qe5 s (fId f)
abbrev pH (s:qj.den) (f:qk.den):qm.den×Int:=qvn (qe1 s (aI s f)).1 (qei f)
def qff (s:qj.den) (f:qk.den):qj.den×Int:=
 bif decide (aI s f≥0) then (s,8) else bif decide (((List.length (kr s):Nat):Int)≥2000) then (s,2)
  else (qhb s (qbe aId (kr s) ((bH f).1,0,())),bif (bH f).2==0 then (qsf (bH f).1 s.1).2 else (bH f).2)
def qdn (s:qj.den) (f:qk.den):qj.den×Int:=
 bif decide (aI s f<0) then (s,7) else bif (xb s).any (qye f) then (s,10)
  else (qhb s ((kr s).set (aI s f).toNat ((pH s f).1,(qe1 s (aI s f)).2.1,())),bif (pH s f).2==0 then (qsf (pH s f).1 s.1).2 else (pH s f).2)
def qfh (s:qj.den) (f:qk.den):qj.den×Int:=
 bif decide (aI s f<0) then (s,7) else bif decide (qif f>IntKind.i64.wrap (4000000000000000000-(qe1 s (aI s f)).2.1)) then (s,5)
  else (qhb s ((kr s).set (aI s f).toNat ((qe1 s (aI s f)).1,IntKind.i64.wrap ((qe1 s (aI s f)).2.1+qif f),())),0)
abbrev lA (s:qj.den) (f:qk.den):zf.den×Bool:=qi7 s (qao f).2.1
def qfg (s:qj.den) (f:qk.den):qj.den×Int:=
 bif decide (qe5 s (qao f).1≥0) then (s,8) else bif decide (((List.length (xb s):Nat):Int)≥2000) then (s,2) else bif !(lA s f).2 then (s,7)
  else (qxk s (qbe gId (xb s) (qao f,[],())),(qyp (lA s f).1.1 s.1 (qao f)).2)
abbrev pG (s:qj.den) (f:qk.den):qt.den×Int:=qwr (yqt s (gI s f)) (qsj f)
def qh0 (s:qj.den) (f:qk.den):qj.den×Int:=
 bif decide (gI s f<0) then (s,7) else (qxk s ((xb s).set (gI s f).toNat (pG s f).1),(pG s f).2)
theorem vu {α:Type} {l:List α} {i:Int} {d:α} (h:0<=i/\i<(l.length:Int)):l.getD i.toNat d∈l:=by
 have hi:i.toNat<l.length:=by omega
 rw [List.getD_eq_getElem?_getD,List.getElem?_eq_getElem hi]
 exact List.getElem_mem hi
theorem qnd {s:qj.den} {id:Int} (h:¬ qhe s id<0):0<=qhe s id/\qhe s id<((kr s).length:Int):=⟨by omega,(qrk (by unfold qhe at h; omega)).1⟩
theorem zpl {s:qj.den} {id:Int} (h:¬ qe5 s id<0):0<=qe5 s id/\qe5 s id<((xb s).length:Int):=⟨by omega,(qrk (by unfold qe5 at h; omega)).1⟩
theorem qre {s:qj.den} (hs:yf s) {id:Int} (h:¬ qhe s id<0):jj (qe1 s (qhe s id)).1:=hs.2.2.2 _ (vu (qnd h))
theorem yb8:jj h00:=⟨by decide,by decide,fun c hc=>by cases hc⟩
theorem zvu {s:qj.den} (hs:yf s) (id:Int):jj (qi7 s id).1.1:=by
 unfold qi7
 split
 ·rename_i h
  exact qre hs (id:=id) (by omega)
 ·exact yb8
abbrev nA:Prop:=∀ y:qi [zf],WfL [zf] y->qr ([]:List Prop)
abbrev nF:Prop:=∀ y:qi [qt],WfL [qt] y->qr ([]:List Prop)
def zpb:Ct:=⟨PDo,[qj,i64],fun x=>((qff x.2.1 x.1).1,(qff x.2.1 x.1).2,()),fun x=>[yf x.2.1]⟩
def qy1 (s:qj.den) (f:qk.den):Fr (qi [qj,i64]):=
 Fr.br (decide (aI s f≥0)) (Fr.val (s,8,())) (Fr.br (decide (((List.length (kr s):Nat):Int)≥2000)) (Fr.val (s,2,())) (Fr.br ((bH f).2==0)
  (Fr.need (jj (bH f).1) (Fr.need (wn s.1) (Fr.need nA (Fr.need ((kr s).length<=100000) (Fr.val (qhb s (qbe aId (kr s) ((bH f).1,0,())),(qsf (bH f).1 s.1).2,()))))))
  (Fr.need nA (Fr.need ((kr s).length<=100000) (Fr.val (qhb s (qbe aId (kr s) ((bH f).1,0,())),(bH f).2,()))))))
theorem zwu (s:qj.den) (f:qk.den) (hs:yf s):(qy1 s f).ok/\(qy1 s f).get=((qff s f).1,(qff s f).2,()):=by
 unfold qff
 cases h1:decide (aI s f≥0)
 ·refine Fr.br_f (by first|rfl|exact h1) ?_
  cases h2:decide (((List.length (kr s):Nat):Int)≥2000)
  ·refine Fr.br_f (by first|rfl|exact h2) ?_
   cases h3:(bH f).2==0
   ·refine Fr.br_f (by first|rfl|exact h3) ?_
    exact Fr.need_ (fun _ _=>trivial) (Fr.need_ hs.2.1 ⟨trivial,rfl⟩)
   ·refine Fr.br_t (by first|rfl|exact h3) ?_
    exact Fr.need_ (zid _ _ _) (Fr.need_ hs.1 (Fr.need_ (fun _ _=>trivial) (Fr.need_ hs.2.1 ⟨trivial,rfl⟩)))
  ·exact Fr.br_t (by first|rfl|exact h2) ⟨trivial,rfl⟩
 ·exact Fr.br_t (by first|rfl|exact h1) ⟨trivial,rfl⟩
theorem zwv:qa Tryz.prog 255 zpb:=
 conv (qg qqx (Λ:=qq) (fn:=Tryz.f255) (fr:=fun x=>qy1 x.2.1 x.1) (ps:=PDo) (rs:=[qj,i64]) (dfP PDo) (by kernel_rfl) (fun c E _=>qe c 0) (fun x=>by kernel_rfl)) _ _ (fun _ _ x _ _ h=>zwu x.2.1 x.1 h)
def zil:Ct:=⟨PDo,[qj,i64],fun x=>((qdn x.2.1 x.1).1,(qdn x.2.1 x.1).2,()),fun x=>[yf x.2.1]⟩
def qu1 (s:qj.den) (f:qk.den):Fr (qi [qj,i64]):=
 Fr.br (decide (aI s f<0)) (Fr.val (s,7,())) (Fr.need nF (Fr.br ((xb s).any (qye f)) (Fr.val (s,10,())) (Fr.need (0<=aI s f/\aI s f<((kr s).length:Int)) (Fr.need (jj (qe1 s (aI s f)).1)
  (Fr.br ((pH s f).2==0)
   (Fr.need (jj (pH s f).1) (Fr.need (wn s.1) (Fr.need ((kr s).length<=100000) (Fr.need (0<=aI s f/\aI s f<((kr s).length:Int)) (Fr.val (qhb s ((kr s).set (aI s f).toNat ((pH s f).1,(qe1 s (aI s f)).2.1,())),(qsf (pH s f).1 s.1).2,()))))))
   (Fr.need ((kr s).length<=100000) (Fr.need (0<=aI s f/\aI s f<((kr s).length:Int)) (Fr.val (qhb s ((kr s).set (aI s f).toNat ((pH s f).1,(qe1 s (aI s f)).2.1,())),(pH s f).2,())))))))))
theorem zsd (s:qj.den) (f:qk.den) (hs:yf s):(qu1 s f).ok/\(qu1 s f).get=((qdn s f).1,(qdn s f).2,()):=by
 unfold qdn
 cases h1:decide (aI s f<0)
 ·refine Fr.br_f (by first|rfl|exact h1) ?_
  have hi:=of_decide_eq_false h1
  refine Fr.need_ (fun _ _=>trivial) ?_
  cases h2:(xb s).any (qye f)
  ·refine Fr.br_f (by first|rfl|exact h2) ?_
   refine Fr.need_ (qnd hi) (Fr.need_ (qre hs hi) ?_)
   cases h3:(pH s f).2==0
   ·refine Fr.br_f (by first|rfl|exact h3) ?_
    exact Fr.need_ hs.2.1 (Fr.need_ (qnd hi) ⟨trivial,rfl⟩)
   ·refine Fr.br_t (by first|rfl|exact h3) ?_
    exact Fr.need_ (zqc (qre hs hi)) (Fr.need_ hs.1 (Fr.need_ hs.2.1 (Fr.need_ (qnd hi) ⟨trivial,rfl⟩)))
  ·exact Fr.br_t (by first|rfl|exact h2) ⟨trivial,rfl⟩
 ·exact Fr.br_t (by first|rfl|exact h1) ⟨trivial,rfl⟩
theorem zse:qa Tryz.prog 267 zil:=
 conv (qg qqx (Λ:=qq) (fn:=Tryz.f267) (fr:=fun x=>qu1 x.2.1 x.1) (ps:=PDo) (rs:=[qj,i64]) (dfP PDo) (by kernel_rfl) (fun c E _=>qe c 0) (fun x=>by kernel_rfl)) _ _ (fun _ _ x _ _ h=>zsd x.2.1 x.1 h)
def zpd:Ct:=⟨PDo,[qj,i64],fun x=>((qfh x.2.1 x.1).1,(qfh x.2.1 x.1).2,()),fun x=>[yf x.2.1]⟩
def qy3 (s:qj.den) (f:qk.den):Fr (qi [qj,i64]):=
 Fr.br (decide (aI s f<0)) (Fr.val (s,7,())) (Fr.need (0<=aI s f/\aI s f<((kr s).length:Int)) (Fr.br (decide (qif f>IntKind.i64.wrap (4000000000000000000-(qe1 s (aI s f)).2.1))) (Fr.val (s,5,()))
  (Fr.need ((kr s).length<=100000) (Fr.need (0<=aI s f/\aI s f<((kr s).length:Int)) (Fr.val (qhb s ((kr s).set (aI s f).toNat ((qe1 s (aI s f)).1,IntKind.i64.wrap ((qe1 s (aI s f)).2.1+qif f),())),0,()))))))
theorem zwy (s:qj.den) (f:qk.den) (hs:yf s):(qy3 s f).ok/\(qy3 s f).get=((qfh s f).1,(qfh s f).2,()):=by
 unfold qfh
 cases h1:decide (aI s f<0)
 ·refine Fr.br_f (by first|rfl|exact h1) ?_
  have hi:=of_decide_eq_false h1
  refine Fr.need_ (qnd hi) ?_
  cases h2:decide (qif f>IntKind.i64.wrap (4000000000000000000-(qe1 s (aI s f)).2.1))
  ·refine Fr.br_f (by first|rfl|exact h2) ?_
   exact Fr.need_ hs.2.1 (Fr.need_ (qnd hi) ⟨trivial,rfl⟩)
  ·exact Fr.br_t (by first|rfl|exact h2) ⟨trivial,rfl⟩
 ·exact Fr.br_t (by first|rfl|exact h1) ⟨trivial,rfl⟩
theorem zwz:qa Tryz.prog 272 zpd:=
 conv (qg qqx (Λ:=qq) (fn:=Tryz.f272) (fr:=fun x=>qy3 x.2.1 x.1) (ps:=PDo) (rs:=[qj,i64]) (dfP PDo) (by kernel_rfl) (fun c E _=>qe c 0) (fun x=>by kernel_rfl)) _ _ (fun _ _ x _ _ h=>zwy x.2.1 x.1 h)
def zpc:Ct:=⟨PDo,[qj,i64],fun x=>((qfg x.2.1 x.1).1,(qfg x.2.1 x.1).2,()),fun x=>[yf x.2.1]⟩
def qy2 (s:qj.den) (f:qk.den):Fr (qi [qj,i64]):=
 Fr.br (decide (qe5 s (qao f).1≥0)) (Fr.val (s,8,())) (Fr.br (decide (((List.length (xb s):Nat):Int)≥2000)) (Fr.val (s,2,())) (Fr.br (!(lA s f).2) (Fr.val (s,7,()))
  (Fr.need (jj (lA s f).1.1) (Fr.need (wn s.1) (Fr.need nF (Fr.need ((xb s).length<=100000) (Fr.val (qxk s (qbe gId (xb s) (qao f,[],())),(qyp (lA s f).1.1 s.1 (qao f)).2,()))))))))
theorem zww (s:qj.den) (f:qk.den) (hs:yf s):(qy2 s f).ok/\(qy2 s f).get=((qfg s f).1,(qfg s f).2,()):=by
 unfold qfg
 cases h1:decide (qe5 s (qao f).1≥0)
 ·refine Fr.br_f (by first|rfl|exact h1) ?_
  cases h2:decide (((List.length (xb s):Nat):Int)≥2000)
  ·refine Fr.br_f (by first|rfl|exact h2) ?_
   cases h3 : !(lA s f).2
   ·refine Fr.br_f (by first|rfl|exact h3) ?_
    exact Fr.need_ (zvu hs _) (Fr.need_ hs.1 (Fr.need_ (fun _ _=>trivial) (Fr.need_ hs.2.2.1 ⟨trivial,rfl⟩)))
   ·exact Fr.br_t (by first|rfl|exact h3) ⟨trivial,rfl⟩
  ·exact Fr.br_t (by first|rfl|exact h2) ⟨trivial,rfl⟩
 ·exact Fr.br_t (by first|rfl|exact h1) ⟨trivial,rfl⟩
theorem zwx:qa Tryz.prog 273 zpc:=
 conv (qg qqx (Λ:=qq) (fn:=Tryz.f273) (fr:=fun x=>qy2 x.2.1 x.1) (ps:=PDo) (rs:=[qj,i64]) (dfP PDo) (by kernel_rfl) (fun c E _=>qe c 0) (fun x=>by kernel_rfl)) _ _ (fun _ _ x _ _ h=>zww x.2.1 x.1 h)
def zv1:Ct:=⟨PDo,[qj,i64],fun x=>((qh0 x.2.1 x.1).1,(qh0 x.2.1 x.1).2,()),fun x=>[yf x.2.1]⟩
def zc5 (s:qj.den) (f:qk.den):Fr (qi [qj,i64]):=
 Fr.br (decide (gI s f<0)) (Fr.val (s,7,())) (Fr.need (0<=gI s f/\gI s f<((xb s).length:Int)) (Fr.need ((xb s).length<=100000) (Fr.need (0<=gI s f/\gI s f<((xb s).length:Int)) (Fr.val (qxk s ((xb s).set (gI s f).toNat (pG s f).1),(pG s f).2,())))))
theorem ybu (s:qj.den) (f:qk.den) (hs:yf s):(zc5 s f).ok/\(zc5 s f).get=((qh0 s f).1,(qh0 s f).2,()):=by
 unfold qh0
 cases h1:decide (gI s f<0)
 ·refine Fr.br_f (by first|rfl|exact h1) ?_
  have hi:=of_decide_eq_false h1
  exact Fr.need_ (zpl hi) (Fr.need_ hs.2.2.1 (Fr.need_ (zpl hi) ⟨trivial,rfl⟩))
 ·exact Fr.br_t (by first|rfl|exact h1) ⟨trivial,rfl⟩
theorem ybv:qa Tryz.prog 284 zv1:=
 conv (qg qqx (Λ:=qq) (fn:=Tryz.f284) (fr:=fun x=>zc5 x.2.1 x.1) (ps:=PDo) (rs:=[qj,i64]) (dfP PDo) (by kernel_rfl) (fun c E _=>qe c 0) (fun x=>by kernel_rfl)) _ _ (fun _ _ x _ _ h=>ybu x.2.1 x.1 h)
abbrev qbq:List PT:=[.d .unit,.d qk]
def zuh (f:qk.den):qk.den:=(zt f,za f,0,qif f,qfw f,((0,0,()),(0,0,0,0,()),[],()),qei f,qao f,qsj f,jh f,())
def qn1:Ct:=⟨qbq,[qk],fun x=>(zuh x.2.1,()),fun _=>[]⟩
theorem yd8:qa Tryz.prog 313 qn1:=
 conv (qg xk (Λ:=qq) (fn:=Tryz.f313) (fr:=fun x=>Fr.val (zuh x.2.1,())) (ps:=qbq) (rs:=[qk]) (dfP qbq) (by kernel_rfl) (fun c E _=>qe c 0) (fun x=>by kernel_rfl)) _ _ (fun _ _ _ _ _ _=>⟨trivial,rfl⟩)
def zui (f:qk.den):qk.den:=(zt f,za f,0,qif f,qfw f,qhp f,(0,0,0,(0,0,0,0,()),[],0,()),qao f,qsj f,jh f,())
def qq2:Ct:=⟨qbq,[qk],fun x=>(zui x.2.1,()),fun _=>[]⟩
theorem yd9:qa Tryz.prog 314 qq2:=
 conv (qg xk (Λ:=qq) (fn:=Tryz.f314) (fr:=fun x=>Fr.val (zui x.2.1,())) (ps:=qbq) (rs:=[qk]) (dfP qbq) (by kernel_rfl) (fun c E _=>qe c 0) (fun x=>by kernel_rfl)) _ _ (fun _ _ _ _ _ _=>⟨trivial,rfl⟩)
def zuj (f:qk.den):qk.den:=(zt f,za f,0,0,qfw f,qhp f,qei f,qao f,qsj f,jh f,())
def qq3:Ct:=⟨qbq,[qk],fun x=>(zuj x.2.1,()),fun _=>[]⟩
theorem yea:qa Tryz.prog 315 qq3:=
 conv (qg xk (Λ:=qq) (fn:=Tryz.f315) (fr:=fun x=>Fr.val (zuj x.2.1,())) (ps:=qbq) (rs:=[qk]) (dfP qbq) (by kernel_rfl) (fun c E _=>qe c 0) (fun x=>by kernel_rfl)) _ _ (fun _ _ _ _ _ _=>⟨trivial,rfl⟩)
def zuk (f:qk.den):qk.den:=(zt f,za f,fId f,qif f,qfw f,qhp f,qei f,(0,0,0,0,0,0,()),qsj f,jh f,())
def qq4:Ct:=⟨qbq,[qk],fun x=>(zuk x.2.1,()),fun _=>[]⟩
theorem yeb:qa Tryz.prog 316 qq4:=
 conv (qg xk (Λ:=qq) (fn:=Tryz.f316) (fr:=fun x=>Fr.val (zuk x.2.1,())) (ps:=qbq) (rs:=[qk]) (dfP qbq) (by kernel_rfl) (fun c E _=>qe c 0) (fun x=>by kernel_rfl)) _ _ (fun _ _ _ _ _ _=>⟨trivial,rfl⟩)
def zul (f:qk.den):qk.den:=(zt f,za f,0,qif f,qfw f,qhp f,qei f,qao f,(0,0,0,()),jh f,())
def qq5:Ct:=⟨qbq,[qk],fun x=>(zul x.2.1,()),fun _=>[]⟩
theorem yec:qa Tryz.prog 317 qq5:=
 conv (qg xk (Λ:=qq) (fn:=Tryz.f317) (fr:=fun x=>Fr.val (zul x.2.1,())) (ps:=qbq) (rs:=[qk]) (dfP qbq) (by kernel_rfl) (fun c E _=>qe c 0) (fun x=>by kernel_rfl)) _ _ (fun _ _ _ _ _ _=>⟨trivial,rfl⟩)
def zum (f:qk.den):qk.den:=(zt f,za f,fId f,qif f,qfw f,qhp f,qei f,qao f,qsj f,(0,0,(0,0,()),0,0,0,0,0,()),())
def qq6:Ct:=⟨qbq,[qk],fun x=>(zum x.2.1,()),fun _=>[]⟩
theorem yed:qa Tryz.prog 318 qq6:=
 conv (qg xk (Λ:=qq) (fn:=Tryz.f318) (fr:=fun x=>Fr.val (zum x.2.1,())) (ps:=qbq) (rs:=[qk]) (dfP qbq) (by kernel_rfl) (fun c E _=>qe c 0) (fun x=>by kernel_rfl)) _ _ (fun _ _ _ _ _ _=>⟨trivial,rfl⟩)
def zun (f:qk.den):qk.den:=(zt f,za f,fId f,qif f,0,qhp f,qei f,qao f,qsj f,jh f,())
def qq7:Ct:=⟨qbq,[qk],fun x=>(zun x.2.1,()),fun _=>[]⟩
theorem yee:qa Tryz.prog 319 qq7:=
 conv (qg xk (Λ:=qq) (fn:=Tryz.f319) (fr:=fun x=>Fr.val (zun x.2.1,())) (ps:=qbq) (rs:=[qk]) (dfP qbq) (by kernel_rfl) (fun c E _=>qe c 0) (fun x=>by kernel_rfl)) _ _ (fun _ _ _ _ _ _=>⟨trivial,rfl⟩)
noncomputable def ygn:List (FuncId×Ct):=[(96,qaf),(97,zg1),(98,qhk),(99,qeg),(100,zii),(27,qne),(41,qj8),(313,qn1),(314,qq2),(315,qq3),(316,qq4),(317,qq5),(318,qq6),(319,qq7)]
noncomputable def yr8:Cx:=cx ygn []
theorem yhi:CxOK Tryz.prog yr8:=zc (cs:=ygn) (ps:=[]) qv ⟨ynv,yh7,qv8,qr9,ybe,zd7,zfh,yd8,yd9,yea,yeb,yec,yed,yee,trivial⟩ trivial
def qiq (x:qn [.d qk]):Fr (qi [.bool]):=
 Fr.need ((bif bif (yy esF (qaf.f (x.1.2.1,())).1.1).isNone then true else decide (x.1.1<1) then true else decide (x.1.1>292194))=false->(qaf.f (x.1.2.1,())).1.1=1->qr ([]++([]++[])++qn1.ok ((),x.1,()))) (Fr.need ((bif bif (yy esF (qaf.f (x.1.2.1,())).1.1).isNone then true else decide (x.1.1<1) then true else decide (x.1.1>292194))=false->(qaf.f (x.1.2.1,())).1.1≠1->qr [(qaf.f (x.1.2.1,())).1.1=2->qr ([]++([]++[])++qq2.ok ((),x.1,())),(qaf.f (x.1.2.1,())).1.1≠2->qr [(qaf.f (x.1.2.1,())).1.1=3->qr ([]++([]++[])++qq3.ok ((),x.1,())),(qaf.f (x.1.2.1,())).1.1≠3->qr [(qaf.f (x.1.2.1,())).1.1=4->qr ([]++([]++[])++qq4.ok ((),x.1,())),(qaf.f (x.1.2.1,())).1.1≠4->qr [(qaf.f (x.1.2.1,())).1.1=5->qr ([]++([]++[])++qq5.ok ((),x.1,())),(qaf.f (x.1.2.1,())).1.1≠5->qr [(qaf.f (x.1.2.1,())).1.1=6->qr ([]++([]++[])++qq6.ok ((),x.1,())),(qaf.f (x.1.2.1,())).1.1≠6->qr (((qaf.f (x.1.2.1,())).1.1=7)::([]++([]++[])++qq7.ok ((),x.1,())))]]]]]) (Fr.br (bif bif bif (yy esF (qaf.f (x.1.2.1,())).1.1).isNone then true else decide (x.1.1<1) then true else decide (x.1.1>292194) then true else !(zg1.f ((bif (qaf.f (x.1.2.1,())).1.1==1 then qn1.f ((),x.1,()) else bif (qaf.f (x.1.2.1,())).1.1==2 then qq2.f ((),x.1,()) else bif (qaf.f (x.1.2.1,())).1.1==3 then qq3.f ((),x.1,()) else bif (qaf.f (x.1.2.1,())).1.1==4 then qq4.f ((),x.1,()) else bif (qaf.f (x.1.2.1,())).1.1==5 then qq5.f ((),x.1,()) else bif (qaf.f (x.1.2.1,())).1.1==6 then qq6.f ((),x.1,()) else qq7.f ((),x.1,())).1,())).1) (Fr.val (false,())) (Fr.br (yy esF (qaf.f (x.1.2.1,())).1.1==some 173) (Fr.val (bif bif decide (x.1.2.2.1≥1) then decide (x.1.2.2.1<=1000000000) else false then (qhk.f (x.1.2.2.2.2.2.1,())).1 else false,())) (Fr.br (yy esF (qaf.f (x.1.2.1,())).1.1==some 175) (Fr.val (bif bif bif decide (x.1.2.2.1≥1) then decide (x.1.2.2.1<=1000000000) else false then (qeg.f (x.1.2.2.2.2.2.2.1,())).1 else false then x.1.2.2.2.2.2.2.1.1==x.1.1 else false,())) (Fr.br (yy esF (qaf.f (x.1.2.1,())).1.1==some 177) (Fr.val (bif bif bif decide (x.1.2.2.1≥1) then decide (x.1.2.2.1<=1000000000) else false then decide (x.1.2.2.2.1≥1) else false then decide (x.1.2.2.2.1<=1000000000000000) else false,())) (Fr.br (yy esF (qaf.f (x.1.2.1,())).1.1==some 178) (Fr.val (bif (zii.f (x.1.2.2.2.2.2.2.2.1,())).1 then x.1.2.2.2.2.2.2.2.1.2.2.2.2.1==x.1.1 else false,())) (Fr.br (yy esF (qaf.f (x.1.2.1,())).1.1==some 179) (Fr.val (bif bif bif decide (x.1.2.2.1≥1) then decide (x.1.2.2.1<=1000000000) else false then (qne.f (x.1.2.2.2.2.2.2.2.2.1,())).1 else false then x.1.2.2.2.2.2.2.2.2.1.1==x.1.1 else false,())) (Fr.br (yy esF (qaf.f (x.1.2.1,())).1.1==some 180) (Fr.val ((qj8.f (x.1.2.2.2.2.2.2.2.2.2.1,())).1,())) (Fr.val (bif decide (x.1.2.2.2.2.1≥1) then decide (x.1.2.2.2.2.1<=x.1.1) else false,()))))))))))
theorem zjw:qa Tryz.prog 63 ⟨[.d qk],[.bool],fun xs=>(qiq xs).get,fun xs=>[(qiq xs).ok]⟩:=
 qg yhi (Λ:=qq) (fn:=Tryz.f63) (dfP [.d qk]) (by kernel_rfl) (fun c E _=>qe c 0) (fun x=>by kernel_rfl)
def qxb (f:qk.den):qk.den:=
 bif za f==1 then zuh f else bif za f==2 then zui f else bif za f==3 then zuj f else bif za f==4 then zuk f else bif za f==5 then zul f else bif za f==6 then zum f else zun f
def idF (f:qk.den):Bool:=decide (fId f≥1)&&decide (fId f<=1000000000)
def zre (f:qk.den):Bool:=
 bif za f==1 then idF f&&qeu (qhp f) else bif za f==2 then (idF f&&xy (qei f))&&(qei f).1==zt f
  else bif za f==3 then (idF f&&decide (qif f≥1))&&decide (qif f<=1000000000000000) else bif za f==4 then zv3 (qao f)&&(qao f).2.2.2.2.1==zt f
  else bif za f==5 then (idF f&&qng (qsj f))&&(qsj f).1==zt f else bif za f==6 then qab (jh f) else decide (qfw f≥1)&&decide (qfw f<=zt f)
def vg (f:qk.den):Bool:=
 (decide (1<=za f)&&decide (za f<=7))&&((decide (1<=zt f)&&decide (zt f<=292194))&&(qzr (qxb f)&&zre f))
theorem qfv (a b:Bool):(bif a then b else false)=(a&&b):=by cases a<;>rfl
theorem ymw (a b:Bool):(bif a then true else b)=(a || b):=by cases a<;>rfl
theorem zp4 {k:Int} (h:1<=k/\k<=7) (h1:k≠1) (h2:k≠2) (h3:k≠3) (h4:k≠4) (h5:k≠5) (h6:k≠6):k=7:=by omega
theorem zn1 {f:qk.den} (h:za f<1∨za f>7):(qiq (f,())).ok/\(qiq (f,())).get=(vg f,()):=by
 have hn:yy esF (za f)=none:=qy6 h
 have hf:vg f=false:=by
  unfold vg
  rcases h with h|h
  ·rw [show decide (1<=za f)=false from decide_eq_false (by omega)]; rfl
  ·rw [show decide (za f<=7)=false from decide_eq_false (by omega),Bool.and_false]; rfl
 rw [hf]
 have hb:(bif bif (yy esF (za f)).isNone then true else decide (zt f<1) then true else decide (zt f>292194))=true:=by rw [hn]; rfl
 refine Fr.need_ (fun h0=>absurd (hb.symm.trans h0) (by decide)) (Fr.need_ (fun h0=>absurd (hb.symm.trans h0) (by decide)) (Fr.br_t ?_ ⟨trivial,rfl⟩))
 show (bif (bif bif (yy esF (za f)).isNone then true else decide (zt f<1) then true else decide (zt f>292194)) then true else _)=true
 rw [hb]
 rfl
theorem zn2 {f:qk.den} (h:1<=za f/\za f<=7):(qiq (f,())).ok/\(qiq (f,())).get=(vg f,()):=by
 have hc:(bif bif (yy esF (za f)).isNone then true else decide (zt f<1) then true else decide (zt f>292194))=(decide (zt f<1) || decide (zt f>292194)):=by
  rcases qxd h with e|e|e|e|e|e|e<;>rw [e]<;>exact ymw _ _
 have hn1:za f=1->qr ([]++([]++[])++qn1.ok ((),f,())):=fun _=>trivial
 refine Fr.need_ (fun _ _=>trivial) (Fr.need_ (fun _=>?_) ?_)
 ·show za f≠1->(_/\_)
  intro h1
  exact ⟨fun _=>trivial,fun h2=>⟨fun _=>trivial,fun h3=>⟨fun _=>trivial,fun h4=>⟨fun _=>trivial,fun h5=>⟨fun _=>trivial,fun h6=>zp4 h h1 h2 h3 h4 h5 h6⟩⟩⟩⟩⟩
 have hr:(bif za f==1 then qn1.f ((),f,()) else bif za f==2 then qq2.f ((),f,()) else bif za f==3 then qq3.f ((),f,()) else bif za f==4 then qq4.f ((),f,()) else bif za f==5 then qq5.f ((),f,()) else bif za f==6 then qq6.f ((),f,()) else qq7.f ((),f,()))=(qxb f,()):=by
  unfold qxb
  rcases qxd h with e|e|e|e|e|e|e<;>rw [e]<;>rfl
 have hk:(decide (1<=za f)&&decide (za f<=7))=true:=by rw [decide_eq_true h.1,decide_eq_true h.2]; rfl
 have hcond:(bif bif bif (yy esF (za f)).isNone then true else decide (zt f<1) then true else decide (zt f>292194) then true else !(zg1.f ((bif za f==1 then qn1.f ((),f,()) else bif za f==2 then qq2.f ((),f,()) else bif za f==3 then qq3.f ((),f,()) else bif za f==4 then qq4.f ((),f,()) else bif za f==5 then qq5.f ((),f,()) else bif za f==6 then qq6.f ((),f,()) else qq7.f ((),f,())).1,())).1)
   = !((decide (1<=zt f)&&decide (zt f<=292194))&&qzr (qxb f)):=by
  rw [hr,hc,ymw]
  show ((decide (zt f<1) || decide (zt f>292194)) || !(qzr (qxb f)))=_
  rw [Bool.not_and,Bool.not_and,← decide_not,← decide_not]
  congr 2
  ·exact decide_eq_decide.mpr (by omega)
  ·exact decide_eq_decide.mpr (by omega)
 cases hb:(decide (1<=zt f)&&decide (zt f<=292194))&&qzr (qxb f)
 ·have hF:vg f=false:=by unfold vg; rw [← Bool.and_assoc (decide (1<=zt f)&&_),hb,Bool.false_and,Bool.and_false]
  rw [hF]
  exact Fr.br_t (hcond.trans (by rw [hb]; rfl)) ⟨trivial,rfl⟩
 ·have hF:vg f=zre f:=by unfold vg; rw [← Bool.and_assoc (decide (1<=zt f)&&_),hb,hk,Bool.true_and,Bool.true_and]
  rw [hF]
  refine Fr.br_f (hcond.trans (by rw [hb]; rfl)) ?_
  obtain ⟨bk,k,id,amt,day,tm,ch,cl,ac,tr,_⟩:=f
  have e':=qxd h
  rcases e' with e|e|e|e|e|e|e
  all_goals
   have e1:k=_:=e
   subst e1
  ·exact Fr.br_t rfl ⟨trivial,by rw [qfv,qfv]; rfl⟩
  ·exact Fr.br_f rfl (Fr.br_t rfl ⟨trivial,by rw [qfv,qfv,qfv]; rfl⟩)
  ·exact Fr.br_f rfl (Fr.br_f rfl (Fr.br_t rfl ⟨trivial,by rw [qfv,qfv,qfv]; rfl⟩))
  ·exact Fr.br_f rfl (Fr.br_f rfl (Fr.br_f rfl (Fr.br_t rfl ⟨trivial,by rw [qfv]; rfl⟩)))
  ·exact Fr.br_f rfl (Fr.br_f rfl (Fr.br_f rfl (Fr.br_f rfl (Fr.br_t rfl ⟨trivial,by rw [qfv,qfv,qfv]; rfl⟩))))
  ·exact Fr.br_f rfl (Fr.br_f rfl (Fr.br_f rfl (Fr.br_f rfl (Fr.br_f rfl (Fr.br_t rfl ⟨trivial,rfl⟩)))))
  ·exact Fr.br_f rfl (Fr.br_f rfl (Fr.br_f rfl (Fr.br_f rfl (Fr.br_f rfl (Fr.br_f rfl ⟨trivial,by rw [qfv]; rfl⟩)))))
def qnf:Ct:=⟨[.d qk],[.bool],fun x=>(vg x.1,()),fun _=>[]⟩
theorem ze0:qa Tryz.prog 63 qnf:=conv zjw _ _ (fun _ _ x _ _ _=>by
 by_cases h:1<=za x.1/\za x.1<=7
 ·exact zn2 h
 ·exact zn1 (by omega))
end Go.Proofs.YtgieagiaagoogaaGreat
namespace Go.Proofs.YtgieagiaagoogaaGreat
open Go Go.Ab Go.RowKit Go.Proofs Go.Shelf Go.Lib
def esK:List (Int×TypeId):=[(1,134),(2,135),(3,136),(4,137),(5,138),(6,139),(7,140)]
def kdV (k:Int) (v:Value):Value:=match yy esK k with
 |some ty=>.iface ty v
 |none=>.nilIface
def kdA (v:Value):Array Value:=#[.nilIface,.iface 134 v,.iface 135 v,.iface 136 v,.iface 137 v,.iface 138 v,.iface 139 v,.iface 140 v]
set_option maxRecDepth 100000 in
theorem yc8 (k:Int) (hk:1<=k/\k<=7) (v:Value) (w:World):(Instr.index 141 (.agg (kdA v)) (.int .i64 k)).run Tryz.prog w = .ok (kdV k v) w:=by
 rcases qxd hk with rfl|rfl|rfl|rfl|rfl|rfl|rfl<;>kernel_rfl
set_option maxHeartbeats 4000000 in
set_option maxRecDepth 100000 in
theorem ydc (k:Int) (hk:1<=k/\k<=7) (cs:Array Value) (hs:cs.size=39) (h1:cs[1]? = some (.int .i64 k)) (R:Ending->World->Prop) (w:World) (hR:∀ o,R (.returned (kdV k (.agg cs))) (w.alloc o)):Calls Tryz.prog 36 #[.agg cs] w R:=by
 have hh:(w.alloc (.cells cs 46)).heap[w.heap.size]? = some (.cells cs 46 (0,0)):=World.alloc_heap_new w _
 have hr:(w.alloc (.cells cs 46)).rangeAt w.heap.size 0 cs.toList:=fun j v hv=>by
  rw [qj9 hh]; simpa using hv
 have hc:(w.alloc (.cells cs 46)).cell? ⟨w.heap.size,1,none⟩=some (.int .i64 k):=by rw [qj9 hh]; exact h1
 have hi:(Tryz.prog.info? 46).map (·.size)=some cs.toList.length:=by rw [Array.length_toList,hs]; kernel_rfl
 have hx:=yc8 k hk (.agg cs)
 unfold kdA at hx
 go_enter Tryz.func36,Tryz.ntmps36
 go_wp2_with (first|(refine wpList_load_mid rfl 46 _ rfl w.heap.size 0 rfl cs.toList _ hr Tryz.underlying46 rfl hi ?_)|simp only [Array.toArray_toList])
 exact hR _
def zv4:Ct:=⟨[.d qk],[.ic esK qk],fun x=>((za x.1,x.1),()),fun x=>[1<=za x.1/\za x.1<=7]⟩
theorem yjm:qa Tryz.prog 36 zv4:=by
 refine ⟨enters_of Tryz.func36 (by kernel_rfl) rfl,fun w F xs vs hbd hr hok=>?_⟩
 obtain ⟨f,_⟩:=xs
 obtain ⟨v,vs',rfl,hv,hn⟩:=hr
 cases hn
 have hv:zv w F qk f v:=hv
 obtain ⟨cs,rfl⟩:=hv.2.1.1 rfl
 have hs:cs.size=39:=hv.1
 have h1:cs[1]? = some (.int .i64 (za f)):=hv.2.2.2.1.1
 refine ydc (za f) hok cs hs h1 _ w fun o=>zbi hbd ?_
 unfold kdV
 split
 ·rename_i ty h
  exact ze3 h hv
 ·rename_i h
  exact zbb h
end Go.Proofs.YtgieagiaagoogaaGreat
namespace Go.Proofs.YtgieagiaagoogaaGreat
open Go Go.Ab Go.RowKit Go.Proofs
noncomputable def yr9:Cx:=cx [(63,qnf)] []
theorem yhj:CxOK Tryz.prog yr9:=zc (cs:=[(63,qnf)]) (ps:=[]) qv ⟨ze0,trivial⟩ trivial
def qhh (s:qj.den) (f:qk.den):Int:=bif !(vg f) then 1 else bif decide (zt f<=qmr s) then 12 else 0
def zrn:Ct:=⟨[.d qj,.d qk],[i64],fun x=>(qhh x.1 x.2.1,()),fun _=>[]⟩
theorem yoy:qa Tryz.prog 35 zrn:=
 conv (qg yhj (Λ:=qq) (fn:=Tryz.f35) (fr:=fun x=>Fr.br (!(vg x.2.1)) (Fr.val (1,())) (Fr.br (decide (zt x.2.1<=qmr x.1)) (Fr.val (12,())) (Fr.val (0,())))) (ps:=zrn.ps) (rs:=[i64]) (dfP zrn.ps) (by kernel_rfl) (fun c E _=>qe c 0) (fun x=>by kernel_rfl)) _ _ (fun _ _ x _ _ _=>by
  obtain ⟨s,f,_⟩:=x
  show _/\_=(qhh s f,())
  unfold qhh
  cases h1 : !(vg f)
  ·refine Fr.br_f (by first|rfl|exact h1) ?_
   cases h2:decide (zt f<=qmr s)
   ·exact Fr.br_f (by first|rfl|exact h2) ⟨trivial,rfl⟩
   ·exact Fr.br_t (by first|rfl|exact h2) ⟨trivial,rfl⟩
  ·exact Fr.br_t (by first|rfl|exact h1) ⟨trivial,rfl⟩)
noncomputable def ygo:List (FuncId×Ct):=[(35,zrn),(36,zv4),(255,zpb),(267,zil),(272,zpd),(273,zpc),(284,zv1),(295,zd6),(312,zim)]
noncomputable def yqj:Cx:=cx ygo []
theorem yah:CxOK Tryz.prog yqj:=zc (cs:=ygo) (ps:=[]) qv ⟨yoy,yjm,zwv,zse,zwz,zwx,ybv,znl,zsf,trivial⟩ trivial
abbrev s00:qj.den:=(([],()),[],[],[],0,())
def doY (s:qj.den) (f:qk.den):qi [qj,i64]:=bif za f==1 then ((qff s f).1,(qff s f).2,()) else bif za f==2 then ((qdn s f).1,(qdn s f).2,()) else bif za f==3 then ((qfh s f).1,(qfh s f).2,()) else bif za f==4 then ((qfg s f).1,(qfg s f).2,()) else bif za f==5 then ((qh0 s f).1,(qh0 s f).2,()) else bif za f==6 then ((qcg s f).1,(qcg s f).2,()) else ((qdo s f).1,(qdo s f).2,())
def doF (s:qj.den) (f:qk.den):qj.den×Int:=((doY s f).1,(doY s f).2.1)
def qbc (s:qj.den) (f:qk.den):qj.den×Int:=
 bif qhh s f != 0 then (s00,qhh s f) else bif (doF s f).2 != 0 then (s00,(doF s f).2) else ((doF s f).1,0)
abbrev PSF:List PT:=[.d qj,.d qk]
def cDo:Ct:=⟨PSF,[qj,i64],fun x=>((qbc x.1 x.2.1).1,(qbc x.1 x.2.1).2,()),fun x=>[yf x.1]⟩
def ycm (s:qj.den) (f:qk.den):Fr (qi [qj,i64]):=
 Fr.br (qhh s f != 0) (Fr.val (s00,qhh s f,())) (Fr.need (1<=za f/\za f<=7) (Fr.need (za f=1->qr [yf s]) (Fr.need (za f≠1->qr [za f=2->qr [yf s],za f≠2->qr [za f=3->qr [yf s],za f≠3->qr [za f=4->qr [yf s],za f≠4->qr [za f=5->qr [yf s],za f≠5->qr [za f=6->qr ([]:List Prop),za f≠6->qr [za f=7]]]]]])
  (Fr.br ((doY s f).2.1 != 0) (Fr.val (s00,(doY s f).2.1,())) (Fr.val ((doY s f).1,0,()))))))
theorem zfa {s:qj.den} {f:qk.den} (h:qhh s f=0):vg f=true/\qmr s<zt f:=by
 unfold qhh at h
 cases h1:vg f
 ·rw [h1] at h; have h:(1:Int)=0:=h; exact absurd h (by decide)
 ·rw [h1] at h
  refine ⟨rfl,?_⟩
  by_cases h2:zt f<=qmr s
  ·rw [decide_eq_true h2] at h; exact absurd h (by decide)
  ·omega
theorem qxy {f:qk.den} (h:vg f=true):1<=za f/\za f<=7:=by
 unfold vg at h
 rw [Bool.and_eq_true,Bool.and_eq_true] at h
 exact ⟨of_decide_eq_true h.1.1,of_decide_eq_true h.1.2⟩
theorem yqr (s:qj.den) (f:qk.den) (hs:yf s):(ycm s f).ok/\(ycm s f).get=((qbc s f).1,(qbc s f).2,()):=by
 unfold qbc
 cases h1:qhh s f != 0
 ·refine Fr.br_f (by first|rfl|exact h1) ?_
  have h0:qhh s f=0:=by simpa using h1
  have hk:=qxy (zfa h0).1
  refine Fr.need_ hk (Fr.need_ (fun _=>hs) (Fr.need_ (fun k1=>?_) ?_))
  ·exact ⟨fun _=>hs,fun k2=>⟨fun _=>hs,fun k3=>⟨fun _=>hs,fun k4=>⟨fun _=>hs,fun k5=>⟨fun _=>trivial,fun k6=>zp4 hk k1 k2 k3 k4 k5 k6⟩⟩⟩⟩⟩
  ·cases h2:(doF s f).2 != 0
   ·exact Fr.br_f (by first|rfl|exact h2) ⟨trivial,rfl⟩
   ·exact Fr.br_t (by first|rfl|exact h2) ⟨trivial,rfl⟩
 ·exact Fr.br_t (by first|rfl|exact h1) ⟨trivial,rfl⟩
theorem zha:qa Tryz.prog 14 cDo:=
 conv (qg yah (Λ:=qq) (fn:=Tryz.f14) (fr:=fun x=>ycm x.1 x.2.1) (ps:=PSF) (rs:=[qj,i64]) (dfP PSF) (by kernel_rfl) (fun c E _=>qe c 0) (fun x=>by kernel_rfl)) _ _ (fun _ _ x _ _ h=>yqr x.1 x.2.1 h)
noncomputable def yl8:Cx:=cx [(14,cDo),(28,qr5)] []
theorem zcc:CxOK Tryz.prog yl8:=zc (cs:=[(14,cDo),(28,qr5)]) (ps:=[]) qv ⟨zha,zya,trivial⟩ trivial
abbrev qg7:Pt:=⟨41,0,⟨[(22,.d i64),(21,.d i64),(20,.d (.sl qk)),(1,.d i64)],[.x 4 29 qj,.r 4 4 0,.x 6 29 qj,.r 6 6 0]⟩,⟨[],[.x 4 29 qj,.r 4 4 0,.x 6 29 qj,.r 6 6 0]⟩,⟨[],[]⟩⟩
def ygu (x:qg7.M.X):Fr qg7.Out:=
 Fr.br (decide (x.1.1<x.1.2.1)) (Fr.need (0<=x.1.1/\x.1.1<((List.length x.1.2.2.1):Int)) (Fr.br (decide ((List.getD x.1.2.2.1 (Int.toNat x.1.1) qk.dflt).1>x.1.2.2.2.1)) (Fr.val (Rd.next ((IntKind.i64.wrap (x.1.1+1),x.1.2.1,x.1.2.2.1,x.1.2.2.2.1,()),x.2.1,x.2.2.1,()))) (Fr.need (yf x.2.2.1) (Fr.br ((cDo.f (x.2.2.1,(List.getD x.1.2.2.1 (Int.toNat x.1.1) qk.dflt),())).2.1==0) (Fr.val (Rd.next ((IntKind.i64.wrap (x.1.1+1),x.1.2.1,x.1.2.2.1,x.1.2.2.2.1,()),x.2.1,(cDo.f (x.2.2.1,(List.getD x.1.2.2.1 (Int.toNat x.1.1) qk.dflt),())).1,()))) (Fr.val (Rd.next ((IntKind.i64.wrap (x.1.1+1),x.1.2.1,x.1.2.2.1,x.1.2.2.2.1,()),x.2.1,x.2.2.1,()))))))) (Fr.val (Rd.out ((),x.2.1,x.2.2.1,())))
theorem ypm:qf Tryz.prog (qo Tryz.f17 0) qg7.M qg7 ygu:=
 qf.of_run zcc (bs:=0) (Λ:=qq) rfl rfl rfl (fun E=>qe _ 0) (fun x=>by kernel_rfl)
abbrev zb1:Type:=qn [.d i64]×jd [.x 4 29 qj,.r 4 4 0,.x 6 29 qj,.r 6 6 0]
def qc1 (e:qk.den) (s:zb1):Fr zb1:=
 Fr.br (decide (e.1>s.1.1)) (Fr.val s) (Fr.need (yf s.2.2.1) (Fr.br ((cDo.f (s.2.2.1,e,())).2.1==0) (Fr.val ((s.1.1,()),s.2.1,(cDo.f (s.2.2.1,e,())).1,())) (Fr.val s)))
def qj3 (x:qg7.M.X):Int×List qk.den×zb1:=(x.1.1,x.1.2.2.1,x.1.2.2.2,x.2)
def qw3 (x:qg7.M.X):Prop:=x.1.2.1=(x.1.2.2.1.length:Int)
def zbe (s:zb1):qg7.E.X:=((),s.2.1,s.2.2.1,())
theorem yj4:qf Tryz.prog (.loop (qo Tryz.f17 0)) qg7.M qg7 (FF qc1 qj3 qw3 zbe):=by
 refine qf.fold ypm qc1 qj3 qw3 zbe ?_ ?_
 ·rintro ⟨⟨i,n,l,s⟩,m⟩ hg h0 h1 hb e he Q h
  have hg:n=(l.length:Int):=hg
  subst hg
  have h0:0<=i:=h0
  have h1:i<(l.length:Int):=h1
  have hb:(l.length:Int)<=9223372036854775807:=hb
  have hd:l.getD i.toNat qk.dflt=e:=zp he
  have hw:=zu h0 h1 hb
  dsimp only [qj3,qc1,ygu,Fr.satP] at h ⊢
  simp only [hd,hw] at h ⊢
  refine ⟨fun _=>?_,fun hn=>absurd h1 (of_decide_eq_false hn)⟩
  repeat' first
   |exact h
   |exact ⟨h0,h1⟩
   |exact fun _=>⟨h0,h1⟩
   |exact h _ rfl rfl
   |(refine ⟨fun hc=>?_,fun hc=>?_⟩<;>first|replace h:=h.1 hc|replace h:=h.2 hc)
   |(refine ⟨h.1,?_⟩; replace h:=h.2)
   |refine ⟨⟨h0,h1⟩,?_⟩
   |exact h.1
   |exact h.2.1
   |exact h.2.2.1
   |refine ⟨?_,?_⟩
   |(intro (hc:_=true); replace h:=h.1 hc)
   |(intro (hc:_=false); replace h:=h.2 hc)
   |(replace h:=h.2)
 ·rintro ⟨⟨i,n,l,s⟩,m⟩ hg h1 Q h
  have hg:n=(l.length:Int):=hg
  subst hg
  exact ⟨fun hn=>absurd (of_decide_eq_true hn) h1,fun _=>h⟩
def ytg (Γ:Gm):St->Option Tr:=qg7.han Γ qg7.M (FF qc1 qj3 qw3 zbe)
def ypg (y:qg7.M.X):zb1:=goF qc1 ((qj3 y).2.1.drop (qj3 y).1.toNat) (qj3 y).2.2
def yo3 (y:qg7.M.X):Prop:=okF qc1 ((qj3 y).2.1.drop (qj3 y).1.toNat) (qj3 y).2.2
def ygr (x:qn [.d jourT,.d i64]):Fr (qi [qj,i64]):=
 Fr.br (decide (((List.length x.1.2.1):Int)>2000)) (Fr.val ((([],()),[],[],[],0,()),2,())) (Fr.need (InL (qw3 ((0,((List.length x.1.2.1):Int),x.1.2.1,x.2.1,()),(([],()),[],[],[],0,()),(qr5.f ((x.1.1.1,()),())).1,())) (qj3 ((0,((List.length x.1.2.1):Int),x.1.2.1,x.2.1,()),(([],()),[],[],[],0,()),(qr5.f ((x.1.1.1,()),())).1,()))) (Fr.need (yo3 ((0,((List.length x.1.2.1):Int),x.1.2.1,x.2.1,()),(([],()),[],[],[],0,()),(qr5.f ((x.1.1.1,()),())).1,())) (Fr.val ((zbe (ypg ((0,((List.length x.1.2.1):Int),x.1.2.1,x.2.1,()),(([],()),[],[],[],0,()),(qr5.f ((x.1.1.1,()),())).1,()))).2.2.1,0,()))))
theorem yce:qa Tryz.prog 17 ⟨[.d jourT,.d i64],[qj,i64],fun xs=>(ygr xs).get,fun xs=>[(ygr xs).ok]⟩:=
 qg zcc (Λ:=(fun _=>ytg yl8.Γ)) (fn:=Tryz.f17) (dfP [.d jourT,.d i64]) (by kernel_rfl) (fun c E hc=>jb hc (by kernel_rfl) (b:=qo Tryz.f17 0) (by kernel_rfl) (qf.han zcc rfl yj4)) (fun x=>by kernel_rfl)
theorem yc3 {α:Type} {i:Int} {l:List α} {x a:α} (h:a∈qkk i l [x]):a∈l∨a=x:=by
 unfold qkk at h
 rw [List.mem_append,List.mem_append] at h
 rcases h with (h|h)|h
 ·exact .inl (List.mem_of_mem_take h)
 ·exact .inr (List.mem_singleton.1 h)
 ·exact .inl (List.mem_of_mem_drop h)
theorem zn4 {α:Type} (i:Int) (l:List α) (x:α):(qkk i l [x]).length=l.length+1:=by
 unfold qkk
 rw [List.length_append,List.length_append,List.length_take,List.length_drop,List.length_singleton]
 omega
theorem zbh {α:Type} {g:α->Int} {l:List α} {x a:α} (h:a∈qbe g l x):a∈l∨a=x:=yc3 h
theorem qmp {α:Type} (g:α->Int) (l:List α) (x:α):(qbe g l x).length=l.length+1:=zn4 _ l x
theorem ztv {α:Type} {l:List α} {i:Nat} {x a:α} (h:a∈l.set i x):a∈l∨a=x:=List.mem_or_eq_of_mem_set h
theorem qrf {t:ze.den} (h:wn t):yf (qmk t):=⟨h,Nat.zero_le _,Nat.zero_le _,fun a ha=>by cases ha⟩
theorem yca {s:qj.den} (f:qk.den) (h:yf s):yf (qff s f).1:=by
 unfold qff
 cases h1:decide (aI s f≥0)
 ·cases h2:decide (((List.length (kr s):Nat):Int)≥2000)
  ·have h2':=of_decide_eq_false h2
   refine ⟨h.1,?_,h.2.2.1,fun a ha=>?_⟩
   ·show (qbe aId (kr s) ((bH f).1,0,())).length<=100000
    rw [qmp]; omega
   ·rcases zbh ha with ha|ha
    ·exact h.2.2.2 a ha
    ·rw [ha]; exact zid _ _ _
  ·exact h
 ·exact h
theorem zph {s:qj.den} (i:Nat) (x:zf.den) (h:yf s) (hx:jj x.1):yf (qhb s ((kr s).set i x)):=by
 refine ⟨h.1,?_,h.2.2.1,fun a ha=>?_⟩
 ·show ((kr s).set i x).length<=100000
  rw [List.length_set]; exact h.2.1
 ·rcases ztv ha with ha|ha
  ·exact h.2.2.2 a ha
  ·rw [ha]; exact hx
theorem zw6 {s:qj.den} (f:qk.den) (h:yf s):yf (qdn s f).1:=by
 unfold qdn
 cases h1:decide (aI s f<0)
 ·cases h2:(xb s).any (qye f)
  ·exact zph _ _ h (zqc (qre h (of_decide_eq_false h1)))
  ·exact h
 ·exact h
theorem ycd {s:qj.den} (f:qk.den) (h:yf s):yf (qfh s f).1:=by
 unfold qfh
 cases h1:decide (aI s f<0)
 ·cases h2:decide (qif f>IntKind.i64.wrap (4000000000000000000-(qe1 s (aI s f)).2.1))
  ·exact zph _ _ h (qre h (of_decide_eq_false h1))
  ·exact h
 ·exact h
theorem ycb {s:qj.den} (f:qk.den) (h:yf s):yf (qfg s f).1:=by
 unfold qfg
 cases h1:decide (qe5 s (qao f).1≥0)
 ·cases h2:decide (((List.length (xb s):Nat):Int)≥2000)
  ·have h2':=of_decide_eq_false h2
   cases h3 : !(lA s f).2
   ·refine ⟨h.1,h.2.1,?_,h.2.2.2⟩
    show (qbe gId (xb s) (qao f,[],())).length<=100000
    rw [qmp]; omega
   ·exact h
  ·exact h
 ·exact h
theorem yiu {s:qj.den} (f:qk.den) (h:yf s):yf (qh0 s f).1:=by
 unfold qh0
 cases h1:decide (gI s f<0)
 ·refine ⟨h.1,h.2.1,?_,h.2.2.2⟩
  show ((xb s).set (gI s f).toNat (pG s f).1).length<=100000
  rw [List.length_set]; exact h.2.2.1
 ·exact h
theorem zsl {s:qj.den} (f:qk.den) (h:yf s):yf (qcg s f).1:=by
 unfold qcg
 cases zb7 s (jh f)
 ·cases decide (((List.length (yw s):Nat):Int)≥100)
  ·cases qlb (yw s) (jh f)
   ·exact ⟨h.1,h.2.1,h.2.2.1,h.2.2.2⟩
   ·exact h
  ·exact h
 ·exact h
theorem zw7 {s:qj.den} (f:qk.den) (h:yf s):yf (qdo s f).1:=by
 unfold qdo
 cases decide (qfw f<=qmr s)
 ·exact ⟨h.1,h.2.1,h.2.2.1,h.2.2.2⟩
 ·exact h
theorem zw8 {s:qj.den} (f:qk.den) (h:yf s):yf (doF s f).1:=by
 show yf (doY s f).1
 unfold doY
 cases za f==1
 ·cases za f==2
  ·cases za f==3
   ·cases za f==4
    ·cases za f==5
     ·cases za f==6
      ·exact zw7 f h
      ·exact zsl f h
     ·exact yiu f h
    ·exact ycb f h
   ·exact ycd f h
  ·exact zw6 f h
 ·exact yca f h
def qw6 (s:qj.den) (f:qk.den):qj.den:=bif (qbc s f).2==0 then (qbc s f).1 else s
theorem zqm {s:qj.den} {f:qk.den} (h:(qbc s f).2=0):qhh s f=0/\(doF s f).2=0/\(qbc s f).1=(doF s f).1:=by
 unfold qbc at h ⊢
 cases h1:qhh s f != 0
 ·have h0:qhh s f=0:=by simpa using h1
  rw [h1] at h
  cases h2:(doF s f).2 != 0
  ·exact ⟨h0,by simpa using h2,rfl⟩
  ·rw [h2] at h
   have h':(doF s f).2=0:=h
   rw [h'] at h2; exact absurd h2 (by decide)
 ·rw [h1] at h
  have h':qhh s f=0:=h
  rw [h'] at h1; exact absurd h1 (by decide)
theorem ycc {s:qj.den} (f:qk.den) (h:yf s):yf (qw6 s f):=by
 unfold qw6
 cases h1:(qbc s f).2==0
 ·exact h
 ·show yf (qbc s f).1
  rw [(zqm (eq_of_beq h1)).2.2]
  exact zw8 f h
def qp0 (b:Int) (s:qj.den) (f:qk.den):qj.den:=bif decide (zt f>b) then s else qw6 s f
theorem zjp {b:Int} {s:qj.den} (f:qk.den) (h:yf s):yf (qp0 b s f):=by
 unfold qp0
 cases decide (zt f>b)
 ·exact ycc f h
 ·exact h
def qwy (b:Int) (l:List qk.den) (s:qj.den):qj.den:=l.foldl (qp0 b) s
theorem zjo {b:Int}:(l:List qk.den) -> {s:qj.den}->yf s->yf (qwy b l s)
 |[],_,h=>h
 |f::l,_,h=>zjo l (zjp f h)
def ofJ (j:jourT.den) (b:Int):qj.den×Int:=bif decide (((List.length (α:=qk.den) j.2.1:Nat):Int)>2000) then (s00,2) else (qwy b j.2.1 (qmk j.1),0)
theorem yj7 (e:qk.den) (b:Int) (q s:qj.den) (hs:yf s):(qc1 e ((b,()),q,s,())).ok/\(qc1 e ((b,()),q,s,())).get=((b,()),q,qp0 b s e,()):=by
 unfold qp0
 cases h1:decide (zt e>b)
 ·refine Fr.br_f (by first|rfl|exact h1) (Fr.need_ hs ?_)
  unfold qw6
  cases h2:(qbc s e).2==0
  ·exact Fr.br_f (by first|rfl|exact h2) ⟨trivial,rfl⟩
  ·exact Fr.br_t (by first|rfl|exact h2) ⟨trivial,rfl⟩
 ·exact Fr.br_t (by first|rfl|exact h1) ⟨trivial,rfl⟩
theorem yg2 (b:Int) (q:qj.den):(l:List qk.den)->(s:qj.den)->yf s->okF qc1 l ((b,()),q,s,())/\goF qc1 l ((b,()),q,s,())=((b,()),q,qwy b l s,())
 |[],_,_=>⟨trivial,rfl⟩
 |e::l,s,hs=>by
  have h1:=yj7 e b q s hs
  have h2:=yg2 b q l (qp0 b s e) (zjp e hs)
  refine ⟨⟨h1.1,?_⟩,?_⟩
  ·rw [h1.2]; exact h2.1
  ·show goF qc1 l (qc1 e ((b,()),q,s,())).get=_
   rw [h1.2]; exact h2.2
def qib:Ct:=⟨[.d jourT,.d i64],[qj,i64],fun x=>((ofJ x.1 x.2.1).1,(ofJ x.1 x.2.1).2,()),fun x=>[wn x.1.1]⟩
theorem zyg:qa Tryz.prog 17 qib:=conv yce _ _ (fun _ _ x _ _ ht=>by
 obtain ⟨j,b,_⟩:=x
 have ht:wn j.1:=ht
 show _/\_=((ofJ j b).1,(ofJ j b).2,())
 unfold ofJ
 cases h:decide (((List.length (α:=qk.den) j.2.1:Nat):Int)>2000)
 ·have h':=of_decide_eq_false h
  have hg:=yg2 b s00 (List.drop 0 j.2.1) (qmk j.1) (qrf ht)
  refine Fr.br_f (by first|rfl|exact h) (Fr.need_ ⟨rfl,Int.le_refl _,Int.natCast_nonneg _,?_⟩ (Fr.need_ hg.1 ⟨trivial,?_⟩))
  ·show ((List.length (α:=qk.den) j.2.1:Nat):Int)<=_
   omega
  ·show ((goF qc1 (List.drop 0 j.2.1) ((b,()),s00,qmk j.1,())).2.2.1,0,())=_
   rw [hg.2,List.drop_zero]
   rfl
 ·exact Fr.br_t (by first|rfl|exact h) ⟨trivial,rfl⟩)
noncomputable def yl9:Cx:=cx [(70,qeh qc)] []
theorem zcd:CxOK Tryz.prog yl9:=zc (cs:=[(70,qeh qc)]) (ps:=[]) qv ⟨qlo,trivial⟩ trivial
def zpj (x:qn [.d qk]):Fr (qi [qk]):=
 Fr.need (List.length x.1.2.2.2.2.2.1.2.2.1<=1000000) (Fr.need (List.length x.1.2.2.2.2.2.2.1.2.2.2.2.1<=1000000) (Fr.val ((x.1.1,x.1.2.1,x.1.2.2.1,x.1.2.2.2.1,x.1.2.2.2.2.1,(x.1.2.2.2.2.2.1.1,x.1.2.2.2.2.2.1.2.1,((qeh qc).f (x.1.2.2.2.2.2.1.2.2.1,())).1,()),(x.1.2.2.2.2.2.2.1.1,x.1.2.2.2.2.2.2.1.2.1,x.1.2.2.2.2.2.2.1.2.2.1,x.1.2.2.2.2.2.2.1.2.2.2.1,((qeh qc).f (x.1.2.2.2.2.2.2.1.2.2.2.2.1,())).1,x.1.2.2.2.2.2.2.1.2.2.2.2.2.1,()),x.1.2.2.2.2.2.2.2.1,x.1.2.2.2.2.2.2.2.2.1,x.1.2.2.2.2.2.2.2.2.2.1,()),())))
theorem zsp:qa Tryz.prog 44 ⟨[.d qk],[qk],fun xs=>(zpj xs).get,fun xs=>[(zpj xs).ok]⟩:=
 qg zcd (Λ:=qq) (fn:=Tryz.f44) (dfP [.d qk]) (by kernel_rfl) (fun c E _=>qe c 0) (fun x=>by kernel_rfl)
def qz8 (x:qn [.d jourT]):Fr (qi [i64]):=
 Fr.need (InL (qk4 ((0,((List.length x.1.2.1):Int),x.1.2.1,0,()),())) (qb4 ((0,((List.length x.1.2.1):Int),x.1.2.1,0,()),()))) (Fr.need (ztx ((0,((List.length x.1.2.1):Int),x.1.2.1,0,()),())) (Fr.val ((qm8 (zug ((0,((List.length x.1.2.1):Int),x.1.2.1,0,()),()))).1.1,())))
theorem zf9:qa Tryz.prog 88 ⟨[.d jourT],[i64],fun xs=>(qz8 xs).get,fun xs=>[(qz8 xs).ok]⟩:=
 qg zcd (Λ:=(fun _=>yfz yl9.Γ)) (fn:=Tryz.f88) (dfP [.d jourT]) (by kernel_rfl) (fun c E hc=>jb hc (by kernel_rfl) (b:=qo Tryz.f88 0) (by kernel_rfl) (qf.han zcd rfl zn6)) (fun x=>by kernel_rfl)
def qmi (f:qk.den):Prop:=(qhp f).2.2.1.length<=1000000/\(qei f).2.2.2.2.1.length<=1000000
def qgx:Ct:=⟨[.d qk],[qk],fun x=>(x.1,()),fun x=>[qmi x.1]⟩
theorem yiy:qa Tryz.prog 44 qgx:=conv zsp _ _ (fun _ _ _x _ _ h=>Fr.need_ h.1 (Fr.need_ h.2 ⟨trivial,rfl⟩))
def zi2 (d:Int) (f:qk.den):Int:=bif za f==7 then (if d<qfw f then qfw f else d) else d
def zcq (l:List qk.den):Int:=l.foldl zi2 0
theorem ybj (e:qk.den) (d:Int):(vi e ((d,()),())).ok/\(vi e ((d,()),())).get=((zi2 d e,()),()):=by
 unfold zi2
 cases h:za e==7
 ·exact Fr.br_f (by first|rfl|exact h) ⟨trivial,rfl⟩
 ·exact Fr.br_t (by first|rfl|exact h) ⟨trivial,rfl⟩
theorem zwc:(l:List qk.den)->(d:Int)->okF vi l ((d,()),())/\goF vi l ((d,()),())=((l.foldl zi2 d,()),())
 |[],_=>⟨trivial,rfl⟩
 |e::l,d=>by
  have h1:=ybj e d
  have h2:=zwc l (zi2 d e)
  refine ⟨⟨h1.1,?_⟩,?_⟩
  ·rw [h1.2]; exact h2.1
  ·show goF vi l (vi e ((d,()),())).get=_
   rw [h1.2]; exact h2.2
def qnz:Ct:=⟨[.d jourT],[i64],fun x=>(zcq x.1.2.1,()),fun _=>[]⟩
theorem zpv {w:World} {F:Nat->Prop} {j:jourT.den} {v:Value} (h:zv w F jourT j v):((List.length (α:=qk.den) j.2.1:Nat):Int)<=9223372036854775807:=by
 have h1:List.length (α:=qk.den) j.2.1<=maxLen:=(qs.wf h.2.2).2.1.1
 unfold maxLen at h1
 omega
theorem zsk:qa Tryz.prog 88 qnz:=conv zf9 _ _ (fun w F x vs hr _=>by
 obtain ⟨j,_⟩:=x
 obtain ⟨v,vs',rfl,hv,_⟩:=hr
 have hg:=zwc (List.drop 0 j.2.1) 0
 refine Fr.need_ ⟨rfl,Int.le_refl _,Int.natCast_nonneg _,zpv hv⟩ (Fr.need_ hg.1 ⟨trivial,?_⟩)
 show ((goF vi (List.drop 0 j.2.1) ((0,()),())).1.1,())=_
 rw [hg.2,List.drop_zero]
 rfl)
noncomputable def yma:Cx:=cx [(44,qgx),(88,qnz),(63,qnf)] []
theorem qwg:CxOK Tryz.prog yma:=zc (cs:=[(44,qgx),(88,qnz),(63,qnf)]) (ps:=[]) qv ⟨yiy,zsk,ze0,trivial⟩ trivial
abbrev qbm:Pt:=⟨28,0,⟨[(11,.d i64),(10,.d i64),(9,.d (.sl qk)),(1,.d i64)],[.x 2 64 jourT,.r 2 2 0,.x 4 64 jourT,.r 4 4 0,.o 5 46 qk]⟩,⟨[],[.x 2 64 jourT,.r 2 2 0,.x 4 64 jourT,.r 4 4 0,.o 5 46 qk]⟩,⟨[],[]⟩⟩
def zko (x:qbm.M.X):Fr qbm.Out:=
 Fr.br (decide (x.1.1<x.1.2.1)) (Fr.need (0<=x.1.1/\x.1.1<((List.length x.1.2.2.1):Int)) (Fr.br (decide ((List.getD x.1.2.2.1 (Int.toNat x.1.1) qk.dflt).1<=x.1.2.2.2.1)) (Fr.need (qmi (List.getD x.1.2.2.1 (Int.toNat x.1.1) qk.dflt)) (Fr.need (x.2.2.2.1.length + [(qgx.f ((List.getD x.1.2.2.1 (Int.toNat x.1.1) qk.dflt),())).1].length<=maxLen/\(x.2.2.2.1.length + [(qgx.f ((List.getD x.1.2.2.1 (Int.toNat x.1.1) qk.dflt),())).1].length)*344<=140737488355328) (Fr.val (Rd.next ((IntKind.i64.wrap (x.1.1+1),x.1.2.1,x.1.2.2.1,x.1.2.2.2.1,()),x.2.1,x.2.2.1,x.2.2.2.1++[(qgx.f ((List.getD x.1.2.2.1 (Int.toNat x.1.1) qk.dflt),())).1],()))))) (Fr.val (Rd.next ((IntKind.i64.wrap (x.1.1+1),x.1.2.1,x.1.2.2.1,x.1.2.2.2.1,()),x.2.1,x.2.2.1,x.2.2.2.1,()))))) (Fr.val (Rd.out ((),x.2.1,x.2.2.1,x.2.2.2.1,())))
theorem zzh:qf Tryz.prog (qo Tryz.f19 0) qbm.M qbm zko:=
 qf.of_run qwg (bs:=0) (Λ:=qq) rfl rfl rfl (fun E=>qe _ 0) (fun x=>by kernel_rfl)
abbrev qop:Type:=qn [.d i64]×jd [.x 2 64 jourT,.r 2 2 0,.x 4 64 jourT,.r 4 4 0,.o 5 46 qk]
def wc (e:qk.den) (s:qop):Fr qop:=
 Fr.br (decide (e.1<=s.1.1)) (Fr.need (qmi e) (Fr.need (s.2.2.2.1.length + [(qgx.f (e,())).1].length<=maxLen/\(s.2.2.2.1.length + [(qgx.f (e,())).1].length)*344<=140737488355328) (Fr.val ((s.1.1,()),s.2.1,s.2.2.1,s.2.2.2.1++[(qgx.f (e,())).1],())))) (Fr.val s)
def qde (x:qbm.M.X):Int×List qk.den×qop:=(x.1.1,x.1.2.2.1,x.1.2.2.2,x.2)
def qm2 (x:qbm.M.X):Prop:=x.1.2.1=(x.1.2.2.1.length:Int)
def ql2 (s:qop):qbm.E.X:=((),s.2.1,s.2.2.1,s.2.2.2.1,())
theorem ztq:qf Tryz.prog (.loop (qo Tryz.f19 0)) qbm.M qbm (FF wc qde qm2 ql2):=by
 refine qf.fold zzh wc qde qm2 ql2 ?_ ?_
 ·rintro ⟨⟨i,n,l,s⟩,m⟩ hg h0 h1 hb e he Q h
  have hg:n=(l.length:Int):=hg
  subst hg
  have h0:0<=i:=h0
  have h1:i<(l.length:Int):=h1
  have hb:(l.length:Int)<=9223372036854775807:=hb
  have hd:l.getD i.toNat qk.dflt=e:=zp he
  have hw:=zu h0 h1 hb
  dsimp only [qde,wc,zko,Fr.satP] at h ⊢
  simp only [hd,hw] at h ⊢
  refine ⟨fun _=>?_,fun hn=>absurd h1 (of_decide_eq_false hn)⟩
  repeat' first
   |exact h
   |exact ⟨h0,h1⟩
   |exact fun _=>⟨h0,h1⟩
   |exact h _ rfl rfl
   |(refine ⟨fun hc=>?_,fun hc=>?_⟩<;>first|replace h:=h.1 hc|replace h:=h.2 hc)
   |(refine ⟨h.1,?_⟩; replace h:=h.2)
   |refine ⟨⟨h0,h1⟩,?_⟩
   |exact h.1
   |exact h.2.1
   |exact h.2.2.1
   |refine ⟨?_,?_⟩
   |(intro (hc:_=true); replace h:=h.1 hc)
   |(intro (hc:_=false); replace h:=h.2 hc)
   |(replace h:=h.2)
 ·rintro ⟨⟨i,n,l,s⟩,m⟩ hg h1 Q h
  have hg:n=(l.length:Int):=hg
  subst hg
  exact ⟨fun hn=>absurd (of_decide_eq_true hn) h1,fun _=>h⟩
def ylm (Γ:Gm):St->Option Tr:=qbm.han Γ qbm.M (FF wc qde qm2 ql2)
def zfl (y:qbm.M.X):qop:=goF wc ((qde y).2.1.drop (qde y).1.toNat) (qde y).2.2
def zyj (y:qbm.M.X):Prop:=okF wc ((qde y).2.1.drop (qde y).1.toNat) (qde y).2.2
def qwv (x:qn [.d jourT,.d qk]):Fr (qi [jourT,i64]):=
 Fr.br (!(qnf.f (x.2.1,())).1) (Fr.val ((([],()),[],()),1,())) (Fr.br (decide (((List.length x.1.2.1):Int)≥2000)) (Fr.val ((([],()),[],()),2,())) (Fr.need (decide (((List.length x.1.2.1):Int)>0)=true->0<=IntKind.i64.wrap (((List.length x.1.2.1):Int)-1)/\IntKind.i64.wrap (((List.length x.1.2.1):Int)-1)<((List.length x.1.2.1):Int)) (Fr.br (bif decide (((List.length x.1.2.1):Int)>0) then decide (x.2.1.1<(List.getD x.1.2.1 (IntKind.i64.wrap (((List.length x.1.2.1):Int)-1)).toNat qk.dflt).1) else false) (Fr.val ((([],()),[],()),4,())) (Fr.br (bif decide (x.2.1.1<=(qnz.f (x.1,())).1) then true else bif x.2.1.2.1==7 then decide (x.2.1.2.2.2.2.1<=(qnz.f (x.1,())).1) else false) (Fr.val ((([],()),[],()),12,())) (Fr.need (0<=(0:Int)/\(0:Int)<=((List.length x.1.2.1):Int)/\((List.length x.1.2.1):Int)<=((List.length x.1.2.1):Int)/\((List.length x.1.2.1):Int)=((List.length x.1.2.1):Int)) (Fr.need (qmi x.2.1) (Fr.need (0 < [(qgx.f (x.2.1,())).1].length/\(List.take (((List.length x.1.2.1):Int)-(0:Int)).toNat (List.drop ((0:Int)).toNat x.1.2.1)).length + [(qgx.f (x.2.1,())).1].length<=maxLen/\((List.take (((List.length x.1.2.1):Int)-(0:Int)).toNat (List.drop ((0:Int)).toNat x.1.2.1)).length + [(qgx.f (x.2.1,())).1].length)*344<=140737488355328) (Fr.val (((x.1.1.1,()),List.take (((List.length x.1.2.1):Int)-(0:Int)).toNat (List.drop ((0:Int)).toNat x.1.2.1)++[(qgx.f (x.2.1,())).1],()),0,())))))))))
theorem zsq:qa Tryz.prog 50 ⟨[.d jourT,.d qk],[jourT,i64],fun xs=>(qwv xs).get,fun xs=>[(qwv xs).ok]⟩:=
 qg qwg (Λ:=qq) (fn:=Tryz.f50) (dfP [.d jourT,.d qk]) (by kernel_rfl) (fun c E _=>qe c 0) (fun x=>by kernel_rfl)
def qsl (x:qn [.d jourT,.d i64]):Fr (qi [jourT]):=
 Fr.need (InL (qm2 ((0,((List.length x.1.2.1):Int),x.1.2.1,x.2.1,()),x.1,(([],()),[],()),[],())) (qde ((0,((List.length x.1.2.1):Int),x.1.2.1,x.2.1,()),x.1,(([],()),[],()),[],()))) (Fr.need (zyj ((0,((List.length x.1.2.1):Int),x.1.2.1,x.2.1,()),x.1,(([],()),[],()),[],())) (Fr.val ((((ql2 (zfl ((0,((List.length x.1.2.1):Int),x.1.2.1,x.2.1,()),x.1,(([],()),[],()),[],()))).2.1.1.1,()),(ql2 (zfl ((0,((List.length x.1.2.1):Int),x.1.2.1,x.2.1,()),x.1,(([],()),[],()),[],()))).2.2.2.1,()),())))
theorem zns:qa Tryz.prog 19 ⟨[.d jourT,.d i64],[jourT],fun xs=>(qsl xs).get,fun xs=>[(qsl xs).ok]⟩:=
 qg qwg (Λ:=(fun _=>ylm yma.Γ)) (fn:=Tryz.f19) (dfP [.d jourT,.d i64]) (by kernel_rfl) (fun c E hc=>jb hc (by kernel_rfl) (b:=qo Tryz.f19 0) (by kernel_rfl) (qf.han qwg rfl ztq)) (fun x=>by kernel_rfl)
abbrev j00:jourT.den:=(([],()),[],())
def zhg (l:List qk.den) (f:qk.den):Bool:=match l.getLast? with
 |some g=>decide (zt f<zt g)
 |none=>false
def yg6 (l:List qk.den) (f:qk.den):Bool:=bif decide (zt f<=zcq l) then true else bif za f==7 then decide (qfw f<=zcq l) else false
def qtc (j:jourT.den) (f:qk.den):jourT.den×Int:=
 bif !(vg f) then (j00,1) else bif decide (((List.length (α:=qk.den) j.2.1:Nat):Int)≥2000) then (j00,2) else bif zhg j.2.1 f then (j00,4) else bif yg6 j.2.1 f then (j00,12) else ((j.1,j.2.1++[f],()),0)
def qwm:Ct:=⟨[.d jourT,.d qk],[jourT,i64],fun x=>((qtc x.1 x.2.1).1,(qtc x.1 x.2.1).2,()),fun x=>[qmi x.2.1]⟩
theorem zpy (l:List qk.den) (f:qk.den) (hl:l.length<2000):(bif decide (((List.length l:Nat):Int)>0) then decide (zt f<(List.getD l (IntKind.i64.wrap (((List.length l:Nat):Int)-1)).toNat qk.dflt).1) else false)=zhg l f:=by
 unfold zhg
 cases l with
 |nil=>rfl
 |cons a r=>
  have hw:IntKind.i64.wrap (((a::r).length:Int)-1)=r.length:=by
   rw [IntWalk.i64_in _ (by simp only [List.length_cons] at hl ⊢; omega)]; simp
  rw [hw,decide_eq_true (by simp:(((a::r).length:Nat):Int)>0),List.getLast?_eq_getElem?,List.getD_eq_getElem?_getD]
  have:((r.length:Int)).toNat=(a::r).length-1:=by simp
  rw [this,List.getElem?_eq_getElem (by simp)]
  rfl
theorem yjq {l:List qk.den} (hl:l.length<2000):decide (((List.length l:Nat):Int)>0)=true->0<=IntKind.i64.wrap (((List.length l:Nat):Int)-1)/\IntKind.i64.wrap (((List.length l:Nat):Int)-1)<((List.length l:Nat):Int):=fun h=>by
 have h:=of_decide_eq_true h
 rw [IntWalk.i64_in _ (by omega)]
 omega
theorem yiz (t:ze.den) (l:List qk.den) (f:qk.den) (hf:qmi f):(qwv ((t,l,()),f,())).ok/\(qwv ((t,l,()),f,())).get=((qtc (t,l,()) f).1,(qtc (t,l,()) f).2,()):=by
 unfold qtc
 cases h1 : !(vg f)
 ·refine Fr.br_f (by first|rfl|exact h1) ?_
  cases h2:decide (((List.length l:Nat):Int)≥2000)
  ·refine Fr.br_f (by first|rfl|exact h2) ?_
   have hl:l.length<2000:=by have:=of_decide_eq_false h2; omega
   refine Fr.need_ (yjq hl) ?_
   cases h3:zhg l f
   ·refine Fr.br_f ((zpy l f hl).trans h3) ?_
    cases h4:yg6 l f
    ·refine Fr.br_f h4 (Fr.need_ ⟨Int.le_refl _,by omega,Int.le_refl _,rfl⟩ (Fr.need_ hf (Fr.need_ ⟨Nat.one_pos,?_,?_⟩ ⟨trivial,?_⟩)))
     ·show (List.take (((List.length l:Nat):Int)-0).toNat (List.drop 0 l)).length+1<=maxLen
      rw [List.length_take,List.length_drop]; unfold maxLen; omega
     ·show ((List.take (((List.length l:Nat):Int)-0).toNat (List.drop 0 l)).length+1)*344<=140737488355328
      rw [List.length_take,List.length_drop]; omega
     ·show ((t,List.take (((List.length l:Nat):Int)-0).toNat (List.drop 0 l)++[f],()),0,())=_
      rw [List.drop_zero,List.take_of_length_le (by omega)]
      rfl
    ·exact Fr.br_t h4 ⟨trivial,rfl⟩
   ·exact Fr.br_t ((zpy l f hl).trans h3) ⟨trivial,rfl⟩
  ·exact Fr.br_t (by first|rfl|exact h2) ⟨trivial,rfl⟩
 ·exact Fr.br_t (by first|rfl|exact h1) ⟨trivial,rfl⟩
theorem yi0:qa Tryz.prog 50 qwm:=conv zsq _ _ (fun _ _ x _ _ h=>yiz x.1.1 x.1.2.1 x.2.1 h)
def yg7 (j:jourT.den) (b:Int):jourT.den:=(j.1,j.2.1.filter (fun f=>decide (zt f<=b)),())
theorem zqq (b:Int) (q r:jourT.den):(l a:List qk.den)->(∀ f∈l,qmi f)->a.length+l.length<=100000->okF wc l ((b,()),q,r,a,())/\goF wc l ((b,()),q,r,a,())=((b,()),q,r,a++l.filter (fun f=>decide (zt f<=b)),())
 |[],a,_,_=>⟨trivial,by rw [List.filter_nil,List.append_nil]; rfl⟩
 |e::l,a,hf,hl=>by
  rw [List.length_cons] at hl
  have hs:(wc e ((b,()),q,r,a,())).ok/\(wc e ((b,()),q,r,a,())).get=((b,()),q,r,(if zt e<=b then a++[e] else a),()):=by
   by_cases h:zt e<=b
   ·rw [if_pos h]
    refine Fr.br_t (decide_eq_true h) (Fr.need_ (hf e List.mem_cons_self) (Fr.need_ ⟨?_,?_⟩ ⟨trivial,rfl⟩))
    ·show a.length+1<=maxLen
     unfold maxLen; omega
    ·show (a.length+1)*344<=140737488355328
     omega
   ·rw [if_neg h]
    exact Fr.br_f (decide_eq_false h) ⟨trivial,rfl⟩
  have h2:=zqq b q r l (if zt e<=b then a++[e] else a) (fun f hf'=>hf f (List.mem_cons_of_mem _ hf')) (by split<;>first|omega|(rw [List.length_append,List.length_singleton]; omega))
  refine ⟨⟨hs.1,?_⟩,?_⟩
  ·rw [hs.2]; exact h2.1
  ·show goF wc l (wc e ((b,()),q,r,a,())).get=_
   rw [hs.2,h2.2]
   by_cases h:zt e<=b
   ·rw [if_pos h,List.filter_cons_of_pos (by simpa using h),List.append_assoc]; rfl
   ·rw [if_neg h,List.filter_cons_of_neg (by simpa using h)]
def zv2:Ct:=⟨[.d jourT,.d i64],[jourT],fun x=>(yg7 x.1 x.2.1,()),fun x=>[∀ f∈x.1.2.1,qmi f,List.length (α:=qk.den) x.1.2.1<=100000]⟩
theorem yco (t:ze.den) (l:List qk.den) (b:Int) (hf:∀ f∈l,qmi f) (hl:l.length<=100000):(qsl ((t,l,()),b,())).ok/\(qsl ((t,l,()),b,())).get=(yg7 (t,l,()) b,()):=by
 have hg:=zqq b (t,l,()) j00 (List.drop 0 l) [] (by rw [List.drop_zero]; exact hf) (by rw [List.drop_zero]; simp; omega)
 refine Fr.need_ ⟨rfl,Int.le_refl _,Int.natCast_nonneg _,?_⟩ (Fr.need_ hg.1 ⟨trivial,?_⟩)
 ·show ((List.length l:Nat):Int)<=_
  omega
 ·show ((((goF wc (List.drop 0 l) ((b,()),(t,l,()),j00,[],())).2.1.1.1,()),(goF wc (List.drop 0 l) ((b,()),(t,l,()),j00,[],())).2.2.2.1,()),())=_
  rw [hg.2,List.drop_zero,List.nil_append]
  rfl
theorem ycp:qa Tryz.prog 19 zv2:=conv zns _ _ (fun _ _ x _ _ h=>yco x.1.1 x.1.2.1 x.2.1 h.1 h.2)
noncomputable def ysa:Cx:=cx [(50,qwm),(17,qib),(14,cDo)] []
theorem yhk:CxOK Tryz.prog ysa:=zc (cs:=[(50,qwm),(17,qib),(14,cDo)]) (ps:=[]) qv ⟨yi0,zyg,zha,trivial⟩ trivial
def zxa (x:qn [.d jourT,.d qk]):Fr (qi [jourT,i64]):=
 Fr.need (qmi x.2.1) (Fr.br ((qwm.f x).2.1 != 0) (Fr.val ((([],()),[],()),(qwm.f x).2.1,())) (Fr.need (wn (x.1.1.1,())) (Fr.br ((qib.f (x.1,292194,())).2.1 != 0) (Fr.val ((([],()),[],()),(qib.f (x.1,292194,())).2.1,())) (Fr.need (yf (qib.f (x.1,292194,())).1) (Fr.br ((cDo.f ((qib.f (x.1,292194,())).1,x.2.1,())).2.1 != 0) (Fr.val ((([],()),[],()),(cDo.f ((qib.f (x.1,292194,())).1,x.2.1,())).2.1,())) (Fr.val ((qwm.f x).1,0,())))))))
theorem zxb:qa Tryz.prog 23 ⟨[.d jourT,.d qk],[jourT,i64],fun xs=>(zxa xs).get,fun xs=>[(zxa xs).ok]⟩:=
 qg yhk (Λ:=qq) (fn:=Tryz.f23) (dfP [.d jourT,.d qk]) (by kernel_rfl) (fun c E _=>qe c 0) (fun x=>by kernel_rfl)
def zl2 (j:jourT.den) (f:qk.den):jourT.den×Int:=
 bif (qtc j f).2 != 0 then (j00,(qtc j f).2) else bif (ofJ j 292194).2 != 0 then (j00,(ofJ j 292194).2) else bif (qbc (ofJ j 292194).1 f).2 != 0 then (j00,(qbc (ofJ j 292194).1 f).2) else ((qtc j f).1,0)
theorem yiv {j:jourT.den} (b:Int) (h:wn j.1):yf (ofJ j b).1:=by
 unfold ofJ
 cases decide (((List.length (α:=qk.den) j.2.1:Nat):Int)>2000)
 ·exact zjo _ (qrf h)
 ·exact ⟨⟨Nat.zero_le _,fun v hv=>by cases hv⟩,Nat.zero_le _,Nat.zero_le _,fun a ha=>by cases ha⟩
def ygg:Ct:=⟨[.d jourT,.d qk],[jourT,i64],fun x=>((zl2 x.1 x.2.1).1,(zl2 x.1 x.2.1).2,()),fun x=>[qmi x.2.1,wn x.1.1]⟩
theorem yk3:qa Tryz.prog 23 ygg:=conv zxb _ _ (fun _ _ x _ _ h=>by
 obtain ⟨j,f,_⟩:=x
 obtain ⟨hf,ht⟩:qmi f/\wn j.1:=h
 show _/\_=((zl2 j f).1,(zl2 j f).2,())
 unfold zl2
 refine Fr.need_ hf ?_
 cases h1:(qtc j f).2 != 0
 ·refine Fr.br_f (by first|rfl|exact h1) (Fr.need_ ht ?_)
  cases h2:(ofJ j 292194).2 != 0
  ·refine Fr.br_f (by first|rfl|exact h2) (Fr.need_ (yiv _ ht) ?_)
   cases h3:(qbc (ofJ j 292194).1 f).2 != 0
   ·exact Fr.br_f (by first|rfl|exact h3) ⟨trivial,rfl⟩
   ·exact Fr.br_t (by first|rfl|exact h3) ⟨trivial,rfl⟩
  ·exact Fr.br_t (by first|rfl|exact h2) ⟨trivial,rfl⟩
 ·exact Fr.br_t (by first|rfl|exact h1) ⟨trivial,rfl⟩)
noncomputable def zqy:Cx:=cx [] []
theorem qcx:CxOK Tryz.prog zqy:=zc (cs:=[]) (ps:=[]) qv trivial trivial
def zpk (_x:qn []):Fr (qi [ze]):=
 Fr.val (([(1,(100,100,100,100,()),[],[10000],[10000,10000,10000,10000,10000,10000,10000,10000],0,())],()),())
theorem zst:qa Tryz.prog 29 ⟨[],[ze],fun xs=>(zpk xs).get,fun xs=>[(zpk xs).ok]⟩:=
 qg qcx (Λ:=qq) (fn:=Tryz.f29) (dfP []) (by kernel_rfl) (fun c E _=>qe c 0) (fun x=>by kernel_rfl)
def zjs (x:qn [.d i64]):Fr (qi [qk]):=
 Fr.val ((1,1,x.1,0,0,((1,101,()),(0,36500,0,0,()),[(1,1000,1000,0,10000,())],()),(0,0,0,(0,0,0,0,()),[],0,()),(0,0,0,0,0,0,()),(0,0,0,()),(0,0,(0,0,()),0,0,0,0,0,()),()),())
theorem znp:qa Tryz.prog 30 ⟨[.d i64],[qk],fun xs=>(zjs xs).get,fun xs=>[(zjs xs).ok]⟩:=
 qg qcx (Λ:=qq) (fn:=Tryz.f30) (dfP [.d i64]) (by kernel_rfl) (fun c E _=>qe c 0) (fun x=>by kernel_rfl)
def zju (x:qn [.d qk]):Fr (qi [.bool]):=
 Fr.val (bif decide (((List.length x.1.2.2.2.2.2.1.2.2.1):Int)<=50) then decide (((List.length x.1.2.2.2.2.2.2.1.2.2.2.2.1):Int)<=50) else false,())
theorem znr:qa Tryz.prog 12 ⟨[.d qk],[.bool],fun xs=>(zju xs).get,fun xs=>[(zju xs).ok]⟩:=
 qg qcx (Λ:=qq) (fn:=Tryz.f12) (dfP [.d qk]) (by kernel_rfl) (fun c E _=>qe c 0) (fun x=>by kernel_rfl)
def zej (x:qn [.d qk]):Fr (qi [.bool]):=
 Fr.val (bif decide (((List.length x.1.2.2.2.2.2.1.2.2.1):Int)<=50) then decide (((List.length x.1.2.2.2.2.2.2.1.2.2.2.2.1):Int)<=50) else false,())
theorem zjv:qa Tryz.prog 40 ⟨[.d qk],[.bool],fun xs=>(zej xs).get,fun xs=>[(zej xs).ok]⟩:=
 qg qcx (Λ:=qq) (fn:=Tryz.f40) (dfP [.d qk]) (by kernel_rfl) (fun c E _=>qe c 0) (fun x=>by kernel_rfl)
abbrev T28:ze.den:=([(1,(100,100,100,100,()),[],[10000],[10000,10000,10000,10000,10000,10000,10000,10000],0,())],())
abbrev zic (id:Int):qk.den:=(1,1,id,0,0,((1,101,()),(0,36500,0,0,()),[(1,1000,1000,0,10000,())],()),(0,0,0,(0,0,0,0,()),[],0,()),(0,0,0,0,0,0,()),(0,0,0,()),(0,0,(0,0,()),0,0,0,0,0,()),())
def ziy:Ct:=⟨[],[ze],fun _=>(T28,()),fun _=>[]⟩
def zcm:Ct:=⟨[.d i64],[qk],fun x=>(zic x.1,()),fun _=>[]⟩
def qn9 (f:qk.den):Bool:=bif decide (((List.length (qhp f).2.2.1:Nat):Int)<=50) then decide (((List.length (qei f).2.2.2.2.1:Nat):Int)<=50) else false
def qn0:Ct:=⟨[.d qk],[.bool],fun x=>(qn9 x.1,()),fun _=>[]⟩
theorem yfe:qa Tryz.prog 29 ziy:=conv zst _ _ (fun _ _ _ _ _ _=>⟨trivial,rfl⟩)
theorem zvz:qa Tryz.prog 30 zcm:=conv znp _ _ (fun _ _ _ _ _ _=>⟨trivial,rfl⟩)
theorem yb7:qa Tryz.prog 12 qn0:=conv znr _ _ (fun _ _ _ _ _ _=>⟨trivial,rfl⟩)
theorem zw9:qa Tryz.prog 40 qn0:=conv zjv _ _ (fun _ _ _ _ _ _=>⟨trivial,rfl⟩)
noncomputable def yqk:Cx:=cx [(29,ziy),(30,zcm),(28,qr5),(14,cDo),(21,qzt),(31,ziq)] []
theorem yai:CxOK Tryz.prog yqk:=zc (cs:=[(29,ziy),(30,zcm),(28,qr5),(14,cDo),(21,qzt),(31,ziq)]) (ps:=[]) qv ⟨yfe,zvz,zya,zha,zh7,ycf,trivial⟩ trivial
def zkb (_:qn []):Fr (qi [.bool]):=Fr.need (yf (qmk T28)) (Fr.need (yf (qbc (qmk T28) (zic 1)).1) (Fr.need (yf (qbc (qmk T28) (zic 1)).1) (Fr.val (true,()))))
theorem ya2:qa Tryz.prog 10 ⟨[],[.bool],fun xs=>(zkb xs).get,fun xs=>[(zkb xs).ok]⟩:=
 qg yai (Λ:=qq) (fn:=Tryz.f10) (fr:=zkb) (ps:=[]) (rs:=[.bool]) () (by kernel_rfl) (fun c E _=>qe c 0) (fun x=>by kernel_rfl)
def qlm:Ct:=⟨[],[.bool],fun _=>(true,()),fun _=>[]⟩
theorem zjn:wn T28:=by
 refine ⟨by decide,fun v hv=>?_⟩
 simp only [List.mem_cons,List.not_mem_nil,or_false] at hv
 subst hv
 exact ⟨by decide,by decide,by decide⟩
theorem zei {s:qj.den} (f:qk.den) (h:yf s):yf (qbc s f).1:=by
 have z:yf s00:=⟨⟨Nat.zero_le _,fun v hv=>by cases hv⟩,Nat.zero_le _,Nat.zero_le _,fun a ha=>by cases ha⟩
 unfold qbc
 cases qhh s f != 0
 ·cases (doF s f).2 != 0
  ·exact zw8 f h
  ·exact z
 ·exact z
theorem zra:qa Tryz.prog 10 qlm:=
 conv ya2 _ _ (fun _ _ _ _ _ _=>Fr.need_ (qrf zjn) (Fr.need_ (zei _ (qrf zjn)) (Fr.need_ (zei _ (qrf zjn)) ⟨trivial,rfl⟩)))
noncomputable def ysb:Cx:=cx [(40,qn0)] []
theorem yhl:CxOK Tryz.prog ysb:=zc (cs:=[(40,qn0)]) (ps:=[]) qv ⟨zw9,trivial⟩ trivial
abbrev xa:Pt:=⟨36,0,⟨[(6,.d i64)],[.x 2 64 jourT,.r 2 2 0]⟩,⟨[],[]⟩,⟨[(4,.d .bool)],[]⟩⟩
def zkn (x:xa.M.X):Fr xa.Out:=
 Fr.br (decide (x.1.1<((List.length x.2.1.2.1):Int))) (Fr.need (0<=x.1.1/\x.1.1<((List.length x.2.1.2.1):Int)) (Fr.br (!(qn0.f ((List.getD x.2.1.2.1 (Int.toNat x.1.1) qk.dflt),())).1) (Fr.val (Rd.back ((false,()),()))) (Fr.val (Rd.next ((IntKind.i64.wrap (x.1.1+1),()),x.2.1,()))))) (Fr.val (Rd.out ((),())))
theorem zzg:qf Tryz.prog (qo Tryz.f16 0) xa.M xa zkn:=
 qf.of_run yhl (bs:=0) (Λ:=qq) rfl rfl rfl (fun E=>qe _ 0) (fun x=>by kernel_rfl)
abbrev qkw:Type:=qn []×jd [.x 2 64 jourT,.r 2 2 0]
def qct (e:qk.den) (s:qkw):Fr (qkw ⊕ xa.R.X):=
 Fr.br (!(qn0.f (e,())).1) (Fr.val (.inr ((false,()),()))) (Fr.val (.inl ((),s.2.1,())))
def qdd (x:xa.M.X):Int×List qk.den×qkw:=(x.1.1,x.2.1.2.1,x.1.2,x.2)
def qm1 (_x:xa.M.X):Prop:=True
def qvg (_s:qkw):xa.E.X:=((),())
def qyr:qkw:=(dfP _,dfM _)
def qsb:xa.R.X:=(dfP _,dfM _)
theorem ztp:qf Tryz.prog (.loop (qo Tryz.f16 0)) xa.M xa (FL qct qdd qm1 qvg Rd.back qyr qsb):=by
 refine qf.list zzg qct qdd qm1 qvg Rd.back qyr qsb ?_ ?_
 ·rintro ⟨⟨i,s⟩,m⟩ hg h0 h1 hb e he Q h
  have h0:0<=i:=h0
  have h1:i<(m.1.2.1.length:Int):=h1
  have hb:(m.1.2.1.length:Int)<=9223372036854775807:=hb
  have hd:m.1.2.1.getD i.toNat qk.dflt=e:=zp he
  have hw:=zu h0 h1 hb
  dsimp only [qdd,qct,zkn,Fr.satP] at h ⊢
  simp only [hd,hw] at h ⊢
  refine ⟨fun _=>?_,fun hn=>absurd h1 (of_decide_eq_false hn)⟩
  repeat' first
   |exact h
   |exact ⟨h0,h1⟩
   |exact fun _=>⟨h0,h1⟩
   |exact h _ rfl trivial
   |(refine ⟨fun hc=>?_,fun hc=>?_⟩<;>first|replace h:=h.1 hc|replace h:=h.2 hc)
   |(refine ⟨h.1,?_⟩; replace h:=h.2)
   |refine ⟨⟨h0,h1⟩,?_⟩
   |exact h.1
   |exact h.2.1
   |exact h.2.2.1
   |refine ⟨?_,?_⟩
   |(intro (hc:_=true); replace h:=h.1 hc)
   |(intro (hc:_=false); replace h:=h.2 hc)
   |(replace h:=h.2)
 ·rintro ⟨⟨i,s⟩,m⟩ hg h1 Q h
  exact ⟨fun hn=>absurd (of_decide_eq_true hn) h1,fun _=>h⟩
def yll (Γ:Gm):St->Option Tr:=xa.han Γ xa.M (FL qct qdd qm1 qvg Rd.back qyr qsb)
def zfk (y:xa.M.X):qkw ⊕ xa.R.X:=goL qct ((qdd y).2.1.drop (qdd y).1.toNat) (qdd y).2.2
def zyi (y:xa.M.X):Prop:=okL qct ((qdd y).2.1.drop (qdd y).1.toNat) (qdd y).2.2
abbrev vm:Pt:=⟨38,0,⟨[(5,.d i64)],[.x 2 76 qt,.r 2 2 0,.x 3 76 qt,.r 3 3 0]⟩,⟨[],[]⟩,⟨[(4,.d .bool)],[]⟩⟩
def zev (x:vm.M.X):Fr vm.Out:=
 Fr.br (decide (x.1.1<((List.length x.2.1.2.1):Int))) (Fr.need (0<=x.1.1/\x.1.1<((List.length x.2.1.2.1):Int)) (Fr.need (0<=x.1.1/\x.1.1<((List.length x.2.2.1.2.1):Int)) (Fr.br (!((List.getD x.2.1.2.1 (Int.toNat x.1.1) zh.dflt).1==(List.getD x.2.2.1.2.1 (Int.toNat x.1.1) zh.dflt).1&&((List.getD x.2.1.2.1 (Int.toNat x.1.1) zh.dflt).2.1==(List.getD x.2.2.1.2.1 (Int.toNat x.1.1) zh.dflt).2.1&&((List.getD x.2.1.2.1 (Int.toNat x.1.1) zh.dflt).2.2.1==(List.getD x.2.2.1.2.1 (Int.toNat x.1.1) zh.dflt).2.2.1&&true)))) (Fr.val (Rd.back ((false,()),()))) (Fr.val (Rd.next ((IntKind.i64.wrap (x.1.1+1),()),x.2.1,x.2.2.1,())))))) (Fr.val (Rd.out ((),())))
theorem zu0:qf Tryz.prog (qo Tryz.f39 0) vm.M vm zev:=
 qf.of_run qcx (bs:=0) (Λ:=qq) rfl rfl rfl (fun E=>qe _ 0) (fun x=>by kernel_rfl)
abbrev qi0:Type:=qn []×jd [.x 2 76 qt,.r 2 2 0,.x 3 76 qt,.r 3 3 0]
def qbv (e:(zh.den×zh.den)) (s:qi0):Fr (qi0 ⊕ vm.R.X):=
 Fr.br (!(e.1.1==e.2.1&&(e.1.2.1==e.2.2.1&&(e.1.2.2.1==e.2.2.2.1&&true)))) (Fr.val (.inr ((false,()),()))) (Fr.val (.inl ((),s.2.1,s.2.2.1,())))
def qb7 (x:vm.M.X):Int×List (zh.den×zh.den)×qi0:=(x.1.1,x.2.1.2.1.zip x.2.2.1.2.1,x.1.2,x.2)
def qk7 (x:vm.M.X):Prop:=x.2.1.2.1.length=x.2.2.1.2.1.length
def qs6 (_s:qi0):vm.E.X:=((),())
def qup:qi0:=(dfP _,dfM _)
def qo4:vm.R.X:=(dfP _,dfM _)
theorem zn9:qf Tryz.prog (.loop (qo Tryz.f39 0)) vm.M vm (FL qbv qb7 qk7 qs6 Rd.back qup qo4):=by
 refine qf.list zu0 qbv qb7 qk7 qs6 Rd.back qup qo4 ?_ ?_
 ·rintro ⟨⟨i,s⟩,m⟩ hg h0 h1 hb e he Q h
  have hz:m.1.2.1.length=m.2.1.2.1.length:=hg
  have h0:0<=i:=h0
  have h1:i<(m.1.2.1.length:Int):=qhw hz h1
  have hb:(m.1.2.1.length:Int)<=9223372036854775807:=qhv hz hb
  have h1z:i<(m.2.1.2.1.length:Int):=by rw [← hz]; exact h1
  have hd:m.1.2.1.getD i.toNat zh.dflt=e.1:=zp (qfr he)
  have hdz:m.2.1.2.1.getD i.toNat zh.dflt=e.2:=zp (qft he)
  have hw:=zu h0 h1 hb
  dsimp only [qb7,qbv,zev,Fr.satP] at h ⊢
  simp only [hd,hw,hdz] at h ⊢
  refine ⟨fun _=>?_,fun hn=>absurd h1 (of_decide_eq_false hn)⟩
  repeat' first
   |exact h
   |exact ⟨h0,h1⟩
   |exact fun _=>⟨h0,h1⟩
   |exact ⟨h0,h1z⟩
   |exact fun _=>⟨h0,h1z⟩
   |exact h _ rfl hz
   |(refine ⟨fun hc=>?_,fun hc=>?_⟩<;>first|replace h:=h.1 hc|replace h:=h.2 hc)
   |(refine ⟨h.1,?_⟩; replace h:=h.2)
   |refine ⟨⟨h0,h1⟩,?_⟩
   |exact h.1
   |exact h.2.1
   |exact h.2.2.1
   |refine ⟨?_,?_⟩
   |(intro (hc:_=true); replace h:=h.1 hc)
   |(intro (hc:_=false); replace h:=h.2 hc)
   |(replace h:=h.2)
 ·rintro ⟨⟨i,s⟩,m⟩ hg h1 Q h
  have hz:m.1.2.1.length=m.2.1.2.1.length:=hg
  exact ⟨fun hn=>absurd (of_decide_eq_true hn) (qfs hz h1),fun _=>h⟩
def yf2 (Γ:Gm):St->Option Tr:=vm.han Γ vm.M (FL qbv qb7 qk7 qs6 Rd.back qup qo4)
def zbp (y:vm.M.X):qi0 ⊕ vm.R.X:=goL qbv ((qb7 y).2.1.drop (qb7 y).1.toNat) (qb7 y).2.2
def zt0 (y:vm.M.X):Prop:=okL qbv ((qb7 y).2.1.drop (qb7 y).1.toNat) (qb7 y).2.2
abbrev vk:Pt:=⟨26,0,⟨[(5,.d i64),(0,.d jg),(1,.d jg)],[]⟩,⟨[],[]⟩,⟨[(4,.d .bool)],[]⟩⟩
def zet (x:vk.M.X):Fr vk.Out:=
 Fr.br (decide (x.1.1<((List.length x.1.2.1):Int))) (Fr.need (0<=x.1.1/\x.1.1<((List.length x.1.2.1):Int)) (Fr.need (0<=x.1.1/\x.1.1<((List.length x.1.2.2.1):Int)) (Fr.br (List.getD x.1.2.1 (Int.toNat x.1.1) i64.dflt != List.getD x.1.2.2.1 (Int.toNat x.1.1) i64.dflt) (Fr.val (Rd.back ((false,()),()))) (Fr.val (Rd.next ((IntKind.i64.wrap (x.1.1+1),x.1.2.1,x.1.2.2.1,()),())))))) (Fr.val (Rd.out ((),())))
theorem zuy:qf Tryz.prog (qo Tryz.f102 0) vk.M vk zet:=
 qf.of_run qcx (bs:=0) (Λ:=qq) rfl rfl rfl (fun E=>qe _ 0) (fun x=>by kernel_rfl)
abbrev qiy:Type:=qn [.d jg]×jd []
def qbt (e:(i64.den×i64.den)) (s:qiy):Fr (qiy ⊕ vk.R.X):=
 Fr.br (e.1 != e.2) (Fr.val (.inr ((false,()),()))) (Fr.val (.inl ((s.1.1,()),())))
def qb5 (x:vk.M.X):Int×List (i64.den×i64.den)×qiy:=(x.1.1,x.1.2.1.zip x.1.2.2.1,x.1.2.2,x.2)
def qk5 (x:vk.M.X):Prop:=x.1.2.1.length=x.1.2.2.1.length
def qs4 (_s:qiy):vk.E.X:=((),())
def qum:qiy:=(dfP _,dfM _)
def qo2:vk.R.X:=(dfP _,dfM _)
theorem zn7:qf Tryz.prog (.loop (qo Tryz.f102 0)) vk.M vk (FL qbt qb5 qk5 qs4 Rd.back qum qo2):=by
 refine qf.list zuy qbt qb5 qk5 qs4 Rd.back qum qo2 ?_ ?_
 ·rintro ⟨⟨i,l,s⟩,m⟩ hg h0 h1 hb e he Q h
  have hz:l.length=s.1.length:=hg
  have h0:0<=i:=h0
  have h1:i<(l.length:Int):=qhw hz h1
  have hb:(l.length:Int)<=9223372036854775807:=qhv hz hb
  have h1z:i<(s.1.length:Int):=by rw [← hz]; exact h1
  have hd:l.getD i.toNat i64.dflt=e.1:=zp (qfr he)
  have hdz:s.1.getD i.toNat i64.dflt=e.2:=zp (qft he)
  have hw:=zu h0 h1 hb
  dsimp only [qb5,qbt,zet,Fr.satP] at h ⊢
  simp only [hd,hw,hdz] at h ⊢
  refine ⟨fun _=>?_,fun hn=>absurd h1 (of_decide_eq_false hn)⟩
  repeat' first
   |exact h
   |exact ⟨h0,h1⟩
   |exact fun _=>⟨h0,h1⟩
   |exact ⟨h0,h1z⟩
   |exact fun _=>⟨h0,h1z⟩
   |exact h _ rfl hz
   |(refine ⟨fun hc=>?_,fun hc=>?_⟩<;>first|replace h:=h.1 hc|replace h:=h.2 hc)
   |(refine ⟨h.1,?_⟩; replace h:=h.2)
   |refine ⟨⟨h0,h1⟩,?_⟩
   |exact h.1
   |exact h.2.1
   |exact h.2.2.1
   |refine ⟨?_,?_⟩
   |(intro (hc:_=true); replace h:=h.1 hc)
   |(intro (hc:_=false); replace h:=h.2 hc)
   |(replace h:=h.2)
 ·rintro ⟨⟨i,l,s⟩,m⟩ hg h1 Q h
  have hz:l.length=s.1.length:=hg
  exact ⟨fun hn=>absurd (of_decide_eq_true hn) (qfs hz h1),fun _=>h⟩
def yf0 (Γ:Gm):St->Option Tr:=vk.han Γ vk.M (FL qbt qb5 qk5 qs4 Rd.back qum qo2)
def zbn (y:vk.M.X):qiy ⊕ vk.R.X:=goL qbt ((qb5 y).2.1.drop (qb5 y).1.toNat) (qb5 y).2.2
def zty (y:vk.M.X):Prop:=okL qbt ((qb5 y).2.1.drop (qb5 y).1.toNat) (qb5 y).2.2
abbrev kb:Pt:=⟨26,0,⟨[(5,.d i64),(0,.d (.sl qy)),(1,.d (.sl qy))],[]⟩,⟨[],[]⟩,⟨[(4,.d .bool)],[]⟩⟩
def zar (x:kb.M.X):Fr kb.Out:=
 Fr.br (decide (x.1.1<((List.length x.1.2.1):Int))) (Fr.need (0<=x.1.1/\x.1.1<((List.length x.1.2.1):Int)) (Fr.need (0<=x.1.1/\x.1.1<((List.length x.1.2.2.1):Int)) (Fr.br (!((List.getD x.1.2.1 (Int.toNat x.1.1) qy.dflt).1==(List.getD x.1.2.2.1 (Int.toNat x.1.1) qy.dflt).1&&((List.getD x.1.2.1 (Int.toNat x.1.1) qy.dflt).2.1==(List.getD x.1.2.2.1 (Int.toNat x.1.1) qy.dflt).2.1&&true))) (Fr.val (Rd.back ((false,()),()))) (Fr.val (Rd.next ((IntKind.i64.wrap (x.1.1+1),x.1.2.1,x.1.2.2.1,()),())))))) (Fr.val (Rd.out ((),())))
theorem zop:qf Tryz.prog (qo Tryz.f101 0) kb.M kb zar:=
 qf.of_run qcx (bs:=0) (Λ:=qq) rfl rfl rfl (fun E=>qe _ 0) (fun x=>by kernel_rfl)
abbrev qha:Type:=qn [.d (.sl qy)]×jd []
def qas (e:(qy.den×qy.den)) (s:qha):Fr (qha ⊕ kb.R.X):=
 Fr.br (!(e.1.1==e.2.1&&(e.1.2.1==e.2.2.1&&true))) (Fr.val (.inr ((false,()),()))) (Fr.val (.inl ((s.1.1,()),())))
def qax (x:kb.M.X):Int×List (qy.den×qy.den)×qha:=(x.1.1,x.1.2.1.zip x.1.2.2.1,x.1.2.2,x.2)
def qjf (x:kb.M.X):Prop:=x.1.2.1.length=x.1.2.2.1.length
def qqr (_s:qha):kb.E.X:=((),())
def qsc:qha:=(dfP _,dfM _)
def qmx:kb.R.X:=(dfP _,dfM _)
theorem zle:qf Tryz.prog (.loop (qo Tryz.f101 0)) kb.M kb (FL qas qax qjf qqr Rd.back qsc qmx):=by
 refine qf.list zop qas qax qjf qqr Rd.back qsc qmx ?_ ?_
 ·rintro ⟨⟨i,l,s⟩,m⟩ hg h0 h1 hb e he Q h
  have hz:l.length=s.1.length:=hg
  have h0:0<=i:=h0
  have h1:i<(l.length:Int):=qhw hz h1
  have hb:(l.length:Int)<=9223372036854775807:=qhv hz hb
  have h1z:i<(s.1.length:Int):=by rw [← hz]; exact h1
  have hd:l.getD i.toNat qy.dflt=e.1:=zp (qfr he)
  have hdz:s.1.getD i.toNat qy.dflt=e.2:=zp (qft he)
  have hw:=zu h0 h1 hb
  dsimp only [qax,qas,zar,Fr.satP] at h ⊢
  simp only [hd,hw,hdz] at h ⊢
  refine ⟨fun _=>?_,fun hn=>absurd h1 (of_decide_eq_false hn)⟩
  repeat' first
   |exact h
   |exact ⟨h0,h1⟩
   |exact fun _=>⟨h0,h1⟩
   |exact ⟨h0,h1z⟩
   |exact fun _=>⟨h0,h1z⟩
   |exact h _ rfl hz
   |(refine ⟨fun hc=>?_,fun hc=>?_⟩<;>first|replace h:=h.1 hc|replace h:=h.2 hc)
   |(refine ⟨h.1,?_⟩; replace h:=h.2)
   |refine ⟨⟨h0,h1⟩,?_⟩
   |exact h.1
   |exact h.2.1
   |exact h.2.2.1
   |refine ⟨?_,?_⟩
   |(intro (hc:_=true); replace h:=h.1 hc)
   |(intro (hc:_=false); replace h:=h.2 hc)
   |(replace h:=h.2)
 ·rintro ⟨⟨i,l,s⟩,m⟩ hg h1 Q h
  have hz:l.length=s.1.length:=hg
  exact ⟨fun hn=>absurd (of_decide_eq_true hn) (qfs hz h1),fun _=>h⟩
def yaa (Γ:Gm):St->Option Tr:=kb.han Γ kb.M (FL qas qax qjf qqr Rd.back qsc qmx)
def qx6 (y:kb.M.X):qha ⊕ kb.R.X:=goL qas ((qax y).2.1.drop (qax y).1.toNat) (qax y).2.2
def zoh (y:kb.M.X):Prop:=okL qas ((qax y).2.1.drop (qax y).1.toNat) (qax y).2.2
noncomputable def yf7:Cx:=cx [(32,zrj)] []
theorem zh2:CxOK Tryz.prog yf7:=zc (cs:=[(32,zrj)]) (ps:=[]) qv ⟨ynt,trivial⟩ trivial
def zpi (x:qn [.d jourT,.d i64]):Fr (qi [.bool]):=
 Fr.br (bif !(zrj.f ((0,0,((0,0,()),(0,0,0,0,()),[],()),[],()),(x.1.1.1,()),())).1 then true else decide (((List.length x.1.2.1):Int)>x.2.1)) (Fr.val (false,())) (Fr.need (InL (qm1 ((0,()),x.1,())) (qdd ((0,()),x.1,()))) (Fr.need (zyi ((0,()),x.1,())) (Fr.br (isL (zfk ((0,()),x.1,()))) (Fr.val (true,())) (Fr.val ((jk qsb (zfk ((0,()),x.1,()))).1.1,())))))
theorem zso:qa Tryz.prog 16 ⟨[.d jourT,.d i64],[.bool],fun xs=>(zpi xs).get,fun xs=>[(zpi xs).ok]⟩:=
 qg zh2 (Λ:=(fun _=>yll yf7.Γ)) (fn:=Tryz.f16) (dfP [.d jourT,.d i64]) (by kernel_rfl) (fun c E hc=>jb hc (by kernel_rfl) (b:=qo Tryz.f16 0) (by kernel_rfl) (qf.han zh2 rfl ztp)) (fun x=>by kernel_rfl)
def zem (x:qn [.d qt,.d qt]):Fr (qi [.bool]):=
 Fr.br (bif !(x.1.1.1==x.2.1.1.1&&(x.1.1.2.1==x.2.1.1.2.1&&(x.1.1.2.2.1==x.2.1.1.2.2.1&&(x.1.1.2.2.2.1==x.2.1.1.2.2.2.1&&(x.1.1.2.2.2.2.1==x.2.1.1.2.2.2.2.1&&(x.1.1.2.2.2.2.2.1==x.2.1.1.2.2.2.2.2.1&&true)))))) then true else ((List.length x.1.2.1):Int) != ((List.length x.2.1.2.1):Int)) (Fr.val (false,())) (Fr.need (InL (qk7 ((0,()),x.1,x.2.1,())) (qb7 ((0,()),x.1,x.2.1,()))) (Fr.need (zt0 ((0,()),x.1,x.2.1,())) (Fr.br (isL (zbp ((0,()),x.1,x.2.1,()))) (Fr.val (true,())) (Fr.val ((jk qo4 (zbp ((0,()),x.1,x.2.1,()))).1.1,())))))
theorem zj2:qa Tryz.prog 39 ⟨[.d qt,.d qt],[.bool],fun xs=>(zem xs).get,fun xs=>[(zem xs).ok]⟩:=
 qg qcx (Λ:=(fun _=>yf2 zqy.Γ)) (fn:=Tryz.f39) (dfP [.d qt,.d qt]) (by kernel_rfl) (fun c E hc=>jb hc (by kernel_rfl) (b:=qo Tryz.f39 0) (by kernel_rfl) (qf.han qcx rfl zn9)) (fun x=>by kernel_rfl)
def zek (x:qn [.d jg,.d jg]):Fr (qi [.bool]):=
 Fr.br (((List.length x.1):Int) != ((List.length x.2.1):Int)) (Fr.val (false,())) (Fr.need (InL (qk5 ((0,x.1,x.2.1,()),())) (qb5 ((0,x.1,x.2.1,()),()))) (Fr.need (zty ((0,x.1,x.2.1,()),())) (Fr.br (isL (zbn ((0,x.1,x.2.1,()),()))) (Fr.val (true,())) (Fr.val ((jk qo2 (zbn ((0,x.1,x.2.1,()),()))).1.1,())))))
theorem zj0:qa Tryz.prog 102 ⟨[.d jg,.d jg],[.bool],fun xs=>(zek xs).get,fun xs=>[(zek xs).ok]⟩:=
 qg qcx (Λ:=(fun _=>yf0 zqy.Γ)) (fn:=Tryz.f102) (dfP [.d jg,.d jg]) (by kernel_rfl) (fun c E hc=>jb hc (by kernel_rfl) (b:=qo Tryz.f102 0) (by kernel_rfl) (qf.han qcx rfl zn7)) (fun x=>by kernel_rfl)
def qz7 (x:qn [.d (.sl qy),.d (.sl qy)]):Fr (qi [.bool]):=
 Fr.br (((List.length x.1):Int) != ((List.length x.2.1):Int)) (Fr.val (false,())) (Fr.need (InL (qjf ((0,x.1,x.2.1,()),())) (qax ((0,x.1,x.2.1,()),()))) (Fr.need (zoh ((0,x.1,x.2.1,()),())) (Fr.br (isL (qx6 ((0,x.1,x.2.1,()),()))) (Fr.val (true,())) (Fr.val ((jk qmx (qx6 ((0,x.1,x.2.1,()),()))).1.1,())))))
theorem zf8:qa Tryz.prog 101 ⟨[.d (.sl qy),.d (.sl qy)],[.bool],fun xs=>(qz7 xs).get,fun xs=>[(qz7 xs).ok]⟩:=
 qg qcx (Λ:=(fun _=>yaa zqy.Γ)) (fn:=Tryz.f101) (dfP [.d (.sl qy),.d (.sl qy)]) (by kernel_rfl) (fun c E hc=>jb hc (by kernel_rfl) (b:=qo Tryz.f101 0) (by kernel_rfl) (qf.han qcx rfl zle)) (fun x=>by kernel_rfl)
theorem qkx {σ ρ:Type} {good ok:Prop} {g:σ ⊕ ρ} {v:ρ->Bool} {d:ρ} {s1:σ} {c:ρ} {b:Bool} (hg:good) (ho:ok) (h:g=if b=true then .inl s1 else .inr c) (hc:v c=false) :
  (Fr.need good (Fr.need ok (Fr.br (isL g) (Fr.val ((true,()):qi [.bool])) (Fr.val (v (jk d g),()))))).ok/\(Fr.need good (Fr.need ok (Fr.br (isL g) (Fr.val ((true,()):qi [.bool])) (Fr.val (v (jk d g),()))))).get=(b,()):=by
 cases b
 ·have h':g = .inr c:=h
  subst h'
  exact Fr.need_ hg (Fr.need_ ho (Fr.br_f rfl ⟨trivial,by show (v c,())=_; rw [hc]⟩))
 ·have h':g = .inl s1:=h
  subst h'
  exact Fr.need_ hg (Fr.need_ ho (Fr.br_t rfl ⟨trivial,rfl⟩))
theorem qp4 {α β:Type} (a:List α) (b:List β) {n:Int} (h:((List.length a:Nat):Int)<=n):((List.length (a.zip b):Nat):Int)<=n:=by
 rw [List.length_zip]; omega
def yeq (a b:List Int):Bool:=bif ((List.length a:Nat):Int) != ((List.length b:Nat):Int) then false else (a.zip b).all fun e=>!(e.1 != e.2)
def ziv:Ct:=⟨[.d jg,.d jg],[.bool],fun x=>(yeq x.1 x.2.1,()),fun _=>[]⟩
theorem qpn {m n:Nat} (h:(((m:Nat):Int) != ((n:Nat):Int))=false):m=n:=by
 have:((m:Nat):Int)=((n:Nat):Int):=by simpa using h
 omega
theorem zy9:qa Tryz.prog 102 ziv:=conv zj0 _ _ (fun w F x vs hr _=>by
 obtain ⟨a,b,_⟩:=x
 obtain ⟨v,vs',rfl,hv,_⟩:=hr
 have hlen:((List.length (α:=Int) a:Nat):Int)<=9223372036854775807:=qcn hv
 show _/\_=(yeq a b,())
 unfold yeq
 cases h:((List.length (α:=Int) a:Nat):Int) != ((List.length (α:=Int) b:Nat):Int)
 ·refine Fr.br_f h (qkx (v:=fun r=>r.1.1) (s1:=((b,()),())) (c:=((false,()),())) ⟨qpn h,Int.le_refl _,Int.natCast_nonneg _,qp4 a b hlen⟩ (qc8 (step:=qbt) _ (fun e _ s=>⟨fun _=>trivial,fun _=>trivial⟩) _) ?_ rfl)
  show goL qbt (List.drop 0 (a.zip b)) _=_
  rw [List.drop_zero,qc7 (step:=qbt) (I:=fun _=>True) (p:=fun e=>!(e.1 != e.2)) (c:=((false,()),())) (fun e s _=>?_) _ _ trivial]
  ·cases (a.zip b).all fun e=>!(e.1 != e.2)<;>rfl
  ·show (Fr.br (e.1 != e.2) _ _).get=_
   cases e.1 != e.2<;>rfl
 ·exact Fr.br_t h ⟨trivial,rfl⟩)
def bdE (e:qy.den×qy.den):Bool:=e.1.1==e.2.1&&(e.1.2.1==e.2.2.1&&true)
def ya3 (a b:List qy.den):Bool:=bif ((List.length a:Nat):Int) != ((List.length b:Nat):Int) then false else (a.zip b).all bdE
def zrg:Ct:=⟨[.d (.sl qy),.d (.sl qy)],[.bool],fun x=>(ya3 x.1 x.2.1,()),fun _=>[]⟩
theorem zrb:qa Tryz.prog 101 zrg:=conv zf8 _ _ (fun w F x vs hr _=>by
 obtain ⟨a,b,_⟩:=x
 obtain ⟨v,vs',rfl,hv,_⟩:=hr
 have hlen:((List.length (α:=qy.den) a:Nat):Int)<=9223372036854775807:=qcn hv
 show _/\_=(ya3 a b,())
 unfold ya3
 cases h:((List.length (α:=qy.den) a:Nat):Int) != ((List.length (α:=qy.den) b:Nat):Int)
 ·refine Fr.br_f h (qkx (v:=fun r=>r.1.1) (s1:=((b,()),())) (c:=((false,()),())) ⟨qpn h,Int.le_refl _,Int.natCast_nonneg _,qp4 a b hlen⟩ (qc8 (step:=qas) _ (fun e _ s=>⟨fun _=>trivial,fun _=>trivial⟩) _) ?_ rfl)
  show goL qas (List.drop 0 (a.zip b)) _=_
  rw [List.drop_zero,qc7 (step:=qas) (I:=fun _=>True) (p:=bdE) (c:=((false,()),())) (fun e s _=>?_) _ _ trivial]
  ·cases (a.zip b).all bdE<;>rfl
  ·show (Fr.br (!(bdE e)) _ _).get=_
   cases bdE e<;>rfl
 ·exact Fr.br_t h ⟨trivial,rfl⟩)
def acE (e:zh.den×zh.den):Bool:=e.1.1==e.2.1&&(e.1.2.1==e.2.2.1&&(e.1.2.2.1==e.2.2.2.1&&true))
def clE (a b:jx.den):Bool:=a.1==b.1&&(a.2.1==b.2.1&&(a.2.2.1==b.2.2.1&&(a.2.2.2.1==b.2.2.2.1&&(a.2.2.2.2.1==b.2.2.2.2.1&&(a.2.2.2.2.2.1==b.2.2.2.2.2.1&&true)))))
def qvw (a b:qt.den):Bool:=bif bif !(clE a.1 b.1) then true else ((List.length (α:=zh.den) a.2.1:Nat):Int) != ((List.length (α:=zh.den) b.2.1:Nat):Int) then false else (List.zip (α:=zh.den) (β:=zh.den) a.2.1 b.2.1).all acE
def ziw:Ct:=⟨[.d qt,.d qt],[.bool],fun x=>(qvw x.1 x.2.1,()),fun _=>[]⟩
theorem orF {a b:Bool} (h:(bif a then true else b)=false):a=false/\b=false:=by cases a<;>cases b<;>first|exact ⟨rfl,rfl⟩|cases h
theorem zzb:qa Tryz.prog 39 ziw:=conv zj2 _ _ (fun w F x vs hr _=>by
 obtain ⟨a,b,_⟩:=x
 obtain ⟨v,vs',rfl,hv,_⟩:=hr
 have hlen:=zpn hv
 show _/\_=(qvw a b,())
 unfold qvw
 cases h:(bif !(clE a.1 b.1) then true else ((List.length (α:=zh.den) a.2.1:Nat):Int) != ((List.length (α:=zh.den) b.2.1:Nat):Int))
 ·refine Fr.br_f h (qkx (v:=fun r=>r.1.1) (s1:=((),a,b,())) (c:=((false,()),())) ⟨qpn (orF h).2,Int.le_refl _,Int.natCast_nonneg _,qp4 _ _ hlen⟩ (qc8 (step:=qbv) _ (fun e _ s=>⟨fun _=>trivial,fun _=>trivial⟩) _) ?_ rfl)
  show goL qbv (List.drop 0 (List.zip (α:=zh.den) (β:=zh.den) a.2.1 b.2.1)) _=_
  rw [List.drop_zero,qc7 (step:=qbv) (I:=fun _=>True) (p:=acE) (c:=((false,()),())) (fun e s _=>?_) _ _ trivial]
  ·cases (List.zip (α:=zh.den) (β:=zh.den) a.2.1 b.2.1).all acE<;>rfl
  ·show (Fr.br (!(acE e)) _ _).get=_
   cases acE e<;>rfl
 ·exact Fr.br_t h ⟨trivial,rfl⟩)
def qyu (j:jourT.den) (n:Int):Bool:=bif bif !(qsk h00 j.1) then true else decide (((List.length (α:=qk.den) j.2.1:Nat):Int)>n) then false else j.2.1.all qn9
def zrk:Ct:=⟨[.d jourT,.d i64],[.bool],fun x=>(qyu x.1 x.2.1,()),fun _=>[]⟩
theorem yit:qa Tryz.prog 16 zrk:=conv zso _ _ (fun w F x vs hr _=>by
 obtain ⟨j,n,_⟩:=x
 obtain ⟨v,vs',rfl,hv,_⟩:=hr
 have hlen:=zpv hv
 show _/\_=(qyu j n,())
 unfold qyu
 cases h:(bif !(qsk h00 j.1) then true else decide (((List.length (α:=qk.den) j.2.1:Nat):Int)>n))
 ·refine Fr.br_f h (qkx (v:=fun r=>r.1.1) (s1:=((),j,())) (c:=((false,()),())) ⟨trivial,Int.le_refl _,Int.natCast_nonneg _,hlen⟩ (qc8 (step:=qct) _ (fun e _ s=>⟨fun _=>trivial,fun _=>trivial⟩) _) ?_ rfl)
  show goL qct (List.drop 0 j.2.1) _=_
  rw [List.drop_zero,qc7 (step:=qct) (I:=fun _=>True) (p:=qn9) (c:=((false,()),())) (fun e s _=>?_) _ _ trivial]
  ·cases j.2.1.all qn9<;>rfl
  ·show (Fr.br (!(qn9 e)) _ _).get=_
   cases qn9 e<;>rfl
 ·exact Fr.br_t h ⟨trivial,rfl⟩)
theorem yb9 {j:jourT.den} {n:Int} (h:qyu j n=true):wn j.1/\((List.length (α:=qk.den) j.2.1:Nat):Int)<=n/\∀ f∈j.2.1,qn9 f=true:=by
 unfold qyu at h
 cases h1:(bif !(qsk h00 j.1) then true else decide (((List.length (α:=qk.den) j.2.1:Nat):Int)>n))
 ·rw [h1] at h
  obtain ⟨h2,h3⟩:=orF h1
  have h4:qsk h00 j.1=true:=by simpa using h2
  exact ⟨(zw4 h4).2,by have:=of_decide_eq_false h3; omega,List.all_eq_true.mp h⟩
 ·rw [h1] at h; cases h
noncomputable def ysc:Cx:=cx [(103,qhj),(102,ziv),(101,zrg)] []
theorem zce:CxOK Tryz.prog ysc:=zc (cs:=[(103,qhj),(102,ziv),(101,zrg)]) (ps:=[]) qv ⟨zbr,zy9,zrb,trivial⟩ trivial
def qyz (x:qn [.d qw,.d qw]):Fr (qi [.bool]):=
 Fr.val (bif bif bif bif bif x.1.1==x.2.1.1 then x.1.2.1.1==x.2.1.2.1.1&&(x.1.2.1.2.1==x.2.1.2.1.2.1&&(x.1.2.1.2.2.1==x.2.1.2.1.2.2.1&&(x.1.2.1.2.2.2.1==x.2.1.2.1.2.2.2.1&&true))) else false then x.1.2.2.2.2.2.1==x.2.1.2.2.2.2.2.1 else false then (zrg.f (x.1.2.2.1,x.2.1.2.2.1,())).1 else false then (ziv.f (x.1.2.2.2.1,x.2.1.2.2.2.1,())).1 else false then (ziv.f (x.1.2.2.2.2.1,x.2.1.2.2.2.2.1,())).1 else false,())
theorem znv:qa Tryz.prog 64 ⟨[.d qw,.d qw],[.bool],fun xs=>(qyz xs).get,fun xs=>[(qyz xs).ok]⟩:=
 qg zce (Λ:=qq) (fn:=Tryz.f64) (dfP [.d qw,.d qw]) (by kernel_rfl) (fun c E _=>qe c 0) (fun x=>by kernel_rfl)
def quw (x:qn [.d qd,.d qd]):Fr (qi [.bool]):=
 Fr.val (bif bif bif bif bif (qhj.f (x.1.2.2.2.2.1,x.2.1.2.2.2.2.1,())).1 then x.1.1==x.2.1.1 else false then x.1.2.1==x.2.1.2.1 else false then x.1.2.2.1==x.2.1.2.2.1 else false then x.1.2.2.2.1.1==x.2.1.2.2.2.1.1&&(x.1.2.2.2.1.2.1==x.2.1.2.2.2.1.2.1&&(x.1.2.2.2.1.2.2.1==x.2.1.2.2.2.1.2.2.1&&(x.1.2.2.2.1.2.2.2.1==x.2.1.2.2.2.1.2.2.2.1&&true))) else false then x.1.2.2.2.2.2.1==x.2.1.2.2.2.2.2.1 else false,())
theorem zj3:qa Tryz.prog 66 ⟨[.d qd,.d qd],[.bool],fun xs=>(quw xs).get,fun xs=>[(quw xs).ok]⟩:=
 qg zce (Λ:=qq) (fn:=Tryz.f66) (dfP [.d qd,.d qd]) (by kernel_rfl) (fun c E _=>qe c 0) (fun x=>by kernel_rfl)
def qux (x:qn [.d zo,.d zo]):Fr (qi [.bool]):=
 Fr.val (bif bif (qhj.f (x.1.2.2.1,x.2.1.2.2.1,())).1 then x.1.1.1==x.2.1.1.1&&(x.1.1.2.1==x.2.1.1.2.1&&true) else false then x.1.2.1.1==x.2.1.2.1.1&&(x.1.2.1.2.1==x.2.1.2.1.2.1&&(x.1.2.1.2.2.1==x.2.1.2.1.2.2.1&&(x.1.2.1.2.2.2.1==x.2.1.2.1.2.2.2.1&&true))) else false,())
theorem zj5:qa Tryz.prog 65 ⟨[.d zo,.d zo],[.bool],fun xs=>(qux xs).get,fun xs=>[(qux xs).ok]⟩:=
 qg zce (Λ:=qq) (fn:=Tryz.f65) (dfP [.d zo,.d zo]) (by kernel_rfl) (fun c E _=>qe c 0) (fun x=>by kernel_rfl)
def svF (a b:qw.den):Bool:=(qyz (a,b,())).get.1
def zdw (a b:qd.den):Bool:=(quw (a,b,())).get.1
def yps (a b:zo.den):Bool:=(qux (a,b,())).get.1
def cSV:Ct:=⟨[.d qw,.d qw],[.bool],fun x=>(svF x.1 x.2.1,()),fun _=>[]⟩
def zix:Ct:=⟨[.d qd,.d qd],[.bool],fun x=>(zdw x.1 x.2.1,()),fun _=>[]⟩
def zrp:Ct:=⟨[.d zo,.d zo],[.bool],fun x=>(yps x.1 x.2.1,()),fun _=>[]⟩
theorem yru:qa Tryz.prog 64 cSV:=conv znv _ _ (fun _ _ _ _ _ _=>⟨trivial,rfl⟩)
theorem ypi:qa Tryz.prog 66 zix:=conv zj3 _ _ (fun _ _ _ _ _ _=>⟨trivial,rfl⟩)
theorem ypt:qa Tryz.prog 65 zrp:=conv zj5 _ _ (fun _ _ _ _ _ _=>⟨trivial,rfl⟩)
noncomputable def ysd:Cx:=cx [(64,cSV),(66,zix)] []
theorem zoz:CxOK Tryz.prog ysd:=zc (cs:=[(64,cSV),(66,zix)]) (ps:=[]) qv ⟨yru,ypi,trivial⟩ trivial
abbrev vl:Pt:=⟨32,0,⟨[(5,.d i64)],[.x 2 24 ze,.r 2 2 0,.x 3 24 ze,.r 3 3 0]⟩,⟨[],[]⟩,⟨[(4,.d .bool)],[]⟩⟩
def zeu (x:vl.M.X):Fr vl.Out:=
 Fr.br (decide (x.1.1<((List.length x.2.1.1):Int))) (Fr.need (0<=x.1.1/\x.1.1<((List.length x.2.1.1):Int)) (Fr.need (0<=x.1.1/\x.1.1<((List.length x.2.2.1.1):Int)) (Fr.br (!(cSV.f ((List.getD x.2.1.1 (Int.toNat x.1.1) qw.dflt),(List.getD x.2.2.1.1 (Int.toNat x.1.1) qw.dflt),())).1) (Fr.val (Rd.back ((false,()),()))) (Fr.val (Rd.next ((IntKind.i64.wrap (x.1.1+1),()),(x.2.1.1,()),(x.2.2.1.1,()),())))))) (Fr.val (Rd.out ((),())))
theorem zuz:qf Tryz.prog (qo Tryz.f37 0) vl.M vl zeu:=
 qf.of_run zoz (bs:=0) (Λ:=qq) rfl rfl rfl (fun E=>qe _ 0) (fun x=>by kernel_rfl)
abbrev qiz:Type:=qn []×jd [.x 2 24 ze,.r 2 2 0,.x 3 24 ze,.r 3 3 0]
def qbu (e:(qw.den×qw.den)) (s:qiz):Fr (qiz ⊕ vl.R.X):=
 Fr.br (!(cSV.f (e.1,e.2,())).1) (Fr.val (.inr ((false,()),()))) (Fr.val (.inl ((),(s.2.1.1,()),(s.2.2.1.1,()),())))
def qb6 (x:vl.M.X):Int×List (qw.den×qw.den)×qiz:=(x.1.1,x.2.1.1.zip x.2.2.1.1,x.1.2,x.2)
def qk6 (x:vl.M.X):Prop:=x.2.1.1.length=x.2.2.1.1.length
def qs5 (_s:qiz):vl.E.X:=((),())
def qun:qiz:=(dfP _,dfM _)
def qo3:vl.R.X:=(dfP _,dfM _)
theorem zn8:qf Tryz.prog (.loop (qo Tryz.f37 0)) vl.M vl (FL qbu qb6 qk6 qs5 Rd.back qun qo3):=by
 refine qf.list zuz qbu qb6 qk6 qs5 Rd.back qun qo3 ?_ ?_
 ·rintro ⟨⟨i,s⟩,m⟩ hg h0 h1 hb e he Q h
  have hz:m.1.1.length=m.2.1.1.length:=hg
  have h0:0<=i:=h0
  have h1:i<(m.1.1.length:Int):=qhw hz h1
  have hb:(m.1.1.length:Int)<=9223372036854775807:=qhv hz hb
  have h1z:i<(m.2.1.1.length:Int):=by rw [← hz]; exact h1
  have hd:m.1.1.getD i.toNat qw.dflt=e.1:=zp (qfr he)
  have hdz:m.2.1.1.getD i.toNat qw.dflt=e.2:=zp (qft he)
  have hw:=zu h0 h1 hb
  dsimp only [qb6,qbu,zeu,Fr.satP] at h ⊢
  simp only [hd,hw,hdz] at h ⊢
  refine ⟨fun _=>?_,fun hn=>absurd h1 (of_decide_eq_false hn)⟩
  repeat' first
   |exact h
   |exact ⟨h0,h1⟩
   |exact fun _=>⟨h0,h1⟩
   |exact ⟨h0,h1z⟩
   |exact fun _=>⟨h0,h1z⟩
   |exact h _ rfl hz
   |(refine ⟨fun hc=>?_,fun hc=>?_⟩<;>first|replace h:=h.1 hc|replace h:=h.2 hc)
   |(refine ⟨h.1,?_⟩; replace h:=h.2)
   |refine ⟨⟨h0,h1⟩,?_⟩
   |exact h.1
   |exact h.2.1
   |exact h.2.2.1
   |refine ⟨?_,?_⟩
   |(intro (hc:_=true); replace h:=h.1 hc)
   |(intro (hc:_=false); replace h:=h.2 hc)
   |(replace h:=h.2)
 ·rintro ⟨⟨i,s⟩,m⟩ hg h1 Q h
  have hz:m.1.1.length=m.2.1.1.length:=hg
  exact ⟨fun hn=>absurd (of_decide_eq_true hn) (qfs hz h1),fun _=>h⟩
def yf1 (Γ:Gm):St->Option Tr:=vl.han Γ vl.M (FL qbu qb6 qk6 qs5 Rd.back qun qo3)
def zbo (y:vl.M.X):qiz ⊕ vl.R.X:=goL qbu ((qb6 y).2.1.drop (qb6 y).1.toNat) (qb6 y).2.2
def ztz (y:vl.M.X):Prop:=okL qbu ((qb6 y).2.1.drop (qb6 y).1.toNat) (qb6 y).2.2
abbrev vn:Pt:=⟨58,0,⟨[(6,.d i64)],[.x 2 54 qm,.r 2 2 0,.x 3 54 qm,.r 3 3 0]⟩,⟨[],[]⟩,⟨[(4,.d .bool)],[]⟩⟩
def zew (x:vn.M.X):Fr vn.Out:=
 Fr.br (decide (x.1.1<((List.length x.2.1.2.2.2.1):Int))) (Fr.need (0<=x.1.1/\x.1.1<((List.length x.2.1.2.2.2.1):Int)) (Fr.need (0<=x.1.1/\x.1.1<((List.length x.2.2.1.2.2.2.1):Int)) (Fr.br (!(zix.f ((List.getD x.2.1.2.2.2.1 (Int.toNat x.1.1) qd.dflt),(List.getD x.2.2.1.2.2.2.1 (Int.toNat x.1.1) qd.dflt),())).1) (Fr.val (Rd.back ((false,()),()))) (Fr.val (Rd.next ((IntKind.i64.wrap (x.1.1+1),()),x.2.1,x.2.2.1,())))))) (Fr.val (Rd.out ((),())))
theorem zu1:qf Tryz.prog (qo Tryz.f38 0) vn.M vn zew:=
 qf.of_run zoz (bs:=0) (Λ:=qq) rfl rfl rfl (fun E=>qe _ 0) (fun x=>by kernel_rfl)
abbrev qi1:Type:=qn []×jd [.x 2 54 qm,.r 2 2 0,.x 3 54 qm,.r 3 3 0]
def qbw (e:(qd.den×qd.den)) (s:qi1):Fr (qi1 ⊕ vn.R.X):=
 Fr.br (!(zix.f (e.1,e.2,())).1) (Fr.val (.inr ((false,()),()))) (Fr.val (.inl ((),s.2.1,s.2.2.1,())))
def qb8 (x:vn.M.X):Int×List (qd.den×qd.den)×qi1:=(x.1.1,x.2.1.2.2.2.1.zip x.2.2.1.2.2.2.1,x.1.2,x.2)
def qk8 (x:vn.M.X):Prop:=x.2.1.2.2.2.1.length=x.2.2.1.2.2.2.1.length
def qs7 (_s:qi1):vn.E.X:=((),())
def quq:qi1:=(dfP _,dfM _)
def qo5:vn.R.X:=(dfP _,dfM _)
theorem zoa:qf Tryz.prog (.loop (qo Tryz.f38 0)) vn.M vn (FL qbw qb8 qk8 qs7 Rd.back quq qo5):=by
 refine qf.list zu1 qbw qb8 qk8 qs7 Rd.back quq qo5 ?_ ?_
 ·rintro ⟨⟨i,s⟩,m⟩ hg h0 h1 hb e he Q h
  have hz:m.1.2.2.2.1.length=m.2.1.2.2.2.1.length:=hg
  have h0:0<=i:=h0
  have h1:i<(m.1.2.2.2.1.length:Int):=qhw hz h1
  have hb:(m.1.2.2.2.1.length:Int)<=9223372036854775807:=qhv hz hb
  have h1z:i<(m.2.1.2.2.2.1.length:Int):=by rw [← hz]; exact h1
  have hd:m.1.2.2.2.1.getD i.toNat qd.dflt=e.1:=zp (qfr he)
  have hdz:m.2.1.2.2.2.1.getD i.toNat qd.dflt=e.2:=zp (qft he)
  have hw:=zu h0 h1 hb
  dsimp only [qb8,qbw,zew,Fr.satP] at h ⊢
  simp only [hd,hw,hdz] at h ⊢
  refine ⟨fun _=>?_,fun hn=>absurd h1 (of_decide_eq_false hn)⟩
  repeat' first
   |exact h
   |exact ⟨h0,h1⟩
   |exact fun _=>⟨h0,h1⟩
   |exact ⟨h0,h1z⟩
   |exact fun _=>⟨h0,h1z⟩
   |exact h _ rfl hz
   |(refine ⟨fun hc=>?_,fun hc=>?_⟩<;>first|replace h:=h.1 hc|replace h:=h.2 hc)
   |(refine ⟨h.1,?_⟩; replace h:=h.2)
   |refine ⟨⟨h0,h1⟩,?_⟩
   |exact h.1
   |exact h.2.1
   |exact h.2.2.1
   |refine ⟨?_,?_⟩
   |(intro (hc:_=true); replace h:=h.1 hc)
   |(intro (hc:_=false); replace h:=h.2 hc)
   |(replace h:=h.2)
 ·rintro ⟨⟨i,s⟩,m⟩ hg h1 Q h
  have hz:m.1.2.2.2.1.length=m.2.1.2.2.2.1.length:=hg
  exact ⟨fun hn=>absurd (of_decide_eq_true hn) (qfs hz h1),fun _=>h⟩
def yf3 (Γ:Gm):St->Option Tr:=vn.han Γ vn.M (FL qbw qb8 qk8 qs7 Rd.back quq qo5)
def zbq (y:vn.M.X):qi1 ⊕ vn.R.X:=goL qbw ((qb8 y).2.1.drop (qb8 y).1.toNat) (qb8 y).2.2
def zt1 (y:vn.M.X):Prop:=okL qbw ((qb8 y).2.1.drop (qb8 y).1.toNat) (qb8 y).2.2
noncomputable def yaj:Cx:=cx [(65,zrp)] []
theorem qwh:CxOK Tryz.prog yaj:=zc (cs:=[(65,zrp)]) (ps:=[]) qv ⟨ypt,trivial⟩ trivial
def zel (x:qn [.d ze,.d ze]):Fr (qi [.bool]):=
 Fr.br (((List.length x.1.1):Int) != ((List.length x.2.1.1):Int)) (Fr.val (false,())) (Fr.need (InL (qk6 ((0,()),(x.1.1,()),(x.2.1.1,()),())) (qb6 ((0,()),(x.1.1,()),(x.2.1.1,()),()))) (Fr.need (ztz ((0,()),(x.1.1,()),(x.2.1.1,()),())) (Fr.br (isL (zbo ((0,()),(x.1.1,()),(x.2.1.1,()),()))) (Fr.val (true,())) (Fr.val ((jk qo3 (zbo ((0,()),(x.1.1,()),(x.2.1.1,()),()))).1.1,())))))
theorem zj1:qa Tryz.prog 37 ⟨[.d ze,.d ze],[.bool],fun xs=>(zel xs).get,fun xs=>[(zel xs).ok]⟩:=
 qg qwh (Λ:=(fun _=>yf1 yaj.Γ)) (fn:=Tryz.f37) (dfP [.d ze,.d ze]) (by kernel_rfl) (fun c E hc=>jb hc (by kernel_rfl) (b:=qo Tryz.f37 0) (by kernel_rfl) (qf.han qwh rfl zn8)) (fun x=>by kernel_rfl)
def zen (x:qn [.d qm,.d qm]):Fr (qi [.bool]):=
 Fr.br (bif bif bif !(zrp.f (x.1.2.2.1,x.2.1.2.2.1,())).1 then true else x.1.1 != x.2.1.1 then true else x.1.2.1 != x.2.1.2.1 then true else ((List.length x.1.2.2.2.1):Int) != ((List.length x.2.1.2.2.2.1):Int)) (Fr.val (false,())) (Fr.need (InL (qk8 ((0,()),x.1,x.2.1,())) (qb8 ((0,()),x.1,x.2.1,()))) (Fr.need (zt1 ((0,()),x.1,x.2.1,())) (Fr.br (isL (zbq ((0,()),x.1,x.2.1,()))) (Fr.val (true,())) (Fr.val ((jk qo5 (zbq ((0,()),x.1,x.2.1,()))).1.1,())))))
theorem zj4:qa Tryz.prog 38 ⟨[.d qm,.d qm],[.bool],fun xs=>(zen xs).get,fun xs=>[(zen xs).ok]⟩:=
 qg qwh (Λ:=(fun _=>yf3 yaj.Γ)) (fn:=Tryz.f38) (dfP [.d qm,.d qm]) (by kernel_rfl) (fun c E hc=>jb hc (by kernel_rfl) (b:=qo Tryz.f38 0) (by kernel_rfl) (qf.han qwh rfl zoa)) (fun x=>by kernel_rfl)
def zuw (a b:ze.den):Bool:=bif ((List.length (α:=qw.den) a.1:Nat):Int) != ((List.length (α:=qw.den) b.1:Nat):Int) then false else (List.zip (α:=qw.den) (β:=qw.den) a.1 b.1).all fun e=>svF e.1 e.2
def ybh:Ct:=⟨[.d ze,.d ze],[.bool],fun x=>(zuw x.1 x.2.1,()),fun _=>[]⟩
theorem ypw {w:World} {F:Nat->Prop} {t:ze.den} {v:Value} (h:zv w F ze t v):((List.length (α:=qw.den) t.1:Nat):Int)<=9223372036854775807:=by
 have h1:List.length (α:=qw.den) t.1<=maxLen:=(qs.wf h.2.2).1.1
 unfold maxLen at h1
 omega
theorem yjd {w:World} {F:Nat->Prop} {t:qm.den} {v:Value} (h:zv w F qm t v):((List.length (α:=qd.den) t.2.2.2.1:Nat):Int)<=9223372036854775807:=by
 have h1:List.length (α:=qd.den) t.2.2.2.1<=maxLen:=(qs.wf h.2.2).2.2.2.1.1
 unfold maxLen at h1
 omega
theorem zza:qa Tryz.prog 37 ybh:=conv zj1 _ _ (fun w F x vs hr _=>by
 obtain ⟨a,b,_⟩:=x
 obtain ⟨v,vs',rfl,hv,_⟩:=hr
 have hlen:=ypw hv
 show _/\_=(zuw a b,())
 unfold zuw
 cases h:((List.length (α:=qw.den) a.1:Nat):Int) != ((List.length (α:=qw.den) b.1:Nat):Int)
 ·refine Fr.br_f h (qkx (v:=fun r=>r.1.1) (s1:=((),a,b,())) (c:=((false,()),())) ⟨qpn h,Int.le_refl _,Int.natCast_nonneg _,qp4 _ _ hlen⟩ (qc8 (step:=qbu) _ (fun e _ s=>⟨fun _=>trivial,fun _=>trivial⟩) _) ?_ rfl)
  show goL qbu (List.drop 0 (List.zip (α:=qw.den) (β:=qw.den) a.1 b.1)) _=_
  rw [List.drop_zero,qc7 (step:=qbu) (I:=fun _=>True) (p:=fun e=>svF e.1 e.2) (c:=((false,()),())) (fun e s _=>?_) _ _ trivial]
  ·cases (List.zip (α:=qw.den) (β:=qw.den) a.1 b.1).all fun e=>svF e.1 e.2<;>rfl
  ·show (Fr.br (!(svF e.1 e.2)) _ _).get=_
   cases svF e.1 e.2<;>rfl
 ·exact Fr.br_t h ⟨trivial,rfl⟩)
def shB (a b:qm.den):Bool:=bif bif bif !(yps a.2.2.1 b.2.2.1) then true else a.1 != b.1 then true else a.2.1 != b.2.1 then true else ((List.length (α:=qd.den) a.2.2.2.1:Nat):Int) != ((List.length (α:=qd.den) b.2.2.2.1:Nat):Int)
def shF (a b:qm.den):Bool:=bif shB a b then false else (List.zip (α:=qd.den) (β:=qd.den) a.2.2.2.1 b.2.2.2.1).all fun e=>zdw e.1 e.2
def cSH:Ct:=⟨[.d qm,.d qm],[.bool],fun x=>(shF x.1 x.2.1,()),fun _=>[]⟩
theorem zzc:qa Tryz.prog 38 cSH:=conv zj4 _ _ (fun w F x vs hr _=>by
 obtain ⟨a,b,_⟩:=x
 obtain ⟨v,vs',rfl,hv,_⟩:=hr
 have hlen:=yjd hv
 show _/\_=(shF a b,())
 unfold shF
 cases h:shB a b
 ·refine Fr.br_f h (qkx (v:=fun r=>r.1.1) (s1:=((),a,b,())) (c:=((false,()),())) ⟨qpn (orF h).2,Int.le_refl _,Int.natCast_nonneg _,qp4 _ _ hlen⟩ (qc8 (step:=qbw) _ (fun e _ s=>⟨fun _=>trivial,fun _=>trivial⟩) _) ?_ rfl)
  show goL qbw (List.drop 0 (List.zip (α:=qd.den) (β:=qd.den) a.2.2.2.1 b.2.2.2.1)) _=_
  rw [List.drop_zero,qc7 (step:=qbw) (I:=fun _=>True) (p:=fun e=>zdw e.1 e.2) (c:=((false,()),())) (fun e s _=>?_) _ _ trivial]
  ·cases (List.zip (α:=qd.den) (β:=qd.den) a.2.2.2.1 b.2.2.2.1).all fun e=>zdw e.1 e.2<;>rfl
  ·show (Fr.br (!(zdw e.1 e.2)) _ _).get=_
   cases zdw e.1 e.2<;>rfl
 ·exact Fr.br_t h ⟨trivial,rfl⟩)
noncomputable def yse:Cx:=cx [(38,cSH),(39,ziw)] []
theorem zcf:CxOK Tryz.prog yse:=zc (cs:=[(38,cSH),(39,ziw)]) (ps:=[]) qv ⟨zzc,zzb,trivial⟩ trivial
abbrev jy:Pt:=⟨127,0,⟨[(6,.d i64)],[.x 2 29 qj,.r 2 2 0,.x 3 29 qj,.r 3 3 0]⟩,⟨[],[.x 2 29 qj,.r 2 2 0,.x 3 29 qj,.r 3 3 0]⟩,⟨[(4,.d .bool)],[]⟩⟩
def zex (x:jy.M.X):Fr jy.Out:=
 Fr.br (decide (x.1.1<((List.length x.2.1.2.1):Int))) (Fr.need (0<=x.1.1/\x.1.1<((List.length x.2.1.2.1):Int)) (Fr.need (0<=x.1.1/\x.1.1<((List.length x.2.2.1.2.1):Int)) (Fr.need ((!(cSH.f ((List.getD x.2.1.2.1 (Int.toNat x.1.1) zf.dflt).1,(List.getD x.2.2.1.2.1 (Int.toNat x.1.1) zf.dflt).1,())).1)=false->0<=x.1.1/\x.1.1<((List.length x.2.1.2.1):Int)) (Fr.need ((!(cSH.f ((List.getD x.2.1.2.1 (Int.toNat x.1.1) zf.dflt).1,(List.getD x.2.2.1.2.1 (Int.toNat x.1.1) zf.dflt).1,())).1)=false->0<=x.1.1/\x.1.1<((List.length x.2.2.1.2.1):Int)) (Fr.br (bif !(cSH.f ((List.getD x.2.1.2.1 (Int.toNat x.1.1) zf.dflt).1,(List.getD x.2.2.1.2.1 (Int.toNat x.1.1) zf.dflt).1,())).1 then true else (List.getD x.2.1.2.1 (Int.toNat x.1.1) zf.dflt).2.1 != (List.getD x.2.2.1.2.1 (Int.toNat x.1.1) zf.dflt).2.1) (Fr.val (Rd.back ((false,()),()))) (Fr.val (Rd.next ((IntKind.i64.wrap (x.1.1+1),()),x.2.1,x.2.2.1,())))))))) (Fr.val (Rd.out ((),x.2.1,x.2.2.1,())))
theorem zu2:qf Tryz.prog (qo Tryz.f15 0) jy.M jy zex:=
 qf.of_run zcf (bs:=0) (Λ:=qq) rfl rfl rfl (fun E=>qe _ 0) (fun x=>by kernel_rfl)
abbrev qi2:Type:=qn []×jd [.x 2 29 qj,.r 2 2 0,.x 3 29 qj,.r 3 3 0]
def qbx (e:(zf.den×zf.den)) (s:qi2):Fr (qi2 ⊕ jy.R.X):=
 Fr.br (bif !(cSH.f (e.1.1,e.2.1,())).1 then true else e.1.2.1 != e.2.2.1) (Fr.val (.inr ((false,()),()))) (Fr.val (.inl ((),s.2.1,s.2.2.1,())))
def qb9 (x:jy.M.X):Int×List (zf.den×zf.den)×qi2:=(x.1.1,x.2.1.2.1.zip x.2.2.1.2.1,x.1.2,x.2)
def qk9 (x:jy.M.X):Prop:=x.2.1.2.1.length=x.2.2.1.2.1.length
def qjn (s:qi2):jy.E.X:=((),s.2.1,s.2.2.1,())
def qlq:qi2:=(dfP _,dfM _)
def qo6:jy.R.X:=(dfP _,dfM _)
theorem zob:qf Tryz.prog (.loop (qo Tryz.f15 0)) jy.M jy (FL qbx qb9 qk9 qjn Rd.back qlq qo6):=by
 refine qf.list zu2 qbx qb9 qk9 qjn Rd.back qlq qo6 ?_ ?_
 ·rintro ⟨⟨i,s⟩,m⟩ hg h0 h1 hb e he Q h
  have hz:m.1.2.1.length=m.2.1.2.1.length:=hg
  have h0:0<=i:=h0
  have h1:i<(m.1.2.1.length:Int):=qhw hz h1
  have hb:(m.1.2.1.length:Int)<=9223372036854775807:=qhv hz hb
  have h1z:i<(m.2.1.2.1.length:Int):=by rw [← hz]; exact h1
  have hd:m.1.2.1.getD i.toNat zf.dflt=e.1:=zp (qfr he)
  have hdz:m.2.1.2.1.getD i.toNat zf.dflt=e.2:=zp (qft he)
  have hw:=zu h0 h1 hb
  dsimp only [qb9,qbx,zex,Fr.satP] at h ⊢
  simp only [hd,hw,hdz] at h ⊢
  refine ⟨fun _=>?_,fun hn=>absurd h1 (of_decide_eq_false hn)⟩
  repeat' first
   |exact h
   |exact ⟨h0,h1⟩
   |exact fun _=>⟨h0,h1⟩
   |exact ⟨h0,h1z⟩
   |exact fun _=>⟨h0,h1z⟩
   |exact h _ rfl hz
   |(refine ⟨fun hc=>?_,fun hc=>?_⟩<;>first|replace h:=h.1 hc|replace h:=h.2 hc)
   |(refine ⟨h.1,?_⟩; replace h:=h.2)
   |refine ⟨⟨h0,h1⟩,?_⟩
   |exact h.1
   |exact h.2.1
   |exact h.2.2.1
   |refine ⟨?_,?_⟩
   |(intro (hc:_=true); replace h:=h.1 hc)
   |(intro (hc:_=false); replace h:=h.2 hc)
   |(replace h:=h.2)
 ·rintro ⟨⟨i,s⟩,m⟩ hg h1 Q h
  have hz:m.1.2.1.length=m.2.1.2.1.length:=hg
  exact ⟨fun hn=>absurd (of_decide_eq_true hn) (qfs hz h1),fun _=>h⟩
def yf4 (Γ:Gm):St->Option Tr:=jy.han Γ jy.M (FL qbx qb9 qk9 qjn Rd.back qlq qo6)
def qj0 (y:jy.M.X):qi2 ⊕ jy.R.X:=goL qbx ((qb9 y).2.1.drop (qb9 y).1.toNat) (qb9 y).2.2
def zt2 (y:jy.M.X):Prop:=okL qbx ((qb9 y).2.1.drop (qb9 y).1.toNat) (qb9 y).2.2
abbrev jo:Pt:=⟨127,2,⟨[(8,.d i64)],[.x 2 29 qj,.r 2 2 0,.x 3 29 qj,.r 3 3 0]⟩,⟨[],[.x 2 29 qj,.r 2 2 0,.x 3 29 qj,.r 3 3 0]⟩,⟨[(4,.d .bool)],[]⟩⟩
def zey (x:jo.M.X):Fr jo.Out:=
 Fr.br (decide (x.1.1<((List.length x.2.1.2.2.1):Int))) (Fr.need (0<=x.1.1/\x.1.1<((List.length x.2.1.2.2.1):Int)) (Fr.need (0<=x.1.1/\x.1.1<((List.length x.2.2.1.2.2.1):Int)) (Fr.br (!(ziw.f ((List.getD x.2.1.2.2.1 (Int.toNat x.1.1) qt.dflt),(List.getD x.2.2.1.2.2.1 (Int.toNat x.1.1) qt.dflt),())).1) (Fr.val (Rd.back ((false,()),()))) (Fr.val (Rd.next ((IntKind.i64.wrap (x.1.1+1),()),x.2.1,x.2.2.1,())))))) (Fr.val (Rd.out ((),x.2.1,x.2.2.1,())))
theorem zu3:qf Tryz.prog (qo Tryz.f15 1) jo.M jo zey:=
 qf.of_run zcf (bs:=0) (Λ:=qq) rfl rfl rfl (fun E=>qe _ 0) (fun x=>by kernel_rfl)
abbrev qgq:Type:=qn []×jd [.x 2 29 qj,.r 2 2 0,.x 3 29 qj,.r 3 3 0]
def qby (e:(qt.den×qt.den)) (s:qgq):Fr (qgq ⊕ jo.R.X):=
 Fr.br (!(ziw.f (e.1,e.2,())).1) (Fr.val (.inr ((false,()),()))) (Fr.val (.inl ((),s.2.1,s.2.2.1,())))
def qa4 (x:jo.M.X):Int×List (qt.den×qt.den)×qgq:=(x.1.1,x.2.1.2.2.1.zip x.2.2.1.2.2.1,x.1.2,x.2)
def qhr (x:jo.M.X):Prop:=x.2.1.2.2.1.length=x.2.2.1.2.2.1.length
def qjo (s:qgq):jo.E.X:=((),s.2.1,s.2.2.1,())
def qlr:qgq:=(dfP _,dfM _)
def qo7:jo.R.X:=(dfP _,dfM _)
theorem zoc:qf Tryz.prog (.loop (qo Tryz.f15 1)) jo.M jo (FL qby qa4 qhr qjo Rd.back qlr qo7):=by
 refine qf.list zu3 qby qa4 qhr qjo Rd.back qlr qo7 ?_ ?_
 ·rintro ⟨⟨i,s⟩,m⟩ hg h0 h1 hb e he Q h
  have hz:m.1.2.2.1.length=m.2.1.2.2.1.length:=hg
  have h0:0<=i:=h0
  have h1:i<(m.1.2.2.1.length:Int):=qhw hz h1
  have hb:(m.1.2.2.1.length:Int)<=9223372036854775807:=qhv hz hb
  have h1z:i<(m.2.1.2.2.1.length:Int):=by rw [← hz]; exact h1
  have hd:m.1.2.2.1.getD i.toNat qt.dflt=e.1:=zp (qfr he)
  have hdz:m.2.1.2.2.1.getD i.toNat qt.dflt=e.2:=zp (qft he)
  have hw:=zu h0 h1 hb
  dsimp only [qa4,qby,zey,Fr.satP] at h ⊢
  simp only [hd,hw,hdz] at h ⊢
  refine ⟨fun _=>?_,fun hn=>absurd h1 (of_decide_eq_false hn)⟩
  repeat' first
   |exact h
   |exact ⟨h0,h1⟩
   |exact fun _=>⟨h0,h1⟩
   |exact ⟨h0,h1z⟩
   |exact fun _=>⟨h0,h1z⟩
   |exact h _ rfl hz
   |(refine ⟨fun hc=>?_,fun hc=>?_⟩<;>first|replace h:=h.1 hc|replace h:=h.2 hc)
   |(refine ⟨h.1,?_⟩; replace h:=h.2)
   |refine ⟨⟨h0,h1⟩,?_⟩
   |exact h.1
   |exact h.2.1
   |exact h.2.2.1
   |refine ⟨?_,?_⟩
   |(intro (hc:_=true); replace h:=h.1 hc)
   |(intro (hc:_=false); replace h:=h.2 hc)
   |(replace h:=h.2)
 ·rintro ⟨⟨i,s⟩,m⟩ hg h1 Q h
  have hz:m.1.2.2.1.length=m.2.1.2.2.1.length:=hg
  exact ⟨fun hn=>absurd (of_decide_eq_true hn) (qfs hz h1),fun _=>h⟩
def yf5 (Γ:Gm):St->Option Tr:=jo.han Γ jo.M (FL qby qa4 qhr qjo Rd.back qlr qo7)
def qj1 (y:jo.M.X):qgq ⊕ jo.R.X:=goL qby ((qa4 y).2.1.drop (qa4 y).1.toNat) (qa4 y).2.2
def zt3 (y:jo.M.X):Prop:=okL qby ((qa4 y).2.1.drop (qa4 y).1.toNat) (qa4 y).2.2
abbrev jz:Pt:=⟨127,4,⟨[(10,.d i64)],[.x 2 29 qj,.r 2 2 0,.x 3 29 qj,.r 3 3 0]⟩,⟨[],[]⟩,⟨[(4,.d .bool)],[]⟩⟩
def zez (x:jz.M.X):Fr jz.Out:=
 Fr.br (decide (x.1.1<((List.length x.2.1.2.2.2.1):Int))) (Fr.need (0<=x.1.1/\x.1.1<((List.length x.2.1.2.2.2.1):Int)) (Fr.need (0<=x.1.1/\x.1.1<((List.length x.2.2.1.2.2.2.1):Int)) (Fr.br (!((List.getD x.2.1.2.2.2.1 (Int.toNat x.1.1) qb.dflt).1==(List.getD x.2.2.1.2.2.2.1 (Int.toNat x.1.1) qb.dflt).1&&((List.getD x.2.1.2.2.2.1 (Int.toNat x.1.1) qb.dflt).2.1==(List.getD x.2.2.1.2.2.2.1 (Int.toNat x.1.1) qb.dflt).2.1&&((List.getD x.2.1.2.2.2.1 (Int.toNat x.1.1) qb.dflt).2.2.1.1==(List.getD x.2.2.1.2.2.2.1 (Int.toNat x.1.1) qb.dflt).2.2.1.1&&((List.getD x.2.1.2.2.2.1 (Int.toNat x.1.1) qb.dflt).2.2.1.2.1==(List.getD x.2.2.1.2.2.2.1 (Int.toNat x.1.1) qb.dflt).2.2.1.2.1&&true)&&((List.getD x.2.1.2.2.2.1 (Int.toNat x.1.1) qb.dflt).2.2.2.1==(List.getD x.2.2.1.2.2.2.1 (Int.toNat x.1.1) qb.dflt).2.2.2.1&&((List.getD x.2.1.2.2.2.1 (Int.toNat x.1.1) qb.dflt).2.2.2.2.1==(List.getD x.2.2.1.2.2.2.1 (Int.toNat x.1.1) qb.dflt).2.2.2.2.1&&((List.getD x.2.1.2.2.2.1 (Int.toNat x.1.1) qb.dflt).2.2.2.2.2.1==(List.getD x.2.2.1.2.2.2.1 (Int.toNat x.1.1) qb.dflt).2.2.2.2.2.1&&((List.getD x.2.1.2.2.2.1 (Int.toNat x.1.1) qb.dflt).2.2.2.2.2.2.1==(List.getD x.2.2.1.2.2.2.1 (Int.toNat x.1.1) qb.dflt).2.2.2.2.2.2.1&&((List.getD x.2.1.2.2.2.1 (Int.toNat x.1.1) qb.dflt).2.2.2.2.2.2.2.1==(List.getD x.2.2.1.2.2.2.1 (Int.toNat x.1.1) qb.dflt).2.2.2.2.2.2.2.1&&true))))))))) (Fr.val (Rd.back ((false,()),()))) (Fr.val (Rd.next ((IntKind.i64.wrap (x.1.1+1),()),x.2.1,x.2.2.1,())))))) (Fr.val (Rd.out ((),())))
theorem zu4:qf Tryz.prog (qo Tryz.f15 2) jz.M jz zez:=
 qf.of_run zcf (bs:=0) (Λ:=qq) rfl rfl rfl (fun E=>qe _ 0) (fun x=>by kernel_rfl)
abbrev qgr:Type:=qn []×jd [.x 2 29 qj,.r 2 2 0,.x 3 29 qj,.r 3 3 0]
def qbz (e:(qb.den×qb.den)) (s:qgr):Fr (qgr ⊕ jz.R.X):=
 Fr.br (!(e.1.1==e.2.1&&(e.1.2.1==e.2.2.1&&(e.1.2.2.1.1==e.2.2.2.1.1&&(e.1.2.2.1.2.1==e.2.2.2.1.2.1&&true)&&(e.1.2.2.2.1==e.2.2.2.2.1&&(e.1.2.2.2.2.1==e.2.2.2.2.2.1&&(e.1.2.2.2.2.2.1==e.2.2.2.2.2.2.1&&(e.1.2.2.2.2.2.2.1==e.2.2.2.2.2.2.2.1&&(e.1.2.2.2.2.2.2.2.1==e.2.2.2.2.2.2.2.2.1&&true))))))))) (Fr.val (.inr ((false,()),()))) (Fr.val (.inl ((),s.2.1,s.2.2.1,())))
def qa5 (x:jz.M.X):Int×List (qb.den×qb.den)×qgr:=(x.1.1,x.2.1.2.2.2.1.zip x.2.2.1.2.2.2.1,x.1.2,x.2)
def qhs (x:jz.M.X):Prop:=x.2.1.2.2.2.1.length=x.2.2.1.2.2.2.1.length
def qs8 (_s:qgr):jz.E.X:=((),())
def qur:qgr:=(dfP _,dfM _)
def qo8:jz.R.X:=(dfP _,dfM _)
theorem zod:qf Tryz.prog (.loop (qo Tryz.f15 2)) jz.M jz (FL qbz qa5 qhs qs8 Rd.back qur qo8):=by
 refine qf.list zu4 qbz qa5 qhs qs8 Rd.back qur qo8 ?_ ?_
 ·rintro ⟨⟨i,s⟩,m⟩ hg h0 h1 hb e he Q h
  have hz:m.1.2.2.2.1.length=m.2.1.2.2.2.1.length:=hg
  have h0:0<=i:=h0
  have h1:i<(m.1.2.2.2.1.length:Int):=qhw hz h1
  have hb:(m.1.2.2.2.1.length:Int)<=9223372036854775807:=qhv hz hb
  have h1z:i<(m.2.1.2.2.2.1.length:Int):=by rw [← hz]; exact h1
  have hd:m.1.2.2.2.1.getD i.toNat qb.dflt=e.1:=zp (qfr he)
  have hdz:m.2.1.2.2.2.1.getD i.toNat qb.dflt=e.2:=zp (qft he)
  have hw:=zu h0 h1 hb
  dsimp only [qa5,qbz,zez,Fr.satP] at h ⊢
  simp only [hd,hw,hdz] at h ⊢
  refine ⟨fun _=>?_,fun hn=>absurd h1 (of_decide_eq_false hn)⟩
  repeat' first
   |exact h
   |exact ⟨h0,h1⟩
   |exact fun _=>⟨h0,h1⟩
   |exact ⟨h0,h1z⟩
   |exact fun _=>⟨h0,h1z⟩
   |exact h _ rfl hz
   |(refine ⟨fun hc=>?_,fun hc=>?_⟩<;>first|replace h:=h.1 hc|replace h:=h.2 hc)
   |(refine ⟨h.1,?_⟩; replace h:=h.2)
   |refine ⟨⟨h0,h1⟩,?_⟩
   |exact h.1
   |exact h.2.1
   |exact h.2.2.1
   |refine ⟨?_,?_⟩
   |(intro (hc:_=true); replace h:=h.1 hc)
   |(intro (hc:_=false); replace h:=h.2 hc)
   |(replace h:=h.2)
 ·rintro ⟨⟨i,s⟩,m⟩ hg h1 Q h
  have hz:m.1.2.2.2.1.length=m.2.1.2.2.2.1.length:=hg
  exact ⟨fun hn=>absurd (of_decide_eq_true hn) (qfs hz h1),fun _=>h⟩
def yf6 (Γ:Gm):St->Option Tr:=jz.han Γ jz.M (FL qbz qa5 qhs qs8 Rd.back qur qo8)
def qtg (y:jz.M.X):qgr ⊕ jz.R.X:=goL qbz ((qa5 y).2.1.drop (qa5 y).1.toNat) (qa5 y).2.2
def zt4 (y:jz.M.X):Prop:=okL qbz ((qa5 y).2.1.drop (qa5 y).1.toNat) (qa5 y).2.2
theorem yqz {P:Program} {E:Env} {Λ:Nat->St->Option Tr} {fn:Func} {c b0 b1 b2:Code} (hc:fn.body=some c) (hn:(fn.body.map zq)=some 3) (hb0:fn.body.bind (Go.Ab.loopB · 0)=some b0) (hb1:fn.body.bind (Go.Ab.loopB · 1)=some b1) (hb2:fn.body.bind (Go.Ab.loopB · 2)=some b2)
  (h0:qfb P E b0 (Λ 0)) (h1:qfb P E b1 (Λ 1)) (h2:qfb P E b2 (Λ 2)):jw P E Λ c 0:=by
 rw [hc] at hn hb0 hb1 hb2
 simp only [Option.map_some,Option.some.injEq] at hn
 simp only [Option.bind_some] at hb0 hb1 hb2
 refine Go.Ab.lamAll c 0 fun i b' hb'=>?_
 have hlt:=Go.Ab.loopB_lt hb'
 have hi:i=0∨i=1∨i=2:=by omega
 rcases hi with rfl|rfl|rfl
 ·rw [hb0] at hb'
  cases hb'
  exact h0
 ·rw [hb1] at hb'
  cases hb'
  exact h1
 ·rw [hb2] at hb'
  cases hb'
  exact h2
theorem zzs {σ ρ:Type} {good ok:Prop} {g:σ ⊕ ρ} {v:ρ->Bool} {d:ρ} {s1:σ} {c:ρ} {b r:Bool} {K:Fr (qi [.bool])} (hg:good) (ho:ok) (h:g=if b=true then .inl s1 else .inr c) (hc:v c=false) (hK:b=true->K.ok/\K.get=(r,())) :
  (Fr.need good (Fr.need ok (Fr.br (isL g) K (Fr.val (v (jk d g),()))))).ok/\(Fr.need good (Fr.need ok (Fr.br (isL g) K (Fr.val (v (jk d g),()))))).get=(b&&r,()):=by
 cases b
 ·have h':g = .inr c:=h
  subst h'
  exact Fr.need_ hg (Fr.need_ ho (Fr.br_f rfl ⟨trivial,by show (v c,())=_; rw [hc]; rfl⟩))
 ·have h':g = .inl s1:=h
  subst h'
  exact Fr.need_ hg (Fr.need_ ho (Fr.br_t rfl (hK rfl)))
noncomputable def zqz:Cx:=cx [(37,ybh)] []
theorem qwi:CxOK Tryz.prog zqz:=zc (cs:=[(37,ybh)]) (ps:=[]) qv ⟨zza,trivial⟩ trivial
def yet (a b:qj.den):Bool:=bif bif bif bif !(zuw a.1 b.1) then true else qmr a != qmr b then true else ((List.length (α:=zf.den) (kr a):Nat):Int) != ((List.length (α:=zf.den) (kr b):Nat):Int) then true else ((List.length (α:=qt.den) (xb a):Nat):Int) != ((List.length (α:=qt.den) (xb b):Nat):Int) then true else ((List.length (α:=qb.den) (yw a):Nat):Int) != ((List.length (α:=qb.den) (yw b):Nat):Int)
def acS (e:zf.den×zf.den):Bool:=!(bif !(shF e.1.1 e.2.1) then true else e.1.2.1 != e.2.2.1)
def trS (e:qb.den×qb.den):Bool:=e.1.1==e.2.1&&(e.1.2.1==e.2.2.1&&(e.1.2.2.1.1==e.2.2.2.1.1&&(e.1.2.2.1.2.1==e.2.2.2.1.2.1&&true)&&(e.1.2.2.2.1==e.2.2.2.2.1&&(e.1.2.2.2.2.1==e.2.2.2.2.2.1&&(e.1.2.2.2.2.2.1==e.2.2.2.2.2.2.1&&(e.1.2.2.2.2.2.2.1==e.2.2.2.2.2.2.2.1&&(e.1.2.2.2.2.2.2.2.1==e.2.2.2.2.2.2.2.2.1&&true)))))))
abbrev zA (a b:qj.den):List (zf.den×zf.den):=List.zip (α:=zf.den) (β:=zf.den) (kr a) (kr b)
abbrev zF (a b:qj.den):List (qt.den×qt.den):=List.zip (α:=qt.den) (β:=qt.den) (xb a) (xb b)
abbrev zT (a b:qj.den):List (qb.den×qb.den):=List.zip (α:=qb.den) (β:=qb.den) (yw a) (yw b)
def yeu (a b:qj.den):Bool:=bif yet a b then false else (zA a b).all acS&&((zF a b).all (fun e=>qvw e.1 e.2)&&(zT a b).all trS)
def ym5:Ct:=⟨[.d qj,.d qj],[.bool],fun x=>(yeu x.1 x.2.1,()),fun _=>[]⟩
abbrev en0 (a b:qj.den):jy.M.X:=((0,()),a,b,())
abbrev o0 (a b:qj.den):jy.E.X:=qjn (qap qlq (qj0 (en0 a b)))
abbrev en1 (a b:qj.den):jo.M.X:=((0,()),(o0 a b).2.1,(o0 a b).2.2.1,())
abbrev o1 (a b:qj.den):jo.E.X:=qjo (qap qlr (qj1 (en1 a b)))
abbrev en2 (a b:qj.den):jz.M.X:=((0,()),(o1 a b).2.1,(o1 a b).2.2.1,())
def zaq (a b:qj.den):Fr (qi [.bool]):=
 Fr.br (yet a b) (Fr.val (false,())) (Fr.need (InL (qk9 (en0 a b)) (qb9 (en0 a b))) (Fr.need (zt2 (en0 a b)) (Fr.br (isL (qj0 (en0 a b)))
  (Fr.need (InL (qhr (en1 a b)) (qa4 (en1 a b))) (Fr.need (zt3 (en1 a b)) (Fr.br (isL (qj1 (en1 a b)))
   (Fr.need (InL (qhs (en2 a b)) (qa5 (en2 a b))) (Fr.need (zt4 (en2 a b)) (Fr.br (isL (qtg (en2 a b))) (Fr.val (true,())) (Fr.val ((jk qo8 (qtg (en2 a b))).1.1,())))))
   (Fr.val ((jk qo7 (qj1 (en1 a b))).1.1,())))))
  (Fr.val ((jk qo6 (qj0 (en0 a b))).1.1,())))))
theorem ykr:qa Tryz.prog 15 ⟨[.d qj,.d qj],[.bool],fun x=>(zaq x.1 x.2.1).get,fun x=>[(zaq x.1 x.2.1).ok]⟩:=
 qg qwi (Λ:=(fun k=>if k=0 then yf4 zqz.Γ else if k=1 then yf5 zqz.Γ else yf6 zqz.Γ)) (fn:=Tryz.f15) (fr:=fun x=>zaq x.1 x.2.1) (ps:=[.d qj,.d qj]) (rs:=[.bool]) (dfP [.d qj,.d qj]) (by kernel_rfl)
  (fun c E hc=>yqz hc (by kernel_rfl) (b0:=qo Tryz.f15 0) (b1:=qo Tryz.f15 1) (b2:=qo Tryz.f15 2) (by kernel_rfl) (by kernel_rfl) (by kernel_rfl) (qf.han qwi rfl zob) (qf.han qwi rfl zoc) (qf.han qwi rfl zod)) (fun x=>by kernel_rfl)
theorem zqg (a b:qj.den):qj0 (en0 a b)=if (zA a b).all acS=true then .inl ((),a,b,()) else .inr ((false,()),()):=by
 show goL qbx (List.drop 0 (zA a b)) ((),a,b,())=_
 rw [List.drop_zero,qc7 (step:=qbx) (I:=fun _=>True) (p:=acS) (c:=((false,()),())) (fun e s _=>?_) _ _ trivial]
 show (Fr.br (bif !(shF e.1.1 e.2.1) then true else e.1.2.1 != e.2.2.1) _ _).get=_
 unfold acS
 cases (bif !(shF e.1.1 e.2.1) then true else e.1.2.1 != e.2.2.1)<;>rfl
theorem zqh (a b:qj.den):qj1 ((0,()),a,b,())=if (zF a b).all (fun e=>qvw e.1 e.2)=true then .inl ((),a,b,()) else .inr ((false,()),()):=by
 show goL qby (List.drop 0 (zF a b)) ((),a,b,())=_
 rw [List.drop_zero,qc7 (step:=qby) (I:=fun _=>True) (p:=fun e=>qvw e.1 e.2) (c:=((false,()),())) (fun e s _=>?_) _ _ trivial]
 show (Fr.br (!(qvw e.1 e.2)) _ _).get=_
 cases qvw e.1 e.2<;>rfl
theorem ykp (a b:qj.den):qtg ((0,()),a,b,())=if (zT a b).all trS=true then .inl ((),a,b,()) else .inr ((false,()),()):=by
 show goL qbz (List.drop 0 (zT a b)) ((),a,b,())=_
 rw [List.drop_zero,qc7 (step:=qbz) (I:=fun _=>True) (p:=trS) (c:=((false,()),())) (fun e s _=>?_) _ _ trivial]
 show (Fr.br (!(trS e)) _ _).get=_
 cases trS e<;>rfl
theorem ye4 {w:World} {F:Nat->Prop} {s:qj.den} {v:Value} (h:zv w F qj s v):((List.length (α:=zf.den) (kr s):Nat):Int)<=9223372036854775807/\((List.length (α:=qt.den) (xb s):Nat):Int)<=9223372036854775807/\((List.length (α:=qb.den) (yw s):Nat):Int)<=9223372036854775807:=by
 have h0:=qs.wf h.2.2
 have h1:List.length (α:=zf.den) (kr s)<=maxLen:=h0.2.1.1
 have h2:List.length (α:=qt.den) (xb s)<=maxLen:=h0.2.2.1.1
 have h3:List.length (α:=qb.den) (yw s)<=maxLen:=h0.2.2.2.1.1
 unfold maxLen at h1 h2 h3
 exact ⟨by omega,by omega,by omega⟩
theorem yph:qa Tryz.prog 15 ym5:=conv ykr _ _ (fun w F x vs hr _=>by
 obtain ⟨a,b,_⟩:=x
 obtain ⟨v,vs',rfl,hv,_⟩:=hr
 obtain ⟨w1,w2,w3⟩:=ye4 hv
 show (zaq a b).ok/\(zaq a b).get=(yeu a b,())
 unfold yeu
 cases h:yet a b
 ·have hA':=orF h
  have hA:=orF hA'.1
  have hB:=orF hA.1
  refine Fr.br_f h (zzs (v:=fun r=>r.1.1) (s1:=((),a,b,())) (c:=((false,()),())) ⟨qpn hB.2,Int.le_refl _,Int.natCast_nonneg _,qp4 _ _ w1⟩ (qc8 (step:=qbx) _ (fun e _ s=>⟨fun _=>trivial,fun _=>trivial⟩) _) (zqg a b) rfl fun h0=>?_)
  have e0:o0 a b=((),a,b,()):=by
   show qjn (qap qlq (qj0 (en0 a b)))=_
   rw [zqg,if_pos h0]; rfl
  have e1:en1 a b=((0,()),a,b,()):=by show ((0,()),(o0 a b).2.1,(o0 a b).2.2.1,())=_; rw [e0]
  rw [e1]
  refine zzs (good:=InL (qhr ((0,()),a,b,())) (qa4 ((0,()),a,b,()))) (σ:=qgq) (ρ:=jo.R.X) (v:=fun r=>r.1.1) (s1:=((),a,b,())) (c:=((false,()),())) (by exact ⟨qpn hA.2,Int.le_refl _,Int.natCast_nonneg _,qp4 _ _ w2⟩) (qc8 (step:=qby) _ (fun e _ s=>⟨fun _=>trivial,fun _=>trivial⟩) _) (zqh a b) rfl fun h1=>?_
  have e2:o1 a b=((),a,b,()):=by
   show qjo (qap qlr (qj1 (en1 a b)))=_
   rw [e1,zqh,if_pos h1]; rfl
  have e3:en2 a b=((0,()),a,b,()):=by show ((0,()),(o1 a b).2.1,(o1 a b).2.2.1,())=_; rw [e2]
  rw [e3]
  exact qkx (good:=InL (qhs ((0,()),a,b,())) (qa5 ((0,()),a,b,()))) (σ:=qgr) (ρ:=jz.R.X) (v:=fun r=>r.1.1) (s1:=((),a,b,())) (c:=((false,()),())) (by exact ⟨qpn hA'.2,Int.le_refl _,Int.natCast_nonneg _,qp4 _ _ w3⟩) (qc8 (step:=qbz) _ (fun e _ s=>⟨fun _=>trivial,fun _=>trivial⟩) _) (ykp a b) rfl
 ·exact Fr.br_t h ⟨trivial,rfl⟩)
noncomputable def ygl:List (FuncId×Ct):=[(10,qlm),(16,zrk),(12,qn0),(17,qib),(23,ygg),(14,cDo),(15,ym5),(19,zv2)]
noncomputable def ymb:Cx:=cx ygl []
theorem zo0:CxOK Tryz.prog ymb:=zc (cs:=ygl) (ps:=[]) qv ⟨zra,yit,yb7,zyg,yk3,zha,yph,ycp,trivial⟩ trivial
theorem yj6 {j:jourT.den} {b:Int} (h:((List.length (α:=qk.den) j.2.1:Nat):Int)<=2000):ofJ j b=(qwy b j.2.1 (qmk j.1),0):=by
 unfold ofJ
 rw [show decide (((List.length (α:=qk.den) j.2.1:Nat):Int)>2000)=false from decide_eq_false (by omega)]
 rfl
def ym2 (ps:List PT):Ct:=⟨ps,[.bool],fun _=>(true,()),fun _=>[]⟩
noncomputable def ysf:Cx:=cx [(41,qj8),(42,qud),(43,cIn)] []
theorem yhm:CxOK Tryz.prog ysf:=zc (cs:=[(41,qj8),(42,qud),(43,cIn)]) (ps:=[]) qv ⟨zfh,ydz,qlv,trivial⟩ trivial
def qsm (x:qn [.d qb,.d lossT]):Fr (qi [.bool]):=
 Fr.need ((bif bif (qj8.f (x.1,())).1 then (qud.f (x.2.1,())).1 else false then (cIn.f (x.1.2.2.1,x.2.1.2.2.1,())).1 else false)=true->¬x.2.1.2.2.2.1<0) (Fr.val (bif bif bif (qj8.f (x.1,())).1 then (qud.f (x.2.1,())).1 else false then (cIn.f (x.1.2.2.1,x.2.1.2.2.1,())).1 else false then IntKind.i64.wrap ((BitVec.ofInt IntKind.i64.bits (Int.fdiv x.1.2.2.2.2.2.2.2.1 (2 ^ min (Int.toNat x.2.1.2.2.2.1) IntKind.i64.bits)) &&& BitVec.ofInt IntKind.i64.bits 1).toNat:Int)==1 else false,()))
theorem znx:qa Tryz.prog 18 ⟨[.d qb,.d lossT],[.bool],fun xs=>(qsm xs).get,fun xs=>[(qsm xs).ok]⟩:=
 qg yhm (Λ:=qq) (fn:=Tryz.f18) (dfP [.d qb,.d lossT]) (by kernel_rfl) (fun c E _=>qe c 0) (fun x=>by kernel_rfl)
def qou (t:qb.den) (l:lossT.den):Bool:=(qsm (t,l,())).get.1
def que:Ct:=⟨[.d qb,.d lossT],[.bool],fun x=>(qou x.1 x.2.1,()),fun _=>[]⟩
theorem qx4 {l:lossT.den} (h:qvo l=true):0<=l.2.2.2.1/\l.2.2.2.1<=7:=by
 unfold qvo qkd at h
 have e:∀ (b:Bool) (x y:Fr (qi [.bool])),(Fr.br b x y).get=bif b then x.get else y.get:=fun b x y=>by cases b<;>rfl
 simp only [e] at h
 have hv:∀ z:qi [.bool],(Fr.val z).get=z:=fun _=>rfl
 simp only [hv] at h
 cases h4:(vr.f ((0,7,()),[l.2.2.2.1],())).1
 ·cases h1:(vr.f ((1,1000000000,()),[l.1],())).1<;>cases h2:(vr.f ((0,1000000000,()),[l.2.1],())).1<;>cases h3:(vr.f ((1,292194,()),[l.2.2.1],())).1<;>simp only [h1,h2,h3,h4] at h<;>cases h
 ·have h5:qkg 0 7 [l.2.2.2.1]=true:=h4
  unfold qkg at h5
  simpa using h5
theorem qya {t:qb.den} {l:lossT.den} (h:(bif bif qab t then qvo l else false then (cIn.f (t.2.2.1,l.2.2.1,())).1 else false)=true):qab t=true/\qvo l=true/\(cIn.f (t.2.2.1,l.2.2.1,())).1=true:=by
 rw [qfv,qfv,Bool.and_eq_true,Bool.and_eq_true] at h
 exact ⟨h.1.1,h.1.2,h.2⟩
theorem yfd:qa Tryz.prog 18 que:=conv znx _ _ (fun _ _ x _ _ _=>by
 obtain ⟨t,l,_⟩:=x
 refine ⟨⟨fun h=>?_,trivial⟩,rfl⟩
 exact Int.not_lt.mpr (qx4 (qya h).2.1).1)
noncomputable def ysg:Cx:=cx [(18,que)] []
theorem yhn:CxOK Tryz.prog ysg:=zc (cs:=[(18,que)]) (ps:=[]) qv ⟨yfd,trivial⟩ trivial
abbrev qeq:Pt:=⟨54,0,⟨[(10,.d i64),(5,.d .bool),(9,.d i64)],[.x 3 66 lossT,.r 3 3 0,.x 7 29 qj,.r 7 7 0]⟩,⟨[(5,.d .bool),(9,.d i64)],[]⟩,⟨[],[]⟩⟩
def zxi (x:qeq.M.X):Fr qeq.Out:=
 Fr.br (decide (x.1.1<((List.length x.2.2.1.2.2.2.1):Int))) (Fr.need (0<=x.1.1/\x.1.1<((List.length x.2.2.1.2.2.2.1):Int)) (Fr.br (bif (List.getD x.2.2.1.2.2.2.1 (Int.toNat x.1.1) qb.dflt).2.1==1 then (que.f ((List.getD x.2.2.1.2.2.2.1 (Int.toNat x.1.1) qb.dflt),x.2.1,())).1 else false) (Fr.val (Rd.next ((IntKind.i64.wrap (x.1.1+1),x.1.2.1,IntKind.i64.wrap (x.1.2.2.1+(List.getD x.2.2.1.2.2.2.1 (Int.toNat x.1.1) qb.dflt).2.2.2.1),()),x.2.1,x.2.2.1,()))) (Fr.val (Rd.next ((IntKind.i64.wrap (x.1.1+1),x.1.2.1,x.1.2.2.1,()),x.2.1,x.2.2.1,()))))) (Fr.val (Rd.out (x.1.2,())))
theorem yky:qf Tryz.prog (qo Tryz.f4 0) qeq.M qeq zxi:=
 qf.of_run yhn (bs:=0) (Λ:=qq) rfl rfl rfl (fun E=>qe _ 0) (fun x=>by kernel_rfl)
abbrev qv2:Type:=qn [.d .bool,.d i64]×jd [.x 3 66 lossT,.r 3 3 0,.x 7 29 qj,.r 7 7 0]
def qat (e:qb.den) (s:qv2):Fr qv2:=
 Fr.br (bif e.2.1==1 then (que.f (e,s.2.1,())).1 else false) (Fr.val ((s.1.1,IntKind.i64.wrap (s.1.2.1+e.2.2.2.1),()),s.2.1,s.2.2.1,())) (Fr.val s)
def qgs (x:qeq.M.X):Int×List qb.den×qv2:=(x.1.1,x.2.2.1.2.2.2.1,x.1.2,x.2)
def qsq (_x:qeq.M.X):Prop:=True
def qrn (s:qv2):qeq.E.X:=(s.1,())
theorem ydl:qf Tryz.prog (.loop (qo Tryz.f4 0)) qeq.M qeq (FF qat qgs qsq qrn):=by
 refine qf.fold yky qat qgs qsq qrn ?_ ?_
 ·rintro ⟨⟨i,s⟩,m⟩ hg h0 h1 hb e he Q h
  have h0:0<=i:=h0
  have h1:i<(m.2.1.2.2.2.1.length:Int):=h1
  have hb:(m.2.1.2.2.2.1.length:Int)<=9223372036854775807:=hb
  have hd:m.2.1.2.2.2.1.getD i.toNat qb.dflt=e:=zp he
  have hw:=zu h0 h1 hb
  dsimp only [qgs,qat,zxi,Fr.satP] at h ⊢
  simp only [hd,hw] at h ⊢
  refine ⟨fun _=>?_,fun hn=>absurd h1 (of_decide_eq_false hn)⟩
  repeat' first
   |exact h
   |exact ⟨h0,h1⟩
   |exact fun _=>⟨h0,h1⟩
   |exact h _ rfl trivial
   |(refine ⟨fun hc=>?_,fun hc=>?_⟩<;>first|replace h:=h.1 hc|replace h:=h.2 hc)
   |(refine ⟨h.1,?_⟩; replace h:=h.2)
   |refine ⟨⟨h0,h1⟩,?_⟩
   |exact h.1
   |exact h.2.1
   |exact h.2.2.1
   |refine ⟨?_,?_⟩
   |(intro (hc:_=true); replace h:=h.1 hc)
   |(intro (hc:_=false); replace h:=h.2 hc)
   |(replace h:=h.2)
 ·rintro ⟨⟨i,s⟩,m⟩ hg h1 Q h
  exact ⟨fun hn=>absurd (of_decide_eq_true hn) h1,fun _=>h⟩
def yrx (Γ:Gm):St->Option Tr:=qeq.han Γ qeq.M (FF qat qgs qsq qrn)
def zqi (y:qeq.M.X):qv2:=goF qat ((qgs y).2.1.drop (qgs y).1.toNat) (qgs y).2.2
def yj9 (y:qeq.M.X):Prop:=okF qat ((qgs y).2.1.drop (qgs y).1.toNat) (qgs y).2.2
theorem zo8 {a p:Int} (ha:0<=a/\a<=255) (hp:0<=p/\p<=7) :
  IntKind.i64.wrap ((BitVec.ofInt IntKind.i64.bits (Int.fdiv a (2 ^ min (Int.toNat p) IntKind.i64.bits)) &&& BitVec.ofInt IntKind.i64.bits 1).toNat:Int)=if a.toNat.testBit p.toNat then 1 else 0:=by
 have key:∀ n:Fin 256,∀ k:Fin 8,IntKind.i64.wrap ((BitVec.ofInt IntKind.i64.bits (Int.fdiv ((n.1:Nat):Int) (2 ^ min (Int.toNat ((k.1:Nat):Int)) IntKind.i64.bits)) &&& BitVec.ofInt IntKind.i64.bits 1).toNat:Int)=if n.1.testBit k.1 then 1 else 0:=by decide +kernel
 have h:=key ⟨a.toNat,by omega⟩ ⟨p.toNat,by omega⟩
 have e1:((a.toNat:Nat):Int)=a:=by omega
 have e2:((p.toNat:Nat):Int)=p:=by omega
 simp only [e1,e2] at h
 exact h
theorem yhw {a b:Int} (ha:0<=a/\a<=255) (hb:0<=b/\b<=255) :
  IntKind.i64.wrap ((BitVec.ofInt IntKind.i64.bits a &&& BitVec.ofInt IntKind.i64.bits b).toNat:Int)=((a.toNat &&& b.toNat:Nat):Int):=by
 have h1:∀ n:Fin 256,(BitVec.ofInt IntKind.i64.bits ((n.1:Nat):Int)).toNat=n.1:=by decide +kernel
 have ea:=h1 ⟨a.toNat,by omega⟩
 have eb:=h1 ⟨b.toNat,by omega⟩
 have e1:((a.toNat:Nat):Int)=a:=by omega
 have e2:((b.toNat:Nat):Int)=b:=by omega
 simp only [e1,e2] at ea eb
 rw [BitVec.toNat_and,ea,eb]
 have:a.toNat &&& b.toNat<=a.toNat:=Nat.and_le_left
 exact IntWalk.i64_in _ (by omega)
def qec (t:qb.den) (d p:Int):Bool:=(t.2.1==1&&inB t.2.2.1.1 t.2.2.1.2.1 d)&&t.2.2.2.2.2.2.2.1.toNat.testBit p.toNat
abbrev per (t:qb.den):Int:=t.2.2.2.2.2.2.2.1
abbrev bpQ (t:qb.den):Int:=t.2.2.2.1
theorem zif (b:Bool) {α:Type} (x y:Fr α):(Fr.br b x y).get=bif b then x.get else y.get:=by cases b<;>rfl
theorem qxj {α:Type} (z:α):(Fr.val z).get=z:=rfl
theorem zll {α:Type} (p:Prop) (x:Fr α):(Fr.need p x).get=x.get:=rfl
theorem qkr {t:qb.den} {d p:Int} (ha:0<=per t/\per t<=255) (hp:0<=p/\p<=7):jc t d p=if qec t d p=true then bpQ t else 0:=by
 unfold jc qww
 simp only [zif,zll,qxj]
 have hb:=zo8 ha hp
 have hin:(cIn.f ((t.2.2.1.1,t.2.2.1.2.1,()),d,())).1=inB t.2.2.1.1 t.2.2.1.2.1 d:=rfl
 show (bif bif bif t.2.1 != 1 then true else !(inB t.2.2.1.1 t.2.2.1.2.1 d) then true else IntKind.i64.wrap ((BitVec.ofInt IntKind.i64.bits (Int.fdiv (per t) (2 ^ min (Int.toNat p) IntKind.i64.bits)) &&& BitVec.ofInt IntKind.i64.bits 1).toNat:Int)==0 then ((0:Int),()) else (bpQ t,())).1=_
 rw [hb]
 unfold qec
 by_cases h1:t.2.1=1
 ·cases h2:inB t.2.2.1.1 t.2.2.1.2.1 d
  ·simp [h1]
  ·cases h3:(per t).toNat.testBit p.toNat<;>simp [h1]
 ·have h1':(t.2.1==1)=false:=by simpa using h1
  have h1'':(t.2.1 != 1)=true:=by simpa using h1
  rw [h1',h1'']
  rfl
theorem qgn {t:qb.den} (h:qab t=true):1<=per t/\per t<=255:=by
 have hz:qkg 1 255 [per t]=true:=by
  cases hc:qkg 1 255 [per t]
  ·unfold qab qge at h
   simp only [zif,qxj] at h
   have hc':(vr.f ((1,255,()),[t.2.2.2.2.2.2.2.1],())).1=false:=hc
   simp only [hc'] at h
   cases h1:(vr.f ((1,1000000000,()),[t.1],())).1<;>simp only [h1] at h
   ·cases h
   ·cases h2:((qi9.f (t.2.2.1,())).1==0)<;>simp only [h2] at h<;>cases h
  ·rfl
 unfold qkg at hz
 simpa using hz
theorem qth {t:qb.den} (h:qab t=true) (hk:t.2.1=1):1<=bpQ t/\bpQ t<=10000:=by
 have hz:qkg 1 10000 [bpQ t]=true:=by
  cases hc:qkg 1 10000 [bpQ t]
  ·unfold qab qge at h
   simp only [zif,qxj] at h
   have hc':(vr.f ((1,10000,()),[t.2.2.2.1],())).1=false:=hc
   have hk':(t.2.1==1)=true:=by simp [hk]
   simp only [hc',hk'] at h
   cases h1:(vr.f ((1,1000000000,()),[t.1],())).1<;>simp only [h1] at h
   ·cases h
   ·cases h2:((qi9.f (t.2.2.1,())).1==0)<;>simp only [h2] at h
    ·cases h3:(vr.f ((1,255,()),[t.2.2.2.2.2.2.2.1],())).1<;>simp only [h3] at h<;>cases h
    ·cases h
  ·rfl
 unfold qkg at hz
 simpa using hz
theorem zp8 {t:qb.den} (h:qab t=true) {d p:Int} (hp:0<=p/\p<=7):0<=jc t d p/\jc t d p<=10000:=by
 have h1:=qgn h
 rw [qkr ⟨by omega,h1.2⟩ hp]
 split
 ·rename_i ha
  have hk:t.2.1=1:=by
   unfold qec at ha
   rw [Bool.and_eq_true,Bool.and_eq_true] at ha
   exact eq_of_beq ha.1.1
  have:=qth h hk
  omega
 ·omega
def xc (g:qb.den->Int):List qb.den->Int
 |[]=>0
 |t::l=>g t+xc g l
theorem qpy (g:qb.den->Int) (t:qb.den) (l:List qb.den):xc g (t::l)=g t+xc g l:=rfl
theorem qt9 (l:List qb.den) (t:qb.den):qfu l t=t::l.map (qfy t):=rfl
theorem yk6 (g:qb.den->Int) (t:qb.den) (l:List qb.den):xc g (qfu l t)=g t+xc (fun y=>g (qfy t y)) l:=by
 rw [qt9,qpy]
 congr 1
 induction l with
 |nil=>rfl
 |cons a r ih=>rw [List.map_cons,qpy,qpy,ih]
theorem ypz {A B C C' S:Int} (h1:A=0+B) (h2:B=C+S) (h3:C=C'):A=C'+S:=by omega
theorem qlh (g:qb.den->Int):(a b:List qb.den)->xc g (a++b)=xc g a+xc g b
 |[],b=>by show xc g b=0+_; omega
 |t::a,b=>by
  show g t+xc g (a++b)=g t+xc g a+xc g b
  rw [qlh g a b]; omega
theorem zu7 (g:qb.den->Int) (k:qb.den->Int) (l:List qb.den) (t:qb.den):xc g (qbe k l t)=g t+xc g l:=by
 show xc g (qkk _ l [t])=_
 generalize (if plI k l t<0 then (l.length:Int) else plI k l t)=i
 unfold qkk
 rw [qlh,qlh]
 have h:xc g l=xc g (l.take i.toNat)+xc g (l.drop i.toNat):=by rw [← qlh,List.take_append_drop]
 rw [h]
 show _+(g t+0)+_=_
 omega
theorem zqo {g k:qb.den->Int}:(l:List qb.den)->(∀ t∈l,g t<=k t)->xc g l<=xc k l
 |[],_=>Int.le_refl _
 |t::l,h=>by
  have h1:=h t List.mem_cons_self
  have h2:=zqo l (fun x hx=>h x (List.mem_cons_of_mem _ hx))
  show g t+xc g l<=k t+xc k l
  omega
theorem zqn {d p:Int}:(l:List qb.den)->(s:Int)->(∀ t∈l,0<=jc t d p/\jc t d p<=10000)->0<=s->s+10000*(l.length:Int)<=1000000000->qto d p l s=s+xc (fun t=>jc t d p) l
 |[],s,_,_,_=>by show s=s+0; omega
 |t::l,s,h,h0,h1=>by
  have hp:=h t List.mem_cons_self
  rw [List.length_cons] at h1
  have hw:IntKind.i64.wrap (s+jc t d p)=s+jc t d p:=IntWalk.i64_in _ (by omega)
  show qto d p l (IntKind.i64.wrap (s+jc t d p))=s+(jc t d p+xc _ l)
  rw [hw,zqn l (s+jc t d p) (fun x hx=>h x (List.mem_cons_of_mem _ hx)) (by omega) (by omega)]
  omega
theorem ze7 (P:qb.den->Prop) [DecidablePred P]:(l:List qb.den)->(∃ t∈l,P t)->∃ x∈l,P x/\∀ y∈l,P y->y.2.2.1.1<=x.2.2.1.1
 |[],h=>by obtain ⟨t,ht,_⟩:=h; cases ht
 |a::l,h=>by
  by_cases hl:∃ t∈l,P t
  ·obtain ⟨x,hx,hpx,hmax⟩:=ze7 P l hl
   by_cases ha:P a/\x.2.2.1.1<a.2.2.1.1
   ·refine ⟨a,List.mem_cons_self,ha.1,fun y hy hpy=>?_⟩
    rcases List.mem_cons.1 hy with rfl|hy
    ·exact Int.le_refl _
    ·have:=hmax y hy hpy; exact Int.le_trans this (Int.le_of_lt ha.2)
   ·refine ⟨x,List.mem_cons_of_mem _ hx,hpx,fun y hy hpy=>?_⟩
    rcases List.mem_cons.1 hy with rfl|hy
    ·exact Int.not_lt.1 fun hlt=>ha ⟨hpy,hlt⟩
    ·exact hmax y hy hpy
  ·obtain ⟨t,ht,hpt⟩:=h
   rcases List.mem_cons.1 ht with rfl|ht
   ·refine ⟨t,List.mem_cons_self,hpt,fun y hy hpy=>?_⟩
    rcases List.mem_cons.1 hy with rfl|hy
    ·exact Int.le_refl _
    ·exact absurd ⟨y,hy,hpy⟩ hl
   ·exact absurd ⟨t,ht,hpt⟩ hl
theorem ybp {l:List qb.den} {day p:Int} (hp:0<=p/\p<=7) (h:qto day p l 0>10000):qlp l day=true:=by
 have hd:=decide_eq_true h
 have h8:p=0∨p=1∨p=2∨p=3∨p=4∨p=5∨p=6∨p=7:=by omega
 unfold qlp
 rcases h8 with rfl|rfl|rfl|rfl|rfl|rfl|rfl|rfl<;>simp only [qn4,Int.reduceAdd,hd,Bool.true_or,Bool.or_true]
theorem zqf {t x:qb.den} (ht:1<=per t/\per t<=255) (hx:1<=per x/\per x<=255):per (qfy t x)=(((per x).toNat &&& (per t).toNat:Nat):Int)/\0<=per (qfy t x)/\per (qfy t x)<=255:=by
 have h:per (qfy t x)=(((per x).toNat &&& (per t).toNat:Nat):Int):=yhw ⟨Int.le_trans (by decide) hx.1,hx.2⟩ ⟨Int.le_trans (by decide) ht.1,ht.2⟩
 have h2:(per x).toNat &&& (per t).toNat<=(per x).toNat:=Nat.and_le_left
 rw [h]
 exact ⟨rfl,by omega,by omega⟩
theorem yko {t x:qb.den} {d p:Int} (ht:1<=per t/\per t<=255) (hx:1<=per x/\per x<=255) (h1:qec x d p=true) (h2:(per t).toNat.testBit p.toNat=true):qec (qfy t x) d p=true:=by
 unfold qec at h1 ⊢
 rw [Bool.and_eq_true] at h1 ⊢
 refine ⟨h1.1,?_⟩
 show (per (qfy t x)).toNat.testBit p.toNat=true
 rw [(zqf ht hx).1]
 show (((per x).toNat &&& (per t).toNat)).testBit p.toNat=true
 rw [Nat.testBit_and,h2,Bool.and_true]
 exact h1.2
theorem yc0 {a b d:Int}:inB a b d=true↔1<=a/\b<=292195/\a<=d/\d<b:=by unfold inB; exact decide_eq_true_iff
set_option maxRecDepth 100000 in
theorem ydv {l:List qb.den} {t:qb.den} (hl:∀ x∈l,qab x=true) (ht:qab t=true) (hn:l.length<=1000) (ho:qlb l t=false) {d p:Int} (hp:0<=p/\p<=7) (hs:xc (fun x=>jc x d p) l<=10000) :
  jc t d p+xc (fun x=>jc x d p) l<=10000:=by
 have htp:=qgn ht
 by_cases ha:qec t d p=true
 ·refine Int.not_lt.1 fun hbig=>?_
  have hall:∀ x∈t::l,qab x=true:=fun x hx=>by
   rcases List.mem_cons.1 hx with rfl|hx
   ·exact ht
   ·exact hl x hx
  obtain ⟨x,hx,hax,hmax⟩:=ze7 (fun y=>qec y d p=true) (t::l) ⟨t,List.mem_cons_self,ha⟩
  have hxd:x.2.2.1.1<=d:=by
   unfold qec at hax
   rw [Bool.and_eq_true,Bool.and_eq_true] at hax
   exact (yc0.1 hax.1.2).2.2.1
  have hat:∀ y∈t::l,qec y d p=true->qec y x.2.2.1.1 p=true:=fun y hy hay=>by
   have hm:=hmax y hy hay
   unfold qec at hay ⊢
   rw [Bool.and_eq_true,Bool.and_eq_true] at hay ⊢
   have hb:=yc0.1 hay.1.2
   exact ⟨⟨hay.1.1,yc0.2 ⟨hb.1,hb.2.1,hm,Int.lt_of_le_of_lt hxd hb.2.2.2⟩⟩,hay.2⟩
  have htb:(per t).toNat.testBit p.toNat=true:=by
   unfold qec at ha
   rw [Bool.and_eq_true] at ha
   exact ha.2
  have hpr:∀ y∈t::l,0<=per y/\per y<=255:=fun y hy=>⟨Int.le_trans (by decide) (qgn (hall y hy)).1,(qgn (hall y hy)).2⟩
  have hrel:∀ y∈l,0<=jc (qfy t y) x.2.2.1.1 p/\jc (qfy t y) x.2.2.1.1 p<=10000/\jc y d p<=jc (qfy t y) x.2.2.1.1 p:=fun y hy=>by
   have hry:=qgn (hl y hy)
   rw [qkr (zqf htp hry).2 hp,qkr (hpr y (List.mem_cons_of_mem _ hy)) hp]
   by_cases hay:qec y d p=true
   ·have h2:=yko htp hry (hat y (List.mem_cons_of_mem _ hy) hay) htb
    have hk:y.2.1=1:=by
     unfold qec at hay
     rw [Bool.and_eq_true,Bool.and_eq_true] at hay
     exact eq_of_beq hay.1.1
    have h3:=qth (hl y hy) hk
    rw [if_pos h2,if_pos hay]
    exact ⟨Int.le_trans (by decide) h3.1,h3.2,Int.le_refl _⟩
   ·rw [if_neg hay]
    split
    ·rename_i h2
     have hk:y.2.1=1:=by
      unfold qec at h2
      rw [Bool.and_eq_true,Bool.and_eq_true] at h2
      exact eq_of_beq h2.1.1
     have h3:=qth (hl y hy) hk
     exact ⟨Int.le_trans (by decide) h3.1,h3.2,Int.le_trans (by decide) h3.1⟩
    ·exact ⟨Int.le_refl _,by decide,Int.le_refl _⟩
  have htt:jc t x.2.2.1.1 p=jc t d p:=by
   rw [qkr (hpr t List.mem_cons_self) hp,qkr (hpr t List.mem_cons_self) hp,if_pos ha,if_pos (hat t List.mem_cons_self ha)]
  have ht2:=zp8 ht (d:=x.2.2.1.1) hp
  have hsum:qto x.2.2.1.1 p (qfu l t) 0=jc t d p+xc (fun y=>jc (qfy t y) x.2.2.1.1 p) l:=by
   have hparts:∀ y∈qfu l t,0<=jc y x.2.2.1.1 p/\jc y x.2.2.1.1 p<=10000:=fun y hy=>by
    rw [qt9] at hy
    rcases List.mem_cons.1 hy with rfl|hy
    ·exact ht2
    ·obtain ⟨z,hz,rfl⟩:=List.mem_map.1 hy
     exact ⟨(hrel z hz).1,(hrel z hz).2.1⟩
   have hlen:(0:Int)+10000*((qfu l t).length:Int)<=1000000000:=by
    rw [qt9,List.length_cons,List.length_map]; omega
   have h1:qto x.2.2.1.1 p (qfu l t) 0=0+xc (fun y=>jc y x.2.2.1.1 p) (qfu l t):=zqn (qfu l t) 0 hparts (Int.le_refl _) hlen
   exact ypz h1 (yk6 (fun y=>jc y x.2.2.1.1 p) t l) htt
  have hle:xc (fun y=>jc y d p) l<=xc (fun y=>jc (qfy t y) x.2.2.1.1 p) l:=zqo l fun y hy=>(hrel y hy).2.2
  have hcr:qlp (qfu l t) x.2.2.1.1=true:=ybp hp (by rw [hsum]; omega)
  have hk:t.2.1=1:=by
   have ha':=ha
   unfold qec at ha'
   rw [Bool.and_eq_true,Bool.and_eq_true] at ha'
   exact eq_of_beq ha'.1.1
  have hin:inB t.2.2.1.1 t.2.2.1.2.1 x.2.2.1.1=true:=by
   have h2:=hat t List.mem_cons_self ha
   unfold qec at h2
   rw [Bool.and_eq_true,Bool.and_eq_true] at h2
   exact h2.1.2
  have hov:∃ z∈qfu l t,qs9 z t (qfu l t)=true:=by
   have key:∀ z:qb.den,z.2.2.1.1=x.2.2.1.1->qs9 z t (qfu l t)=true:=fun z hz=>by
    unfold qs9
    rw [hz]
    show (bif inB t.2.2.1.1 t.2.2.1.2.1 x.2.2.1.1 then qlp (qfu l t) x.2.2.1.1 else false)=true
    rw [hin,hcr]
    rfl
   rcases List.mem_cons.1 hx with rfl|hx
   ·exact ⟨x,List.mem_cons_self,key x rfl⟩
   ·exact ⟨qfy t x,List.mem_cons_of_mem _ (List.mem_map_of_mem hx),key _ rfl⟩
  unfold qlb at ho
  rw [show (t.2.1 != 1)=false by simp [hk]] at ho
  have ho:(qfu l t).any (fun z=>qs9 z t (qfu l t))=false:=ho
  obtain ⟨z,hz,hzt⟩:=hov
  rw [List.any_eq_false] at ho
  exact ho z hz hzt
 ·rw [qkr ⟨Int.le_trans (by decide) htp.1,htp.2⟩ hp,if_neg ha]; omega
def qpb (x:qn [.d jourT,.d lossT]):Fr (qi [.bool]):=
 Fr.br (!(zrk.f (x.1,40,())).1) (Fr.val ((qlm.f ()).1,())) (Fr.need (wn (x.1.1.1,())) (Fr.br ((qib.f (x.1,292194,())).2.1 != 0) (Fr.val (false,())) (Fr.need (InL (qsq ((0,(qlm.f ()).1,0,()),x.2.1,(qib.f (x.1,292194,())).1,())) (qgs ((0,(qlm.f ()).1,0,()),x.2.1,(qib.f (x.1,292194,())).1,()))) (Fr.need (yj9 ((0,(qlm.f ()).1,0,()),x.2.1,(qib.f (x.1,292194,())).1,())) (Fr.val (bif (qrn (zqi ((0,(qlm.f ()).1,0,()),x.2.1,(qib.f (x.1,292194,())).1,()))).1.1 then decide ((qrn (zqi ((0,(qlm.f ()).1,0,()),x.2.1,(qib.f (x.1,292194,())).1,()))).1.2.1<=10000) else false,()))))))
theorem zjz:qa Tryz.prog 4 ⟨[.d jourT,.d lossT],[.bool],fun xs=>(qpb xs).get,fun xs=>[(qpb xs).ok]⟩:=
 qg zo0 (Λ:=(fun _=>yrx ymb.Γ)) (fn:=Tryz.f4) (dfP [.d jourT,.d lossT]) (by kernel_rfl) (fun c E hc=>jb hc (by kernel_rfl) (b:=qo Tryz.f4 0) (by kernel_rfl) (qf.han zo0 rfl ydl)) (fun x=>by kernel_rfl)
structure QI (s:qj.den):Prop where
 right:∀ t∈yw s,qab t=true
 len:(yw s).length<=100
 sum:∀ d p,0<=p/\p<=7->xc (fun t=>jc t d p) (yw s)<=10000
theorem qnr {s s':qj.den} (h:QI s) (e:yw s'=yw s):QI s':=⟨by rw [e]; exact h.right,by rw [e]; exact h.len,by rw [e]; exact h.sum⟩
theorem ypc (t:ze.den):QI (qmk t):=⟨fun t ht=>(by cases ht),Nat.zero_le _,fun _ _ _=>by show (0:Int)<=10000; decide⟩
theorem zyu {s:qj.den} {f:qk.den} (h:QI s) (hr:qab (jh f)=true):QI (qcg s f).1:=by
 unfold qcg
 cases h1:zb7 s (jh f)
 ·cases h2:decide (((List.length (yw s):Nat):Int)≥100)
  ·cases h3:qlb (yw s) (jh f)
   ·have hlen:(yw s).length<100:=by have:=of_decide_eq_false h2; omega
    refine ⟨fun t ht=>?_,?_,fun d p hp=>?_⟩
    ·rcases zbh ht with ht|rfl
     ·exact h.right t ht
     ·exact hr
    ·show (qbe (fun t=>t.1) (yw s) (jh f)).length<=100
     rw [qmp]; omega
    ·show xc (fun t=>jc t d p) (qbe (fun t=>t.1) (yw s) (jh f))<=10000
     rw [zu7]
     exact ydv h.right hr (by omega) h3 hp (h.sum d p hp)
   ·exact h
  ·exact h
 ·exact h
theorem zgd {f:qk.den} (h:vg f=true) (hk:za f=6):qab (jh f)=true:=by
 unfold vg at h
 rw [Bool.and_eq_true,Bool.and_eq_true,Bool.and_eq_true] at h
 have hb:=h.2.2
 rw [Bool.and_eq_true] at hb
 have hb2:=hb.2
 unfold zre at hb2
 rw [hk] at hb2
 exact hb2
theorem yfi (s:qj.den) (f:qk.den):yw (qff s f).1=yw s:=by
 unfold qff
 cases decide (aI s f≥0)
 ·cases decide (((List.length (kr s):Nat):Int)≥2000)<;>rfl
 ·rfl
theorem zzy (s:qj.den) (f:qk.den):yw (qdn s f).1=yw s:=by
 unfold qdn
 cases decide (aI s f<0)
 ·cases (xb s).any (qye f)<;>rfl
 ·rfl
theorem yfk (s:qj.den) (f:qk.den):yw (qfh s f).1=yw s:=by
 unfold qfh
 cases decide (aI s f<0)
 ·cases decide (qif f>IntKind.i64.wrap (4000000000000000000-(qe1 s (aI s f)).2.1))<;>rfl
 ·rfl
theorem yfj (s:qj.den) (f:qk.den):yw (qfg s f).1=yw s:=by
 unfold qfg
 cases decide (qe5 s (qao f).1≥0)
 ·cases decide (((List.length (xb s):Nat):Int)≥2000)
  ·cases !(lA s f).2<;>rfl
  ·rfl
 ·rfl
theorem yld (s:qj.den) (f:qk.den):yw (qh0 s f).1=yw s:=by
 unfold qh0
 cases decide (gI s f<0)<;>rfl
theorem zzz (s:qj.den) (f:qk.den):yw (qdo s f).1=yw s:=by
 unfold qdo
 cases decide (qfw f<=qmr s)<;>rfl
theorem yrk {s:qj.den} {f:qk.den} (h:QI s) (hf:vg f=true):QI (doF s f).1:=by
 have hk:=qxy hf
 have e:∀ k,za f=k->(doF s f).1=(bif k==1 then (qff s f).1 else bif k==2 then (qdn s f).1 else bif k==3 then (qfh s f).1 else bif k==4 then (qfg s f).1 else bif k==5 then (qh0 s f).1 else bif k==6 then (qcg s f).1 else (qdo s f).1):=fun k hk=>by
  show (doY s f).1=_
  unfold doY
  rw [hk]
  cases k==1
  ·cases k==2
   ·cases k==3
    ·cases k==4
     ·cases k==5
      ·cases k==6<;>rfl
      ·rfl
     ·rfl
    ·rfl
   ·rfl
  ·rfl
 rcases qxd hk with k|k|k|k|k|k|k<;>rw [e _ k]
 ·exact qnr h (yfi s f)
 ·exact qnr h (zzy s f)
 ·exact qnr h (yfk s f)
 ·exact qnr h (yfj s f)
 ·exact qnr h (yld s f)
 ·exact zyu h (zgd hf k)
 ·exact qnr h (zzz s f)
theorem ykk {b:Int} {s:qj.den} (f:qk.den) (h:QI s):QI (qp0 b s f):=by
 unfold qp0
 cases decide (zt f>b)
 ·show QI (qw6 s f)
  unfold qw6
  cases h1:(qbc s f).2==0
  ·exact h
  ·obtain ⟨h2,_,h4⟩:=zqm (eq_of_beq h1)
   show QI (qbc s f).1
   rw [h4]
   exact yrk h (zfa h2).1
 ·exact h
theorem zqd {b:Int}:(l:List qk.den) -> {s:qj.den}->QI s->QI (qwy b l s)
 |[],_,h=>h
 |f::l,_,h=>zqd l (ykk f h)
def qjz (l:lossT.den) (s:Int) (t:qb.den):Int:=bif bif t.2.1==1 then qou t l else false then IntKind.i64.wrap (s+t.2.2.2.1) else s
theorem yd0 (e:qb.den) (b:Bool) (l:lossT.den) (q:qj.den) (n:Int):(qat e ((b,n,()),l,q,())).ok/\(qat e ((b,n,()),l,q,())).get=((b,qjz l n e,()),l,q,()):=by
 unfold qjz
 cases h:(bif e.2.1==1 then qou e l else false)
 ·exact Fr.br_f (by first|rfl|exact h) ⟨trivial,rfl⟩
 ·exact Fr.br_t (by first|rfl|exact h) ⟨trivial,rfl⟩
theorem zyv (b:Bool) (l:lossT.den) (q:qj.den):(ts:List qb.den)->(n:Int)->okF qat ts ((b,n,()),l,q,())/\goF qat ts ((b,n,()),l,q,())=((b,ts.foldl (qjz l) n,()),l,q,())
 |[],_=>⟨trivial,rfl⟩
 |e::ts,n=>by
  have h1:=yd0 e b l q n
  have h2:=zyv b l q ts (qjz l n e)
  refine ⟨⟨h1.1,?_⟩,?_⟩
  ·rw [h1.2]; exact h2.1
  ·show goF qat ts (qat e ((b,n,()),l,q,())).get=_
   rw [h1.2]; exact h2.2
theorem zf0 {t:qb.den} {l:lossT.den} (hk:t.2.1=1) (h:qou t l=true):qab t=true/\(0<=l.2.2.2.1/\l.2.2.2.1<=7)/\qec t l.2.2.1 l.2.2.2.1=true:=by
 unfold qou qsm at h
 rw [zll,qxj,qfv,Bool.and_eq_true] at h
 obtain ⟨h1,h2,h3⟩:=qya h.1
 have hp:=qx4 h2
 have hr:=qgn h1
 refine ⟨h1,hp,?_⟩
 have h4:=h.2
 rw [zo8 (a:=t.2.2.2.2.2.2.2.1) ⟨Int.le_trans (by decide) hr.1,hr.2⟩ hp] at h4
 unfold qec
 rw [Bool.and_eq_true,Bool.and_eq_true]
 refine ⟨⟨by rw [hk]; rfl,h3⟩,?_⟩
 cases hb:t.2.2.2.2.2.2.2.1.toNat.testBit l.2.2.2.1.toNat
 ·rw [hb] at h4; exact absurd h4 (by decide)
 ·rfl
theorem zyw (l:lossT.den) (hp:0<=l.2.2.2.1/\l.2.2.2.1<=7):(ts:List qb.den)->(n:Int)->(∀ t∈ts,qab t=true)->0<=n->n+10000*(ts.length:Int)<=1000000000->ts.foldl (qjz l) n<=n+xc (fun t=>jc t l.2.2.1 l.2.2.2.1) ts
 |[],n,_,_,_=>by show n<=n+0; omega
 |t::ts,n,hr,h0,hb=>by
  have ht:=hr t List.mem_cons_self
  have hpi:=zp8 ht (d:=l.2.2.1) hp
  rw [List.length_cons] at hb
  rw [List.foldl_cons,qpy]
  have hq:qjz l n t<=n+jc t l.2.2.1 l.2.2.2.1/\0<=qjz l n t:=by
   unfold qjz
   cases hc:(bif t.2.1==1 then qou t l else false)
   ·exact ⟨Int.le_add_of_nonneg_right hpi.1,h0⟩
   ·rw [qfv,Bool.and_eq_true] at hc
    have hk:t.2.1=1:=eq_of_beq hc.1
    obtain ⟨_,_,ha⟩:=zf0 hk hc.2
    have hrp:=qgn ht
    have hbp:=qth ht hk
    have he:jc t l.2.2.1 l.2.2.2.1=bpQ t:=by rw [qkr ⟨Int.le_trans (by decide) hrp.1,hrp.2⟩ hp,if_pos ha]
    show IntKind.i64.wrap (n+bpQ t)<=_/\0<=IntKind.i64.wrap (n+bpQ t)
    rw [he,IntWalk.i64_in _ (by omega)]
    exact ⟨Int.le_refl _,by omega⟩
  have h2:=zyw l hp ts (qjz l n t) (fun x hx=>hr x (List.mem_cons_of_mem _ hx)) hq.2 (ych hq.1 hpi.2 hb)
  exact ycg h2 hq.1
where
 ych {a b c:Int} {m:Nat} (h1:a<=b+c) (h2:c<=10000) (h3:b+10000*((m+1:Nat):Int)<=1000000000):a+10000*((m:Nat):Int)<=1000000000:=by omega
 ycg {a b c m s:Int} (h1:a<=b+s) (h2:b<=m+c):a<=m+(c+s):=by omega
theorem zl3 {l:lossT.den} (hp:¬ (0<=l.2.2.2.1/\l.2.2.2.1<=7)):(ts:List qb.den)->(n:Int)->ts.foldl (qjz l) n=n
 |[],_=>rfl
 |t::ts,n=>by
  rw [List.foldl_cons]
  have h:qjz l n t=n:=by
   unfold qjz
   cases hc:(bif t.2.1==1 then qou t l else false)
   ·rfl
   ·rw [qfv,Bool.and_eq_true] at hc
    exact absurd (zf0 (eq_of_beq hc.1) hc.2).2.1 hp
  rw [h]
  exact zl3 hp ts n
theorem zyx (j:jourT.den) (l:lossT.den):(qpb (j,l,())).ok/\(qpb (j,l,())).get=(true,()):=by
 cases hs : !(qyu j 40)
 ·have hj:qyu j 40=true:=by simpa using hs
  obtain ⟨ht,hl,_⟩:=yb9 hj
  have he:ofJ j 292194=(qwy 292194 j.2.1 (qmk j.1),0):=yj6 (by omega)
  have hq:QI (ofJ j 292194).1:=by rw [he]; exact zqd j.2.1 (ypc j.1)
  have hg:=zyv true l (ofJ j 292194).1 (List.drop 0 (yw (ofJ j 292194).1)) 0
  refine Fr.br_f hs (Fr.need_ ht (Fr.br_f ?_ (Fr.need_ ⟨trivial,Int.le_refl _,Int.natCast_nonneg _,?_⟩ (Fr.need_ hg.1 ⟨trivial,?_⟩))))
  ·show ((ofJ j 292194).2 != 0)=false
   rw [he]; rfl
  ·show ((List.length (α:=qb.den) (yw (ofJ j 292194).1):Nat):Int)<=_
   have:=hq.len
   omega
  ·have hle:(yw (ofJ j 292194).1).foldl (qjz l) 0<=10000:=by
    by_cases hp:0<=l.2.2.2.1/\l.2.2.2.1<=7
    ·have h1:=zyw l hp (yw (ofJ j 292194).1) 0 hq.right (Int.le_refl _) (by have:=hq.len; omega)
     have h2:=hq.sum l.2.2.1 l.2.2.2.1 hp
     rw [Int.zero_add] at h1
     exact Int.le_trans h1 h2
    ·rw [zl3 hp]; decide
   show (bif (goF qat (List.drop 0 (yw (ofJ j 292194).1)) ((true,0,()),l,(ofJ j 292194).1,())).1.1 then decide ((goF qat (List.drop 0 (yw (ofJ j 292194).1)) ((true,0,()),l,(ofJ j 292194).1,())).1.2.1<=10000) else false,())=_
   rw [hg.2,List.drop_zero]
   show (decide ((yw (ofJ j 292194).1).foldl (qjz l) 0<=10000),())=_
   rw [decide_eq_true hle]
 ·exact Fr.br_t hs ⟨trivial,rfl⟩
theorem lawQuotas_ok:qa Tryz.prog 4 (ym2 [.d jourT,.d lossT]):=conv zjz _ _ (fun _ _ x _ _ _=>zyx x.1 x.2.1)
end Go.Proofs.YtgieagiaagoogaaGreat
