/-
  Parts of the proof, one behind the other: S23, S24, S22, S25, S26, S28, S33, S34, S35, S36, S37, S38, S39, S40, S41, S46, S47, S54, S45, B6, S55, S56, S57, S58, S59, S60, S48, S49, S61, S62.
-/
import Derived.Test.YtgieagiaagoogaaGreatMg
import Derived.Deep.MidRow
set_option linter.all false
abbrev uec:=@Int.lt_irrefl
namespace Go.Proofs.YtgieagiaagoogaaGreat
open Go Go.Ab Go.RowKit Go.Proofs
abbrev qbq:List PT:=[.d .unit,.d factT]
def zuh (f:factT.den):factT.den:=(zt f,za f,0,qif f,qfw f,((0,0,()),(0,0,0,0,()),[],()),qei f,qao f,qsj f,jh f,())
def qn1:Ct:=⟨qbq,[factT],fun x=>(zuh x.2.1,()),fun _=>[]⟩
theorem yd8:qa Tryz.prog 313 qn1:=
 conv (qg xk (Λ:=qq) (fn:=Tryz.f313) (fr:=fun x=>Fr.val (zuh x.2.1,())) (ps:=qbq) (rs:=[factT]) (dfP qbq) (by kernel_rfl) (fun c E _=>qe c 0) (fun x=>by kernel_rfl)) _ _ (fun _ _ _ _ _ _=>⟨trivial,rfl⟩)
def zui (f:factT.den):factT.den:=(zt f,za f,0,qif f,qfw f,qhp f,(0,0,0,(0,0,0,0,()),[],0,()),qao f,qsj f,jh f,())
def qq2:Ct:=⟨qbq,[factT],fun x=>(zui x.2.1,()),fun _=>[]⟩
theorem yd9:qa Tryz.prog 314 qq2:=
 conv (qg xk (Λ:=qq) (fn:=Tryz.f314) (fr:=fun x=>Fr.val (zui x.2.1,())) (ps:=qbq) (rs:=[factT]) (dfP qbq) (by kernel_rfl) (fun c E _=>qe c 0) (fun x=>by kernel_rfl)) _ _ (fun _ _ _ _ _ _=>⟨trivial,rfl⟩)
def zuj (f:factT.den):factT.den:=(zt f,za f,0,0,qfw f,qhp f,qei f,qao f,qsj f,jh f,())
def qq3:Ct:=⟨qbq,[factT],fun x=>(zuj x.2.1,()),fun _=>[]⟩
theorem yea:qa Tryz.prog 315 qq3:=
 conv (qg xk (Λ:=qq) (fn:=Tryz.f315) (fr:=fun x=>Fr.val (zuj x.2.1,())) (ps:=qbq) (rs:=[factT]) (dfP qbq) (by kernel_rfl) (fun c E _=>qe c 0) (fun x=>by kernel_rfl)) _ _ (fun _ _ _ _ _ _=>⟨trivial,rfl⟩)
def zuk (f:factT.den):factT.den:=(zt f,za f,fId f,qif f,qfw f,qhp f,qei f,(0,0,0,0,0,0,()),qsj f,jh f,())
def qq4:Ct:=⟨qbq,[factT],fun x=>(zuk x.2.1,()),fun _=>[]⟩
theorem yeb:qa Tryz.prog 316 qq4:=
 conv (qg xk (Λ:=qq) (fn:=Tryz.f316) (fr:=fun x=>Fr.val (zuk x.2.1,())) (ps:=qbq) (rs:=[factT]) (dfP qbq) (by kernel_rfl) (fun c E _=>qe c 0) (fun x=>by kernel_rfl)) _ _ (fun _ _ _ _ _ _=>⟨trivial,rfl⟩)
def zul (f:factT.den):factT.den:=(zt f,za f,0,qif f,qfw f,qhp f,qei f,qao f,(0,0,0,()),jh f,())
def qq5:Ct:=⟨qbq,[factT],fun x=>(zul x.2.1,()),fun _=>[]⟩
theorem yec:qa Tryz.prog 317 qq5:=
 conv (qg xk (Λ:=qq) (fn:=Tryz.f317) (fr:=fun x=>Fr.val (zul x.2.1,())) (ps:=qbq) (rs:=[factT]) (dfP qbq) (by kernel_rfl) (fun c E _=>qe c 0) (fun x=>by kernel_rfl)) _ _ (fun _ _ _ _ _ _=>⟨trivial,rfl⟩)
def zum (f:factT.den):factT.den:=(zt f,za f,fId f,qif f,qfw f,qhp f,qei f,qao f,qsj f,(0,0,(0,0,()),0,0,0,0,0,()),())
def qq6:Ct:=⟨qbq,[factT],fun x=>(zum x.2.1,()),fun _=>[]⟩
theorem yed:qa Tryz.prog 318 qq6:=
 conv (qg xk (Λ:=qq) (fn:=Tryz.f318) (fr:=fun x=>Fr.val (zum x.2.1,())) (ps:=qbq) (rs:=[factT]) (dfP qbq) (by kernel_rfl) (fun c E _=>qe c 0) (fun x=>by kernel_rfl)) _ _ (fun _ _ _ _ _ _=>⟨trivial,rfl⟩)
def zun (f:factT.den):factT.den:=(zt f,za f,fId f,qif f,0,qhp f,qei f,qao f,qsj f,jh f,())
def qq7:Ct:=⟨qbq,[factT],fun x=>(zun x.2.1,()),fun _=>[]⟩
theorem yee:qa Tryz.prog 319 qq7:=
 conv (qg xk (Λ:=qq) (fn:=Tryz.f319) (fr:=fun x=>Fr.val (zun x.2.1,())) (ps:=qbq) (rs:=[factT]) (dfP qbq) (by kernel_rfl) (fun c E _=>qe c 0) (fun x=>by kernel_rfl)) _ _ (fun _ _ _ _ _ _=>⟨trivial,rfl⟩)
noncomputable def ygn:List (FuncId×Ct):=[(96,qaf),(97,zg1),(98,qhk),(99,qeg),(100,zii),(27,qne),(41,qj8),(313,qn1),(314,qq2),(315,qq3),(316,qq4),(317,qq5),(318,qq6),(319,qq7)]
noncomputable def yr8:Cx:=cx ygn []
theorem yhi:CxOK Tryz.prog yr8:=zc (cs:=ygn) (ps:=[]) qv ⟨ynv,yh7,qv8,qr9,ybe,zd7,zfh,yd8,yd9,yea,yeb,yec,yed,yee,trivial⟩ trivial
def qiq (x:qn [.d factT]):Fr (qi [.bool]):=
 Fr.need ((bif bif (yy esF (qaf.f (x.1.2.1,())).1.1).isNone then true else decide (x.1.1<1) then true else decide (x.1.1>292194))=false->(qaf.f (x.1.2.1,())).1.1=1->qr ([]++([]++[])++qn1.ok ((),x.1,()))) (Fr.need ((bif bif (yy esF (qaf.f (x.1.2.1,())).1.1).isNone then true else decide (x.1.1<1) then true else decide (x.1.1>292194))=false->(qaf.f (x.1.2.1,())).1.1≠1->qr [(qaf.f (x.1.2.1,())).1.1=2->qr ([]++([]++[])++qq2.ok ((),x.1,())),(qaf.f (x.1.2.1,())).1.1≠2->qr [(qaf.f (x.1.2.1,())).1.1=3->qr ([]++([]++[])++qq3.ok ((),x.1,())),(qaf.f (x.1.2.1,())).1.1≠3->qr [(qaf.f (x.1.2.1,())).1.1=4->qr ([]++([]++[])++qq4.ok ((),x.1,())),(qaf.f (x.1.2.1,())).1.1≠4->qr [(qaf.f (x.1.2.1,())).1.1=5->qr ([]++([]++[])++qq5.ok ((),x.1,())),(qaf.f (x.1.2.1,())).1.1≠5->qr [(qaf.f (x.1.2.1,())).1.1=6->qr ([]++([]++[])++qq6.ok ((),x.1,())),(qaf.f (x.1.2.1,())).1.1≠6->qr (((qaf.f (x.1.2.1,())).1.1=7)::([]++([]++[])++qq7.ok ((),x.1,())))]]]]]) (Fr.br (bif bif bif (yy esF (qaf.f (x.1.2.1,())).1.1).isNone then true else decide (x.1.1<1) then true else decide (x.1.1>292194) then true else !(zg1.f ((bif (qaf.f (x.1.2.1,())).1.1==1 then qn1.f ((),x.1,()) else bif (qaf.f (x.1.2.1,())).1.1==2 then qq2.f ((),x.1,()) else bif (qaf.f (x.1.2.1,())).1.1==3 then qq3.f ((),x.1,()) else bif (qaf.f (x.1.2.1,())).1.1==4 then qq4.f ((),x.1,()) else bif (qaf.f (x.1.2.1,())).1.1==5 then qq5.f ((),x.1,()) else bif (qaf.f (x.1.2.1,())).1.1==6 then qq6.f ((),x.1,()) else qq7.f ((),x.1,())).1,())).1) (Fr.val (false,())) (Fr.br (yy esF (qaf.f (x.1.2.1,())).1.1==some 173) (Fr.val (bif bif decide (x.1.2.2.1≥1) then decide (x.1.2.2.1<=1000000000) else false then (qhk.f (x.1.2.2.2.2.2.1,())).1 else false,())) (Fr.br (yy esF (qaf.f (x.1.2.1,())).1.1==some 175) (Fr.val (bif bif bif decide (x.1.2.2.1≥1) then decide (x.1.2.2.1<=1000000000) else false then (qeg.f (x.1.2.2.2.2.2.2.1,())).1 else false then x.1.2.2.2.2.2.2.1.1==x.1.1 else false,())) (Fr.br (yy esF (qaf.f (x.1.2.1,())).1.1==some 177) (Fr.val (bif bif bif decide (x.1.2.2.1≥1) then decide (x.1.2.2.1<=1000000000) else false then decide (x.1.2.2.2.1≥1) else false then decide (x.1.2.2.2.1<=1000000000000000) else false,())) (Fr.br (yy esF (qaf.f (x.1.2.1,())).1.1==some 178) (Fr.val (bif (zii.f (x.1.2.2.2.2.2.2.2.1,())).1 then x.1.2.2.2.2.2.2.2.1.2.2.2.2.1==x.1.1 else false,())) (Fr.br (yy esF (qaf.f (x.1.2.1,())).1.1==some 179) (Fr.val (bif bif bif decide (x.1.2.2.1≥1) then decide (x.1.2.2.1<=1000000000) else false then (qne.f (x.1.2.2.2.2.2.2.2.2.1,())).1 else false then x.1.2.2.2.2.2.2.2.2.1.1==x.1.1 else false,())) (Fr.br (yy esF (qaf.f (x.1.2.1,())).1.1==some 180) (Fr.val ((qj8.f (x.1.2.2.2.2.2.2.2.2.2.1,())).1,())) (Fr.val (bif decide (x.1.2.2.2.2.1≥1) then decide (x.1.2.2.2.2.1<=x.1.1) else false,()))))))))))
theorem zjw:qa Tryz.prog 63 ⟨[.d factT],[.bool],fun xs=>(qiq xs).get,fun xs=>[(qiq xs).ok]⟩:=
 qg yhi (Λ:=qq) (fn:=Tryz.f63) (dfP [.d factT]) (by kernel_rfl) (fun c E _=>qe c 0) (fun x=>by kernel_rfl)
def qxb (f:factT.den):factT.den:=
 bif za f==1 then zuh f else bif za f==2 then zui f else bif za f==3 then zuj f else bif za f==4 then zuk f else bif za f==5 then zul f else bif za f==6 then zum f else zun f
def idF (f:factT.den):Bool:=decide (fId f≥1)&&decide (fId f<=1000000000)
def zre (f:factT.den):Bool:=
 bif za f==1 then idF f&&qeu (qhp f) else bif za f==2 then (idF f&&xy (qei f))&&(qei f).1==zt f
  else bif za f==3 then (idF f&&decide (qif f≥1))&&decide (qif f<=1000000000000000) else bif za f==4 then zv3 (qao f)&&(qao f).2.2.2.2.1==zt f
  else bif za f==5 then (idF f&&qng (qsj f))&&(qsj f).1==zt f else bif za f==6 then qab (jh f) else decide (qfw f≥1)&&decide (qfw f<=zt f)
def vg (f:factT.den):Bool:=
 (decide (1<=za f)&&decide (za f<=7))&&((decide (1<=zt f)&&decide (zt f<=292194))&&(qzr (qxb f)&&zre f))
theorem qfv (a b:Bool):(bif a then b else false)=(a&&b):=by cases a<;>rfl
theorem ymw (a b:Bool):(bif a then true else b)=(a || b):=by cases a<;>rfl
theorem zp4 {k:Int} (h:1<=k/\k<=7) (h1:k≠1) (h2:k≠2) (h3:k≠3) (h4:k≠4) (h5:k≠5) (h6:k≠6):k=7:=by omega
theorem zn1 {f:factT.den} (h:za f<1∨za f>7):(qiq (f,())).ok/\(qiq (f,())).get=(vg f,()):=by
 have hn:yy esF (za f)=none:=qy6 h;have hf:vg f=false:=by
  unfold vg;rcases h with h|h
  ·rw [show decide (1<=za f)=false from uao (by omega)]; rfl
  ·rw [show decide (za f<=7)=false from uao (by omega),uea]; rfl
 rw [hf];have hb:(bif bif (yy esF (za f)).isNone then true else decide (zt f<1) then true else decide (zt f>292194))=true:=by rw [hn]; rfl
 refine Fr.need_ (fun h0=>absurd (hb.symm.trans h0) (by decide)) (Fr.need_ (fun h0=>absurd (hb.symm.trans h0) (by decide)) (Fr.br_t ?_ ⟨trivial,rfl⟩));show (bif (bif bif (yy esF (za f)).isNone then true else decide (zt f<1) then true else decide (zt f>292194)) then true else _)=true;rw [hb];rfl
theorem zn2 {f:factT.den} (h:1<=za f/\za f<=7):(qiq (f,())).ok/\(qiq (f,())).get=(vg f,()):=by
 have hc:(bif bif (yy esF (za f)).isNone then true else decide (zt f<1) then true else decide (zt f>292194))=(decide (zt f<1) || decide (zt f>292194)):=by
  rcases qxd h with e|e|e|e|e|e|e<;>rw [e]<;>exact ymw _ _
 have hn1:za f=1->qr ([]++([]++[])++qn1.ok ((),f,())):=fun _=>trivial;refine Fr.need_ (fun _ _=>trivial) (Fr.need_ (fun _=>?_) ?_)
 ·show za f≠1->(_/\_);intro h1;exact ⟨fun _=>trivial,fun h2=>⟨fun _=>trivial,fun h3=>⟨fun _=>trivial,fun h4=>⟨fun _=>trivial,fun h5=>⟨fun _=>trivial,fun h6=>zp4 h h1 h2 h3 h4 h5 h6⟩⟩⟩⟩⟩
 have hr:(bif za f==1 then qn1.f ((),f,()) else bif za f==2 then qq2.f ((),f,()) else bif za f==3 then qq3.f ((),f,()) else bif za f==4 then qq4.f ((),f,()) else bif za f==5 then qq5.f ((),f,()) else bif za f==6 then qq6.f ((),f,()) else qq7.f ((),f,()))=(qxb f,()):=by
  unfold qxb;rcases qxd h with e|e|e|e|e|e|e<;>rw [e]<;>rfl
 have hk:(decide (1<=za f)&&decide (za f<=7))=true:=by rw [uan h.1,uan h.2]; rfl
 have hcond:(bif bif bif (yy esF (za f)).isNone then true else decide (zt f<1) then true else decide (zt f>292194) then true else !(zg1.f ((bif za f==1 then qn1.f ((),f,()) else bif za f==2 then qq2.f ((),f,()) else bif za f==3 then qq3.f ((),f,()) else bif za f==4 then qq4.f ((),f,()) else bif za f==5 then qq5.f ((),f,()) else bif za f==6 then qq6.f ((),f,()) else qq7.f ((),f,())).1,())).1)
   = !((decide (1<=zt f)&&decide (zt f<=292194))&&qzr (qxb f)):=by
  rw [hr,hc,ymw];show ((decide (zt f<1) || decide (zt f>292194)) || !(qzr (qxb f)))=_;rw [Bool.not_and,Bool.not_and,← decide_not,← decide_not];congr 2
  ·exact decide_eq_decide.mpr (by omega)
  ·exact decide_eq_decide.mpr (by omega)
 cases hb:(decide (1<=zt f)&&decide (zt f<=292194))&&qzr (qxb f)
 ·have hF:vg f=false:=by unfold vg; rw [← Bool.and_assoc (decide (1<=zt f)&&_),hb,Bool.false_and,Bool.and_false]
  rw [hF];exact Fr.br_t (hcond.trans (by rw [hb]; rfl)) ⟨trivial,rfl⟩
 ·have hF:vg f=zre f:=by unfold vg; rw [← Bool.and_assoc (decide (1<=zt f)&&_),hb,hk,Bool.true_and,Bool.true_and]
  rw [hF];refine Fr.br_f (hcond.trans (by rw [hb]; rfl)) ?_;obtain ⟨bk,k,id,amt,day,tm,ch,cl,ac,tr,_⟩:=f;have e':=qxd h;rcases e' with e|e|e|e|e|e|e
  all_goals
   have e1:k=_:=e;subst e1
  ·exact Fr.br_t rfl ⟨trivial,by rw [qfv,qfv]; rfl⟩
  ·exact Fr.br_f rfl (Fr.br_t rfl ⟨trivial,by rw [qfv,qfv,qfv]; rfl⟩)
  ·exact Fr.br_f rfl (Fr.br_f rfl (Fr.br_t rfl ⟨trivial,by rw [qfv,qfv,qfv]; rfl⟩))
  ·exact Fr.br_f rfl (Fr.br_f rfl (Fr.br_f rfl (Fr.br_t rfl ⟨trivial,by rw [qfv]; rfl⟩)))
  ·exact Fr.br_f rfl (Fr.br_f rfl (Fr.br_f rfl (Fr.br_f rfl (Fr.br_t rfl ⟨trivial,by rw [qfv,qfv,qfv]; rfl⟩))))
  ·exact Fr.br_f rfl (Fr.br_f rfl (Fr.br_f rfl (Fr.br_f rfl (Fr.br_f rfl (Fr.br_t rfl ⟨trivial,rfl⟩)))))
  ·exact Fr.br_f rfl (Fr.br_f rfl (Fr.br_f rfl (Fr.br_f rfl (Fr.br_f rfl (Fr.br_f rfl ⟨trivial,by rw [qfv]; rfl⟩)))))
def qnf:Ct:=⟨[.d factT],[.bool],fun x=>(vg x.1,()),fun _=>[]⟩
theorem ze0:qa Tryz.prog 63 qnf:=conv zjw _ _ (fun _ _ x _ _ _=>by
 by_cases h:1<=za x.1/\za x.1<=7
 ·exact zn2 h
 ·exact zn1 (by omega))
end Go.Proofs.YtgieagiaagoogaaGreat
namespace Go.Proofs.YtgieagiaagoogaaGreat
open Go Go.Ab Go.RowKit Go.Proofs Go.Shelf Go.Lib
def esK:List (Int×TypeId):=[(1,134),(2,135),(3,136),(4,137),(5,138),(6,139),(7,140)]
def kdV (k:Int) (v:Value):Value:=match yy esK k with
 |some ty=>.iface ty v
 |none=>.nilIface
def kdA (v:Value):Array Value:=#[.nilIface,.iface 134 v,.iface 135 v,.iface 136 v,.iface 137 v,.iface 138 v,.iface 139 v,.iface 140 v]
set_option maxRecDepth 100000 in
theorem yc8 (k:Int) (hk:1<=k/\k<=7) (v:Value) (w:World):(Instr.index 141 (.agg (kdA v)) (.int .i64 k)).run Tryz.prog w = .ok (kdV k v) w:=by
 rcases qxd hk with rfl|rfl|rfl|rfl|rfl|rfl|rfl<;>kernel_rfl
set_option maxHeartbeats 4000000 in
set_option maxRecDepth 100000 in
theorem ydc (k:Int) (hk:1<=k/\k<=7) (cs:Array Value) (hs:cs.size=39) (h1:cs[1]? = some (.int .i64 k)) (R:Ending->World->Prop) (w:World) (hR:∀ o,R (.returned (kdV k (.agg cs))) (w.alloc o)):Calls Tryz.prog 36 #[.agg cs] w R:=by
 have hh:(w.alloc (.cells cs 46)).heap[w.heap.size]? = some (.cells cs 46 (0,0)):=uax w _;have hr:(w.alloc (.cells cs 46)).rangeAt w.heap.size 0 cs.toList:=fun j v hv=>by
  rw [qj9 hh]; simpa using hv
 have hc:(w.alloc (.cells cs 46)).cell? ⟨w.heap.size,1,none⟩=some (.int .i64 k):=by rw [qj9 hh]; exact h1
 have hi:(Tryz.prog.info? 46).map (·.size)=some cs.toList.length:=by rw [uad,hs]; kernel_rfl
 have hx:=yc8 k hk (.agg cs);unfold kdA at hx
 go_enter Tryz.func36,Tryz.ntmps36
 go_wp2_with (first|(refine wpList_load_mid rfl 46 _ rfl w.heap.size 0 rfl cs.toList _ hr Tryz.underlying46 rfl hi ?_)|simp only [hx,hc,uev])
 exact hR _
def zv4:Ct:=⟨[.d factT],[.ic esK factT],fun x=>((za x.1,x.1),()),fun x=>[1<=za x.1/\za x.1<=7]⟩
theorem yjm:qa Tryz.prog 36 zv4:=by
 refine ⟨enters_of Tryz.func36 (by kernel_rfl) rfl,fun w F xs vs hbd hr hok=>?_⟩;obtain ⟨f,_⟩:=xs;obtain ⟨v,vs',rfl,hv,hn⟩:=hr;cases hn;have hv:zv w F factT f v:=hv;obtain ⟨cs,rfl⟩:=hv.2.1.1 rfl;have hs:cs.size=39:=hv.1;have h1:cs[1]? = some (.int .i64 (za f)):=hv.2.2.2.1.1;refine ydc (za f) hok cs hs h1 _ w fun o=>zbi hbd ?_;unfold kdV;split
 ·rename_i ty h;exact ze3 h hv
 ·rename_i h;exact zbb h
end Go.Proofs.YtgieagiaagoogaaGreat
namespace Go.Proofs.YtgieagiaagoogaaGreat
open Go Go.Ab Go.RowKit Go.Proofs
noncomputable def yr9:Cx:=cx [(63,qnf)] []
theorem yhj:CxOK Tryz.prog yr9:=zc (cs:=[(63,qnf)]) (ps:=[]) qv ⟨ze0,trivial⟩ trivial
def qhh (s:stateT.den) (f:factT.den):Int:=bif !(vg f) then 1 else bif decide (zt f<=qmr s) then 12 else 0
def zrn:Ct:=⟨[.d stateT,.d factT],[i64],fun x=>(qhh x.1 x.2.1,()),fun _=>[]⟩
theorem yoy:qa Tryz.prog 35 zrn:=
 conv (qg yhj (Λ:=qq) (fn:=Tryz.f35) (fr:=fun x=>Fr.br (!(vg x.2.1)) (Fr.val (1,())) (Fr.br (decide (zt x.2.1<=qmr x.1)) (Fr.val (12,())) (Fr.val (0,())))) (ps:=zrn.ps) (rs:=[i64]) (dfP zrn.ps) (by kernel_rfl) (fun c E _=>qe c 0) (fun x=>by kernel_rfl)) _ _ (fun _ _ x _ _ _=>by
  obtain ⟨s,f,_⟩:=x;show _/\_=(qhh s f,());unfold qhh;cases h1 : !(vg f)
  ·refine Fr.br_f (by first|rfl|exact h1) ?_;cases h2:decide (zt f<=qmr s)
   ·exact Fr.br_f (by first|rfl|exact h2) ⟨trivial,rfl⟩
   ·exact Fr.br_t (by first|rfl|exact h2) ⟨trivial,rfl⟩
  ·exact Fr.br_t (by first|rfl|exact h1) ⟨trivial,rfl⟩)
noncomputable def ygo:List (FuncId×Ct):=[(35,zrn),(36,zv4),(255,zpb),(267,zil),(272,zpd),(273,zpc),(284,zv1),(295,zd6),(312,zim)]
noncomputable def yqj:Cx:=cx ygo []
theorem yah:CxOK Tryz.prog yqj:=zc (cs:=ygo) (ps:=[]) qv ⟨yoy,yjm,zwv,zse,zwz,zwx,ybv,znl,zsf,trivial⟩ trivial
abbrev s00:stateT.den:=(([],()),[],[],[],0,())
def doY (s:stateT.den) (f:factT.den):qi [stateT,i64]:=bif za f==1 then ((qff s f).1,(qff s f).2,()) else bif za f==2 then ((qdn s f).1,(qdn s f).2,()) else bif za f==3 then ((qfh s f).1,(qfh s f).2,()) else bif za f==4 then ((qfg s f).1,(qfg s f).2,()) else bif za f==5 then ((qh0 s f).1,(qh0 s f).2,()) else bif za f==6 then ((qcg s f).1,(qcg s f).2,()) else ((qdo s f).1,(qdo s f).2,())
def doF (s:stateT.den) (f:factT.den):stateT.den×Int:=((doY s f).1,(doY s f).2.1)
def qbc (s:stateT.den) (f:factT.den):stateT.den×Int:=
 bif qhh s f != 0 then (s00,qhh s f) else bif (doF s f).2 != 0 then (s00,(doF s f).2) else ((doF s f).1,0)
abbrev PSF:List PT:=[.d stateT,.d factT]
def cDo:Ct:=⟨PSF,[stateT,i64],fun x=>((qbc x.1 x.2.1).1,(qbc x.1 x.2.1).2,()),fun x=>[yf x.1]⟩
def ycm (s:stateT.den) (f:factT.den):Fr (qi [stateT,i64]):=
 Fr.br (qhh s f != 0) (Fr.val (s00,qhh s f,())) (Fr.need (1<=za f/\za f<=7) (Fr.need (za f=1->qr [yf s]) (Fr.need (za f≠1->qr [za f=2->qr [yf s],za f≠2->qr [za f=3->qr [yf s],za f≠3->qr [za f=4->qr [yf s],za f≠4->qr [za f=5->qr [yf s],za f≠5->qr [za f=6->qr ([]:List Prop),za f≠6->qr [za f=7]]]]]])
  (Fr.br ((doY s f).2.1 != 0) (Fr.val (s00,(doY s f).2.1,())) (Fr.val ((doY s f).1,0,()))))))
theorem zfa {s:stateT.den} {f:factT.den} (h:qhh s f=0):vg f=true/\qmr s<zt f:=by
 unfold qhh at h;cases h1:vg f
 ·rw [h1] at h; have h:(1:Int)=0:=h; exact absurd h (by decide)
 ·rw [h1] at h;refine ⟨rfl,?_⟩;by_cases h2:zt f<=qmr s
  ·rw [uan h2] at h; exact absurd h (by decide)
  ·omega
theorem qxy {f:factT.den} (h:vg f=true):1<=za f/\za f<=7:=by
 unfold vg at h;rw [Bool.and_eq_true,Bool.and_eq_true] at h;exact ⟨of_decide_eq_true h.1.1,of_decide_eq_true h.1.2⟩
theorem yqr (s:stateT.den) (f:factT.den) (hs:yf s):(ycm s f).ok/\(ycm s f).get=((qbc s f).1,(qbc s f).2,()):=by
 unfold qbc;cases h1:qhh s f != 0
 ·refine Fr.br_f (by first|rfl|exact h1) ?_;have h0:qhh s f=0:=by simpa using h1
  have hk:=qxy (zfa h0).1;refine Fr.need_ hk (Fr.need_ (fun _=>hs) (Fr.need_ (fun k1=>?_) ?_))
  ·exact ⟨fun _=>hs,fun k2=>⟨fun _=>hs,fun k3=>⟨fun _=>hs,fun k4=>⟨fun _=>hs,fun k5=>⟨fun _=>trivial,fun k6=>zp4 hk k1 k2 k3 k4 k5 k6⟩⟩⟩⟩⟩
  ·cases h2:(doF s f).2 != 0
   ·exact Fr.br_f (by first|rfl|exact h2) ⟨trivial,rfl⟩
   ·exact Fr.br_t (by first|rfl|exact h2) ⟨trivial,rfl⟩
 ·exact Fr.br_t (by first|rfl|exact h1) ⟨trivial,rfl⟩
theorem zha:qa Tryz.prog 14 cDo:=
 conv (qg yah (Λ:=qq) (fn:=Tryz.f14) (fr:=fun x=>ycm x.1 x.2.1) (ps:=PSF) (rs:=[stateT,i64]) (dfP PSF) (by kernel_rfl) (fun c E _=>qe c 0) (fun x=>by kernel_rfl)) _ _ (fun _ _ x _ _ h=>yqr x.1 x.2.1 h)
theorem yc3 {α:Type} {i:Int} {l:List α} {x a:α} (h:a∈qkk i l [x]):a∈l∨a=x:=by
 unfold qkk at h;rw [List.mem_append,List.mem_append] at h;rcases h with (h|h)|h
 ·exact .inl (uep h)
 ·exact .inr (ud2.1 h)
 ·exact .inl (ucm h)
theorem zn4 {α:Type} (i:Int) (l:List α) (x:α):(qkk i l [x]).length=l.length+1:=by
 unfold qkk;rw [List.length_append,List.length_append,List.length_take,List.length_drop,List.length_singleton];omega
theorem zbh {α:Type} {g:α->Int} {l:List α} {x a:α} (h:a∈qbe g l x):a∈l∨a=x:=yc3 h
theorem qmp {α:Type} (g:α->Int) (l:List α) (x:α):(qbe g l x).length=l.length+1:=zn4 _ l x
theorem ztv {α:Type} {l:List α} {i:Nat} {x a:α} (h:a∈l.set i x):a∈l∨a=x:=ugp h
theorem qrf {t:ze.den} (h:wn t):yf (qmk t):=⟨h,ucl _,ucl _,fun a ha=>by cases ha⟩
theorem yca {s:stateT.den} (f:factT.den) (h:yf s):yf (qff s f).1:=by
 unfold qff;cases h1:decide (aI s f≥0)
 ·cases h2:decide (((List.length (kr s):Nat):Int)≥2000)
  ·have h2':=uac h2;refine ⟨h.1,?_,h.2.2.1,fun a ha=>?_⟩
   ·show (qbe aId (kr s) ((bH f).1,0,())).length<=100000;rw [qmp]; omega
   ·rcases zbh ha with ha|ha
    ·exact h.2.2.2 a ha
    ·rw [ha]; exact zid _ _ _
  ·exact h
 ·exact h
theorem zph {s:stateT.den} (i:Nat) (x:zf.den) (h:yf s) (hx:jj x.1):yf (qhb s ((kr s).set i x)):=by
 refine ⟨h.1,?_,h.2.2.1,fun a ha=>?_⟩
 ·show ((kr s).set i x).length<=100000;rw [uct]; exact h.2.1
 ·rcases ztv ha with ha|ha
  ·exact h.2.2.2 a ha
  ·rw [ha]; exact hx
theorem zw6 {s:stateT.den} (f:factT.den) (h:yf s):yf (qdn s f).1:=by
 unfold qdn;cases h1:decide (aI s f<0)
 ·cases h2:(xb s).any (qye f)
  ·exact zph _ _ h (zqc (qre h (uac h1)))
  ·exact h
 ·exact h
theorem ycd {s:stateT.den} (f:factT.den) (h:yf s):yf (qfh s f).1:=by
 unfold qfh;cases h1:decide (aI s f<0)
 ·cases h2:decide (qif f>IntKind.i64.wrap (4000000000000000000-(qe1 s (aI s f)).2.1))
  ·exact zph _ _ h (qre h (uac h1))
  ·exact h
 ·exact h
theorem ycb {s:stateT.den} (f:factT.den) (h:yf s):yf (qfg s f).1:=by
 unfold qfg;cases h1:decide (qe5 s (qao f).1≥0)
 ·cases h2:decide (((List.length (xb s):Nat):Int)≥2000)
  ·have h2':=uac h2;cases h3 : !(lA s f).2
   ·refine ⟨h.1,h.2.1,?_,h.2.2.2⟩;show (qbe gId (xb s) (qao f,[],())).length<=100000;rw [qmp]; omega
   ·exact h
  ·exact h
 ·exact h
theorem yiu {s:stateT.den} (f:factT.den) (h:yf s):yf (qh0 s f).1:=by
 unfold qh0;cases h1:decide (gI s f<0)
 ·refine ⟨h.1,h.2.1,?_,h.2.2.2⟩;show ((xb s).set (gI s f).toNat (pG s f).1).length<=100000;rw [uct]; exact h.2.2.1
 ·exact h
theorem zsl {s:stateT.den} (f:factT.den) (h:yf s):yf (qcg s f).1:=by
 unfold qcg;cases zb7 s (jh f)
 ·cases decide (((List.length (yw s):Nat):Int)≥100)
  ·cases qlb (yw s) (jh f)
   ·exact ⟨h.1,h.2.1,h.2.2.1,h.2.2.2⟩
   ·exact h
  ·exact h
 ·exact h
theorem zw7 {s:stateT.den} (f:factT.den) (h:yf s):yf (qdo s f).1:=by
 unfold qdo;cases decide (qfw f<=qmr s)
 ·exact ⟨h.1,h.2.1,h.2.2.1,h.2.2.2⟩
 ·exact h
theorem zw8 {s:stateT.den} (f:factT.den) (h:yf s):yf (doF s f).1:=by
 show yf (doY s f).1;unfold doY;cases za f==1
 ·cases za f==2
  ·cases za f==3
   ·cases za f==4
    ·cases za f==5
     ·cases za f==6
      ·exact zw7 f h
      ·exact zsl f h
     ·exact yiu f h
    ·exact ycb f h
   ·exact ycd f h
  ·exact zw6 f h
 ·exact yca f h
theorem zqm {s:stateT.den} {f:factT.den} (h:(qbc s f).2=0):qhh s f=0/\(doF s f).2=0/\(qbc s f).1=(doF s f).1:=by
 unfold qbc at h ⊢;cases h1:qhh s f != 0
 ·have h0:qhh s f=0:=by simpa using h1
  rw [h1] at h;cases h2:(doF s f).2 != 0
  ·exact ⟨h0,by simpa using h2,rfl⟩
  ·rw [h2] at h;have h':(doF s f).2=0:=h;rw [h'] at h2; exact absurd h2 (by decide)
 ·rw [h1] at h;have h':qhh s f=0:=h;rw [h'] at h1; exact absurd h1 (by decide)
noncomputable def zqy:Cx:=cx [] []
theorem qcx:CxOK Tryz.prog zqy:=zc (cs:=[]) (ps:=[]) qv trivial trivial
def zpk (x:qn []):Fr (qi [ze]):=
 Fr.val (([(1,(100,100,100,100,()),[],[10000],[10000,10000,10000,10000,10000,10000,10000,10000],0,())],()),())
theorem zst:qa Tryz.prog 29 ⟨[],[ze],fun xs=>(zpk xs).get,fun xs=>[(zpk xs).ok]⟩:=
 qg qcx (Λ:=qq) (fn:=Tryz.f29) (dfP []) (by kernel_rfl) (fun c E _=>qe c 0) (fun x=>by kernel_rfl)
def zjs (x:qn [.d i64]):Fr (qi [factT]):=
 Fr.val ((1,1,x.1,0,0,((1,101,()),(0,36500,0,0,()),[(1,1000,1000,0,10000,())],()),(0,0,0,(0,0,0,0,()),[],0,()),(0,0,0,0,0,0,()),(0,0,0,()),(0,0,(0,0,()),0,0,0,0,0,()),()),())
theorem znp:qa Tryz.prog 30 ⟨[.d i64],[factT],fun xs=>(zjs xs).get,fun xs=>[(zjs xs).ok]⟩:=
 qg qcx (Λ:=qq) (fn:=Tryz.f30) (dfP [.d i64]) (by kernel_rfl) (fun c E _=>qe c 0) (fun x=>by kernel_rfl)
def zju (x:qn [.d factT]):Fr (qi [.bool]):=
 Fr.val (bif decide (((List.length x.1.2.2.2.2.2.1.2.2.1):Int)<=50) then decide (((List.length x.1.2.2.2.2.2.2.1.2.2.2.2.1):Int)<=50) else false,())
theorem znr:qa Tryz.prog 12 ⟨[.d factT],[.bool],fun xs=>(zju xs).get,fun xs=>[(zju xs).ok]⟩:=
 qg qcx (Λ:=qq) (fn:=Tryz.f12) (dfP [.d factT]) (by kernel_rfl) (fun c E _=>qe c 0) (fun x=>by kernel_rfl)
abbrev T28:ze.den:=([(1,(100,100,100,100,()),[],[10000],[10000,10000,10000,10000,10000,10000,10000,10000],0,())],())
abbrev zic (id:Int):factT.den:=(1,1,id,0,0,((1,101,()),(0,36500,0,0,()),[(1,1000,1000,0,10000,())],()),(0,0,0,(0,0,0,0,()),[],0,()),(0,0,0,0,0,0,()),(0,0,0,()),(0,0,(0,0,()),0,0,0,0,0,()),())
def ziy:Ct:=⟨[],[ze],fun _=>(T28,()),fun _=>[]⟩
def zcm:Ct:=⟨[.d i64],[factT],fun x=>(zic x.1,()),fun _=>[]⟩
def qn9 (f:factT.den):Bool:=bif decide (((List.length (qhp f).2.2.1:Nat):Int)<=50) then decide (((List.length (qei f).2.2.2.2.1:Nat):Int)<=50) else false
def qn0:Ct:=⟨[.d factT],[.bool],fun x=>(qn9 x.1,()),fun _=>[]⟩
theorem yfe:qa Tryz.prog 29 ziy:=conv zst _ _ (fun _ _ _ _ _ _=>⟨trivial,rfl⟩)
theorem zvz:qa Tryz.prog 30 zcm:=conv znp _ _ (fun _ _ _ _ _ _=>⟨trivial,rfl⟩)
theorem yb7:qa Tryz.prog 12 qn0:=conv znr _ _ (fun _ _ _ _ _ _=>⟨trivial,rfl⟩)
noncomputable def yqk:Cx:=cx [(29,ziy),(30,zcm),(28,qr5),(14,cDo),(21,qzt),(31,ziq)] []
theorem yai:CxOK Tryz.prog yqk:=zc (cs:=[(29,ziy),(30,zcm),(28,qr5),(14,cDo),(21,qzt),(31,ziq)]) (ps:=[]) qv ⟨yfe,zvz,zya,zha,zh7,ycf,trivial⟩ trivial
def zkb (_:qn []):Fr (qi [.bool]):=Fr.need (yf (qmk T28)) (Fr.need (yf (qbc (qmk T28) (zic 1)).1) (Fr.need (yf (qbc (qmk T28) (zic 1)).1) (Fr.val (true,()))))
theorem ya2:qa Tryz.prog 10 ⟨[],[.bool],fun xs=>(zkb xs).get,fun xs=>[(zkb xs).ok]⟩:=
 qg yai (Λ:=qq) (fn:=Tryz.f10) (fr:=zkb) (ps:=[]) (rs:=[.bool]) () (by kernel_rfl) (fun c E _=>qe c 0) (fun x=>by kernel_rfl)
def qlm:Ct:=⟨[],[.bool],fun _=>(true,()),fun _=>[]⟩
theorem zjn:wn T28:=by
 refine ⟨by decide,fun v hv=>?_⟩;simp only [T28,ua2,ues,or_false] at hv;subst hv;exact ⟨by decide,by decide,by decide⟩
theorem zei {s:stateT.den} (f:factT.den) (h:yf s):yf (qbc s f).1:=by
 have z:yf s00:=⟨⟨Nat.zero_le _,fun v hv=>by cases hv⟩,Nat.zero_le _,Nat.zero_le _,fun a ha=>by cases ha⟩;unfold qbc;cases qhh s f != 0
 ·cases (doF s f).2 != 0
  ·exact zw8 f h
  ·exact z
 ·exact z
theorem zra:qa Tryz.prog 10 qlm:=
 conv ya2 _ _ (fun _ _ _ _ _ _=>Fr.need_ (qrf zjn) (Fr.need_ (zei _ (qrf zjn)) (Fr.need_ (zei _ (qrf zjn)) ⟨trivial,rfl⟩)))
abbrev vm:Pt:=⟨38,0,⟨[(5,.d i64)],[.x 2 76 qt,.r 2 2 0,.x 3 76 qt,.r 3 3 0]⟩,⟨[],[]⟩,⟨[(4,.d .bool)],[]⟩⟩
def zev (x:vm.M.X):Fr vm.Out:=
 Fr.br (decide (x.1.1<((List.length x.2.1.2.1):Int))) (Fr.need (0<=x.1.1/\x.1.1<((List.length x.2.1.2.1):Int)) (Fr.need (0<=x.1.1/\x.1.1<((List.length x.2.2.1.2.1):Int)) (Fr.br (!((List.getD x.2.1.2.1 (Int.toNat x.1.1) zh.dflt).1==(List.getD x.2.2.1.2.1 (Int.toNat x.1.1) zh.dflt).1&&((List.getD x.2.1.2.1 (Int.toNat x.1.1) zh.dflt).2.1==(List.getD x.2.2.1.2.1 (Int.toNat x.1.1) zh.dflt).2.1&&((List.getD x.2.1.2.1 (Int.toNat x.1.1) zh.dflt).2.2.1==(List.getD x.2.2.1.2.1 (Int.toNat x.1.1) zh.dflt).2.2.1&&true)))) (Fr.val (Rd.back ((false,()),()))) (Fr.val (Rd.next ((IntKind.i64.wrap (x.1.1+1),()),x.2.1,x.2.2.1,())))))) (Fr.val (Rd.out ((),())))
theorem zu0:qf Tryz.prog (qo Tryz.f39 0) vm.M vm zev:=
 qf.of_run qcx (bs:=0) (Λ:=qq) rfl rfl rfl (fun E=>qe _ 0) (fun x=>by kernel_rfl)
abbrev qi0:Type:=qn []×jd [.x 2 76 qt,.r 2 2 0,.x 3 76 qt,.r 3 3 0]
def qbv (e:(zh.den×zh.den)) (s:qi0):Fr (qi0 ⊕ vm.R.X):=
 Fr.br (!(e.1.1==e.2.1&&(e.1.2.1==e.2.2.1&&(e.1.2.2.1==e.2.2.2.1&&true)))) (Fr.val (.inr ((false,()),()))) (Fr.val (.inl ((),s.2.1,s.2.2.1,())))
def qb7 (x:vm.M.X):Int×List (zh.den×zh.den)×qi0:=(x.1.1,x.2.1.2.1.zip x.2.2.1.2.1,x.1.2,x.2)
def qk7 (x:vm.M.X):Prop:=x.2.1.2.1.length=x.2.2.1.2.1.length
def qs6 (s:qi0):vm.E.X:=((),())
def qup:qi0:=(dfP _,dfM _)
def qo4:vm.R.X:=(dfP _,dfM _)
theorem zn9:qf Tryz.prog (.loop (qo Tryz.f39 0)) vm.M vm (FL qbv qb7 qk7 qs6 Rd.back qup qo4):=by
 refine qf.list zu0 qbv qb7 qk7 qs6 Rd.back qup qo4 ?_ ?_
 ·rintro ⟨⟨i,s⟩,m⟩ hg h0 h1 hb e he Q h;have hz:m.1.2.1.length=m.2.1.2.1.length:=hg;have h0:0<=i:=h0;have h1:i<(m.1.2.1.length:Int):=qhw hz h1;have hb:(m.1.2.1.length:Int)<=9223372036854775807:=qhv hz hb;have h1z:i<(m.2.1.2.1.length:Int):=by rw [← hz]; exact h1
  have hd:m.1.2.1.getD i.toNat zh.dflt=e.1:=zp (qfr he);have hdz:m.2.1.2.1.getD i.toNat zh.dflt=e.2:=zp (qft he);have hw:=zu h0 h1 hb;dsimp only [qb7,qbv,zev,Fr.satP] at h ⊢;simp only [hd,hw,hdz] at h ⊢;refine ⟨fun _=>?_,fun hn=>absurd h1 (of_decide_eq_false hn)⟩
  repeat' first
   |exact h
   |exact ⟨h0,h1⟩
   |exact fun _=>⟨h0,h1⟩
   |exact ⟨h0,h1z⟩
   |exact fun _=>⟨h0,h1z⟩
   |exact h _ rfl hz
   |(refine ⟨fun hc=>?_,fun hc=>?_⟩<;>first|replace h:=h.1 hc|replace h:=h.2 hc)
   |(refine ⟨h.1,?_⟩; replace h:=h.2)
   |refine ⟨⟨h0,h1⟩,?_⟩
   |exact h.1
   |exact h.2.1
   |exact h.2.2.1
   |refine ⟨?_,?_⟩
   |(intro (hc:_=true); replace h:=h.1 hc)
   |(intro (hc:_=false); replace h:=h.2 hc)
   |(replace h:=h.2)
 ·rintro ⟨⟨i,s⟩,m⟩ hg h1 Q h;have hz:m.1.2.1.length=m.2.1.2.1.length:=hg;exact ⟨fun hn=>absurd (ua5 hn) (qfs hz h1),fun _=>h⟩
def yf2 (Γ:Gm):St->Option Tr:=vm.han Γ vm.M (FL qbv qb7 qk7 qs6 Rd.back qup qo4)
def zbp (y:vm.M.X):qi0 ⊕ vm.R.X:=goL qbv ((qb7 y).2.1.drop (qb7 y).1.toNat) (qb7 y).2.2
def zt0 (y:vm.M.X):Prop:=okL qbv ((qb7 y).2.1.drop (qb7 y).1.toNat) (qb7 y).2.2
abbrev yxg:Pt:=⟨31,0,⟨[(3,.d i64)],[.x 1 76 qt,.r 1 1 0]⟩,⟨[],[.x 1 76 qt,.r 1 1 0]⟩,⟨[(2,.d .bool)],[]⟩⟩
def yzj (x:yxg.M.X):Fr yxg.Out:=
 Fr.br (decide (x.1.1<((List.length x.2.1.2.1):Int))) (Fr.need (0<=x.1.1/\x.1.1<((List.length x.2.1.2.1):Int)) (Fr.need (decide ((List.getD x.2.1.2.1 (Int.toNat x.1.1) zh.dflt).2.2.1 < -1000000000000000)=false->0<=x.1.1/\x.1.1<((List.length x.2.1.2.1):Int)) (Fr.br (bif decide ((List.getD x.2.1.2.1 (Int.toNat x.1.1) zh.dflt).2.2.1 < -1000000000000000) then true else decide ((List.getD x.2.1.2.1 (Int.toNat x.1.1) zh.dflt).2.2.1>1000000000000000)) (Fr.val (Rd.back ((false,()),()))) (Fr.val (Rd.next ((IntKind.i64.wrap (x.1.1+1),()),x.2.1,())))))) (Fr.val (Rd.out ((),x.2.1,())))
theorem jal:qf Tryz.prog (qo Tryz.f33 0) yxg.M yxg yzj:=
 qf.of_run qcx (bs:=0) (Λ:=qq) rfl rfl rfl (fun E=>qe _ 0) (fun x=>by kernel_rfl)
abbrev yx1:Type:=qn []×jd [.x 1 76 qt,.r 1 1 0]
def yxl (e:zh.den) (s:yx1):Fr (yx1 ⊕ yxg.R.X):=
 Fr.br (bif decide (e.2.2.1 < -1000000000000000) then true else decide (e.2.2.1>1000000000000000)) (Fr.val (.inr ((false,()),()))) (Fr.val (.inl ((),s.2.1,())))
def yxm (x:yxg.M.X):Int×List zh.den×yx1:=(x.1.1,x.2.1.2.1,x.1.2,x.2)
def yx7 (x:yxg.M.X):Prop:=True
def yx4 (s:yx1):yxg.E.X:=((),s.2.1,())
def yx9:yx1:=(dfP _,dfM _)
def yx8:yxg.R.X:=(dfP _,dfM _)
theorem yz3:qf Tryz.prog (.loop (qo Tryz.f33 0)) yxg.M yxg (FL yxl yxm yx7 yx4 Rd.back yx9 yx8):=by
 refine qf.list jal yxl yxm yx7 yx4 Rd.back yx9 yx8 ?_ ?_
 ·rintro ⟨⟨i,s⟩,m⟩ hg h0 h1 hb e he Q h;have h0:0<=i:=h0;have h1:i<(m.1.2.1.length:Int):=h1;have hb:(m.1.2.1.length:Int)<=9223372036854775807:=hb;have hd:m.1.2.1.getD i.toNat zh.dflt=e:=zp he;have hw:=zu h0 h1 hb;dsimp only [yxm,yxl,yzj,Fr.satP] at h ⊢;simp only [hd,hw] at h ⊢;refine ⟨fun _=>?_,fun hn=>absurd h1 (of_decide_eq_false hn)⟩
  repeat' first
   |exact h
   |exact ⟨h0,h1⟩
   |exact fun _=>⟨h0,h1⟩
   |exact h _ rfl trivial
   |(refine ⟨fun hc=>?_,fun hc=>?_⟩<;>first|replace h:=h.1 hc|replace h:=h.2 hc)
   |(refine ⟨h.1,?_⟩; replace h:=h.2)
   |refine ⟨⟨h0,h1⟩,?_⟩
   |exact h.1
   |exact h.2.1
   |exact h.2.2.1
   |refine ⟨?_,?_⟩
   |(intro (hc:_=true); replace h:=h.1 hc)
   |(intro (hc:_=false); replace h:=h.2 hc)
   |(replace h:=h.2)
 ·rintro ⟨⟨i,s⟩,m⟩ hg h1 Q h;exact ⟨fun hn=>absurd (ua5 hn) h1,fun _=>h⟩
def jbc (Γ:Gm):St->Option Tr:=yxg.han Γ yxg.M (FL yxl yxm yx7 yx4 Rd.back yx9 yx8)
def yxt (y:yxg.M.X):yx1 ⊕ yxg.R.X:=goL yxl ((yxm y).2.1.drop (yxm y).1.toNat) (yxm y).2.2
def jai (y:yxg.M.X):Prop:=okL yxl ((yxm y).2.1.drop (yxm y).1.toNat) (yxm y).2.2
abbrev vk:Pt:=⟨26,0,⟨[(5,.d i64),(0,.d jg),(1,.d jg)],[]⟩,⟨[],[]⟩,⟨[(4,.d .bool)],[]⟩⟩
def zet (x:vk.M.X):Fr vk.Out:=
 Fr.br (decide (x.1.1<((List.length x.1.2.1):Int))) (Fr.need (0<=x.1.1/\x.1.1<((List.length x.1.2.1):Int)) (Fr.need (0<=x.1.1/\x.1.1<((List.length x.1.2.2.1):Int)) (Fr.br (List.getD x.1.2.1 (Int.toNat x.1.1) i64.dflt != List.getD x.1.2.2.1 (Int.toNat x.1.1) i64.dflt) (Fr.val (Rd.back ((false,()),()))) (Fr.val (Rd.next ((IntKind.i64.wrap (x.1.1+1),x.1.2.1,x.1.2.2.1,()),())))))) (Fr.val (Rd.out ((),())))
theorem zuy:qf Tryz.prog (qo Tryz.f102 0) vk.M vk zet:=
 qf.of_run qcx (bs:=0) (Λ:=qq) rfl rfl rfl (fun E=>qe _ 0) (fun x=>by kernel_rfl)
abbrev qiy:Type:=qn [.d jg]×jd []
def qbt (e:(i64.den×i64.den)) (s:qiy):Fr (qiy ⊕ vk.R.X):=
 Fr.br (e.1 != e.2) (Fr.val (.inr ((false,()),()))) (Fr.val (.inl ((s.1.1,()),())))
def qb5 (x:vk.M.X):Int×List (i64.den×i64.den)×qiy:=(x.1.1,x.1.2.1.zip x.1.2.2.1,x.1.2.2,x.2)
def qk5 (x:vk.M.X):Prop:=x.1.2.1.length=x.1.2.2.1.length
def qs4 (s:qiy):vk.E.X:=((),())
def qum:qiy:=(dfP _,dfM _)
def qo2:vk.R.X:=(dfP _,dfM _)
theorem zn7:qf Tryz.prog (.loop (qo Tryz.f102 0)) vk.M vk (FL qbt qb5 qk5 qs4 Rd.back qum qo2):=by
 refine qf.list zuy qbt qb5 qk5 qs4 Rd.back qum qo2 ?_ ?_
 ·rintro ⟨⟨i,l,s⟩,m⟩ hg h0 h1 hb e he Q h;have hz:l.length=s.1.length:=hg;have h0:0<=i:=h0;have h1:i<(l.length:Int):=qhw hz h1;have hb:(l.length:Int)<=9223372036854775807:=qhv hz hb;have h1z:i<(s.1.length:Int):=by rw [← hz]; exact h1
  have hd:l.getD i.toNat i64.dflt=e.1:=zp (qfr he);have hdz:s.1.getD i.toNat i64.dflt=e.2:=zp (qft he);have hw:=zu h0 h1 hb;dsimp only [qb5,qbt,zet,Fr.satP] at h ⊢;simp only [hd,hw,hdz] at h ⊢;refine ⟨fun _=>?_,fun hn=>absurd h1 (of_decide_eq_false hn)⟩
  repeat' first
   |exact h
   |exact ⟨h0,h1⟩
   |exact fun _=>⟨h0,h1⟩
   |exact ⟨h0,h1z⟩
   |exact fun _=>⟨h0,h1z⟩
   |exact h _ rfl hz
   |(refine ⟨fun hc=>?_,fun hc=>?_⟩<;>first|replace h:=h.1 hc|replace h:=h.2 hc)
   |(refine ⟨h.1,?_⟩; replace h:=h.2)
   |refine ⟨⟨h0,h1⟩,?_⟩
   |exact h.1
   |exact h.2.1
   |exact h.2.2.1
   |refine ⟨?_,?_⟩
   |(intro (hc:_=true); replace h:=h.1 hc)
   |(intro (hc:_=false); replace h:=h.2 hc)
   |(replace h:=h.2)
 ·rintro ⟨⟨i,l,s⟩,m⟩ hg h1 Q h;have hz:l.length=s.1.length:=hg;exact ⟨fun hn=>absurd (ua5 hn) (qfs hz h1),fun _=>h⟩
def yf0 (Γ:Gm):St->Option Tr:=vk.han Γ vk.M (FL qbt qb5 qk5 qs4 Rd.back qum qo2)
def zbn (y:vk.M.X):qiy ⊕ vk.R.X:=goL qbt ((qb5 y).2.1.drop (qb5 y).1.toNat) (qb5 y).2.2
def zty (y:vk.M.X):Prop:=okL qbt ((qb5 y).2.1.drop (qb5 y).1.toNat) (qb5 y).2.2
abbrev kb:Pt:=⟨26,0,⟨[(5,.d i64),(0,.d (.sl qy)),(1,.d (.sl qy))],[]⟩,⟨[],[]⟩,⟨[(4,.d .bool)],[]⟩⟩
def zar (x:kb.M.X):Fr kb.Out:=
 Fr.br (decide (x.1.1<((List.length x.1.2.1):Int))) (Fr.need (0<=x.1.1/\x.1.1<((List.length x.1.2.1):Int)) (Fr.need (0<=x.1.1/\x.1.1<((List.length x.1.2.2.1):Int)) (Fr.br (!((List.getD x.1.2.1 (Int.toNat x.1.1) qy.dflt).1==(List.getD x.1.2.2.1 (Int.toNat x.1.1) qy.dflt).1&&((List.getD x.1.2.1 (Int.toNat x.1.1) qy.dflt).2.1==(List.getD x.1.2.2.1 (Int.toNat x.1.1) qy.dflt).2.1&&true))) (Fr.val (Rd.back ((false,()),()))) (Fr.val (Rd.next ((IntKind.i64.wrap (x.1.1+1),x.1.2.1,x.1.2.2.1,()),())))))) (Fr.val (Rd.out ((),())))
theorem zop:qf Tryz.prog (qo Tryz.f101 0) kb.M kb zar:=
 qf.of_run qcx (bs:=0) (Λ:=qq) rfl rfl rfl (fun E=>qe _ 0) (fun x=>by kernel_rfl)
abbrev qha:Type:=qn [.d (.sl qy)]×jd []
def qas (e:(qy.den×qy.den)) (s:qha):Fr (qha ⊕ kb.R.X):=
 Fr.br (!(e.1.1==e.2.1&&(e.1.2.1==e.2.2.1&&true))) (Fr.val (.inr ((false,()),()))) (Fr.val (.inl ((s.1.1,()),())))
def qax (x:kb.M.X):Int×List (qy.den×qy.den)×qha:=(x.1.1,x.1.2.1.zip x.1.2.2.1,x.1.2.2,x.2)
def qjf (x:kb.M.X):Prop:=x.1.2.1.length=x.1.2.2.1.length
def qqr (s:qha):kb.E.X:=((),())
def qsc:qha:=(dfP _,dfM _)
def qmx:kb.R.X:=(dfP _,dfM _)
theorem zle:qf Tryz.prog (.loop (qo Tryz.f101 0)) kb.M kb (FL qas qax qjf qqr Rd.back qsc qmx):=by
 refine qf.list zop qas qax qjf qqr Rd.back qsc qmx ?_ ?_
 ·rintro ⟨⟨i,l,s⟩,m⟩ hg h0 h1 hb e he Q h;have hz:l.length=s.1.length:=hg;have h0:0<=i:=h0;have h1:i<(l.length:Int):=qhw hz h1;have hb:(l.length:Int)<=9223372036854775807:=qhv hz hb;have h1z:i<(s.1.length:Int):=by rw [← hz]; exact h1
  have hd:l.getD i.toNat qy.dflt=e.1:=zp (qfr he);have hdz:s.1.getD i.toNat qy.dflt=e.2:=zp (qft he);have hw:=zu h0 h1 hb;dsimp only [qax,qas,zar,Fr.satP] at h ⊢;simp only [hd,hw,hdz] at h ⊢;refine ⟨fun _=>?_,fun hn=>absurd h1 (of_decide_eq_false hn)⟩
  repeat' first
   |exact h
   |exact ⟨h0,h1⟩
   |exact fun _=>⟨h0,h1⟩
   |exact ⟨h0,h1z⟩
   |exact fun _=>⟨h0,h1z⟩
   |exact h _ rfl hz
   |(refine ⟨fun hc=>?_,fun hc=>?_⟩<;>first|replace h:=h.1 hc|replace h:=h.2 hc)
   |(refine ⟨h.1,?_⟩; replace h:=h.2)
   |refine ⟨⟨h0,h1⟩,?_⟩
   |exact h.1
   |exact h.2.1
   |exact h.2.2.1
   |refine ⟨?_,?_⟩
   |(intro (hc:_=true); replace h:=h.1 hc)
   |(intro (hc:_=false); replace h:=h.2 hc)
   |(replace h:=h.2)
 ·rintro ⟨⟨i,l,s⟩,m⟩ hg h1 Q h;have hz:l.length=s.1.length:=hg;exact ⟨fun hn=>absurd (ua5 hn) (qfs hz h1),fun _=>h⟩
def yaa (Γ:Gm):St->Option Tr:=kb.han Γ kb.M (FL qas qax qjf qqr Rd.back qsc qmx)
def qx6 (y:kb.M.X):qha ⊕ kb.R.X:=goL qas ((qax y).2.1.drop (qax y).1.toNat) (qax y).2.2
def zoh (y:kb.M.X):Prop:=okL qas ((qax y).2.1.drop (qax y).1.toNat) (qax y).2.2
def zem (x:qn [.d qt,.d qt]):Fr (qi [.bool]):=
 Fr.br (bif !(x.1.1.1==x.2.1.1.1&&(x.1.1.2.1==x.2.1.1.2.1&&(x.1.1.2.2.1==x.2.1.1.2.2.1&&(x.1.1.2.2.2.1==x.2.1.1.2.2.2.1&&(x.1.1.2.2.2.2.1==x.2.1.1.2.2.2.2.1&&(x.1.1.2.2.2.2.2.1==x.2.1.1.2.2.2.2.2.1&&true)))))) then true else ((List.length x.1.2.1):Int) != ((List.length x.2.1.2.1):Int)) (Fr.val (false,())) (Fr.need (InL (qk7 ((0,()),x.1,x.2.1,())) (qb7 ((0,()),x.1,x.2.1,()))) (Fr.need (zt0 ((0,()),x.1,x.2.1,())) (Fr.br (isL (zbp ((0,()),x.1,x.2.1,()))) (Fr.val (true,())) (Fr.val ((jk qo4 (zbp ((0,()),x.1,x.2.1,()))).1.1,())))))
theorem zj2:qa Tryz.prog 39 ⟨[.d qt,.d qt],[.bool],fun xs=>(zem xs).get,fun xs=>[(zem xs).ok]⟩:=
 qg qcx (Λ:=(fun _=>yf2 zqy.Γ)) (fn:=Tryz.f39) (dfP [.d qt,.d qt]) (by kernel_rfl) (fun c E hc=>jb hc (by kernel_rfl) (b:=qo Tryz.f39 0) (by kernel_rfl) (qf.han qcx rfl zn9)) (fun x=>by kernel_rfl)
def yzh (x:qn [.d qt]):Fr (qi [.bool]):=
 Fr.need (InL (yx7 ((0,()),x.1,())) (yxm ((0,()),x.1,()))) (Fr.need (jai ((0,()),x.1,())) (Fr.br (isL (yxt ((0,()),x.1,()))) (Fr.val (decide (((List.length (yx4 (qap yx9 (yxt ((0,()),x.1,())))).2.1.2.1):Int)<=100),())) (Fr.val ((jk yx8 (yxt ((0,()),x.1,()))).1.1,()))))
theorem yzs:qa Tryz.prog 33 ⟨[.d qt],[.bool],fun xs=>(yzh xs).get,fun xs=>[(yzh xs).ok]⟩:=
 qg qcx (Λ:=(fun _=>jbc zqy.Γ)) (fn:=Tryz.f33) (dfP [.d qt]) (by kernel_rfl) (fun c E hc=>jb hc (by kernel_rfl) (b:=qo Tryz.f33 0) (by kernel_rfl) (qf.han qcx rfl yz3)) (fun x=>by kernel_rfl)
def zek (x:qn [.d jg,.d jg]):Fr (qi [.bool]):=
 Fr.br (((List.length x.1):Int) != ((List.length x.2.1):Int)) (Fr.val (false,())) (Fr.need (InL (qk5 ((0,x.1,x.2.1,()),())) (qb5 ((0,x.1,x.2.1,()),()))) (Fr.need (zty ((0,x.1,x.2.1,()),())) (Fr.br (isL (zbn ((0,x.1,x.2.1,()),()))) (Fr.val (true,())) (Fr.val ((jk qo2 (zbn ((0,x.1,x.2.1,()),()))).1.1,())))))
theorem zj0:qa Tryz.prog 102 ⟨[.d jg,.d jg],[.bool],fun xs=>(zek xs).get,fun xs=>[(zek xs).ok]⟩:=
 qg qcx (Λ:=(fun _=>yf0 zqy.Γ)) (fn:=Tryz.f102) (dfP [.d jg,.d jg]) (by kernel_rfl) (fun c E hc=>jb hc (by kernel_rfl) (b:=qo Tryz.f102 0) (by kernel_rfl) (qf.han qcx rfl zn7)) (fun x=>by kernel_rfl)
def qz7 (x:qn [.d (.sl qy),.d (.sl qy)]):Fr (qi [.bool]):=
 Fr.br (((List.length x.1):Int) != ((List.length x.2.1):Int)) (Fr.val (false,())) (Fr.need (InL (qjf ((0,x.1,x.2.1,()),())) (qax ((0,x.1,x.2.1,()),()))) (Fr.need (zoh ((0,x.1,x.2.1,()),())) (Fr.br (isL (qx6 ((0,x.1,x.2.1,()),()))) (Fr.val (true,())) (Fr.val ((jk qmx (qx6 ((0,x.1,x.2.1,()),()))).1.1,())))))
theorem zf8:qa Tryz.prog 101 ⟨[.d (.sl qy),.d (.sl qy)],[.bool],fun xs=>(qz7 xs).get,fun xs=>[(qz7 xs).ok]⟩:=
 qg qcx (Λ:=(fun _=>yaa zqy.Γ)) (fn:=Tryz.f101) (dfP [.d (.sl qy),.d (.sl qy)]) (by kernel_rfl) (fun c E hc=>jb hc (by kernel_rfl) (b:=qo Tryz.f101 0) (by kernel_rfl) (qf.han qcx rfl zle)) (fun x=>by kernel_rfl)
theorem qkx {σ ρ:Type} {good ok:Prop} {g:σ ⊕ ρ} {v:ρ->Bool} {d:ρ} {s1:σ} {c:ρ} {b:Bool} (hg:good) (ho:ok) (h:g=if b=true then .inl s1 else .inr c) (hc:v c=false) :
  (Fr.need good (Fr.need ok (Fr.br (isL g) (Fr.val ((true,()):qi [.bool])) (Fr.val (v (jk d g),()))))).ok/\(Fr.need good (Fr.need ok (Fr.br (isL g) (Fr.val ((true,()):qi [.bool])) (Fr.val (v (jk d g),()))))).get=(b,()):=by
 cases b
 ·have h':g = .inr c:=h;subst h';exact Fr.need_ hg (Fr.need_ ho (Fr.br_f rfl ⟨trivial,by show (v c,())=_; rw [hc]⟩))
 ·have h':g = .inl s1:=h;subst h';exact Fr.need_ hg (Fr.need_ ho (Fr.br_t rfl ⟨trivial,rfl⟩))
theorem qp4 {α β:Type} (a:List α) (b:List β) {n:Int} (h:((List.length a:Nat):Int)<=n):((List.length (a.zip b):Nat):Int)<=n:=by
 rw [ue7]; omega
theorem yxj {α:Type} {p:α×α->Bool}:(a:List α)->(∀ x∈a,p (x,x)=true)->(a.zip a).all p=true
 |[],_=>rfl
 |x::a,h=>by
  rw [List.zip_cons_cons,uc8,h x ubk,ud9];exact yxj a (fun y hy=>h y (ua8 _ hy))
def yeq (a b:List Int):Bool:=bif ((List.length a:Nat):Int) != ((List.length b:Nat):Int) then false else (a.zip b).all fun e=>!(e.1 != e.2)
def ziv:Ct:=⟨[.d jg,.d jg],[.bool],fun x=>(yeq x.1 x.2.1,()),fun _=>[]⟩
theorem qpn {m n:Nat} (h:(((m:Nat):Int) != ((n:Nat):Int))=false):m=n:=by
 have:((m:Nat):Int)=((n:Nat):Int):=by simpa using h
 omega
theorem zy9:qa Tryz.prog 102 ziv:=conv zj0 _ _ (fun w F x vs hr _=>by
 obtain ⟨a,b,_⟩:=x;obtain ⟨v,vs',rfl,hv,_⟩:=hr;have hlen:((List.length (α:=Int) a:Nat):Int)<=9223372036854775807:=qcn hv;show _/\_=(yeq a b,());unfold yeq;cases h:((List.length (α:=Int) a:Nat):Int) != ((List.length (α:=Int) b:Nat):Int)
 ·refine Fr.br_f h (qkx (v:=fun r=>r.1.1) (s1:=((b,()),())) (c:=((false,()),())) ⟨qpn h,ua4 _,uak _,qp4 a b hlen⟩ (qc8 (step:=qbt) _ (fun e _ s=>⟨fun _=>trivial,fun _=>trivial⟩) _) ?_ rfl);show goL qbt (List.drop 0 (a.zip b)) _=_;rw [uc7,qc7 (step:=qbt) (I:=fun _=>True) (p:=fun e=>!(e.1 != e.2)) (c:=((false,()),())) (fun e s _=>?_) _ _ trivial]
  ·cases (a.zip b).all fun e=>!(e.1 != e.2)<;>rfl
  ·show (Fr.br (e.1 != e.2) _ _).get=_;cases e.1 != e.2<;>rfl
 ·exact Fr.br_t h ⟨trivial,rfl⟩)
theorem yzz (a:List Int):yeq a a=true:=by
 unfold yeq;rw [show (((List.length a:Nat):Int) != ((List.length a:Nat):Int))=false by simp];exact yxj a (fun x _=>by simp)
def bdE (e:qy.den×qy.den):Bool:=e.1.1==e.2.1&&(e.1.2.1==e.2.2.1&&true)
def ya3 (a b:List qy.den):Bool:=bif ((List.length a:Nat):Int) != ((List.length b:Nat):Int) then false else (a.zip b).all bdE
def zrg:Ct:=⟨[.d (.sl qy),.d (.sl qy)],[.bool],fun x=>(ya3 x.1 x.2.1,()),fun _=>[]⟩
theorem zrb:qa Tryz.prog 101 zrg:=conv zf8 _ _ (fun w F x vs hr _=>by
 obtain ⟨a,b,_⟩:=x;obtain ⟨v,vs',rfl,hv,_⟩:=hr;have hlen:((List.length (α:=qy.den) a:Nat):Int)<=9223372036854775807:=qcn hv;show _/\_=(ya3 a b,());unfold ya3;cases h:((List.length (α:=qy.den) a:Nat):Int) != ((List.length (α:=qy.den) b:Nat):Int)
 ·refine Fr.br_f h (qkx (v:=fun r=>r.1.1) (s1:=((b,()),())) (c:=((false,()),())) ⟨qpn h,ua4 _,uak _,qp4 a b hlen⟩ (qc8 (step:=qas) _ (fun e _ s=>⟨fun _=>trivial,fun _=>trivial⟩) _) ?_ rfl);show goL qas (List.drop 0 (a.zip b)) _=_;rw [uc7,qc7 (step:=qas) (I:=fun _=>True) (p:=bdE) (c:=((false,()),())) (fun e s _=>?_) _ _ trivial]
  ·cases (a.zip b).all bdE<;>rfl
  ·show (Fr.br (!(bdE e)) _ _).get=_;cases bdE e<;>rfl
 ·exact Fr.br_t h ⟨trivial,rfl⟩)
theorem ja2 (a:List qy.den):ya3 a a=true:=by
 unfold ya3;rw [show (((List.length a:Nat):Int) != ((List.length a:Nat):Int))=false by simp];exact yxj a (fun x _=>by simp [bdE])
def acE (e:zh.den×zh.den):Bool:=e.1.1==e.2.1&&(e.1.2.1==e.2.2.1&&(e.1.2.2.1==e.2.2.2.1&&true))
def clE (a b:jx.den):Bool:=a.1==b.1&&(a.2.1==b.2.1&&(a.2.2.1==b.2.2.1&&(a.2.2.2.1==b.2.2.2.1&&(a.2.2.2.2.1==b.2.2.2.2.1&&(a.2.2.2.2.2.1==b.2.2.2.2.2.1&&true)))))
def qvw (a b:qt.den):Bool:=bif bif !(clE a.1 b.1) then true else ((List.length (α:=zh.den) a.2.1:Nat):Int) != ((List.length (α:=zh.den) b.2.1:Nat):Int) then false else (List.zip (α:=zh.den) (β:=zh.den) a.2.1 b.2.1).all acE
def ziw:Ct:=⟨[.d qt,.d qt],[.bool],fun x=>(qvw x.1 x.2.1,()),fun _=>[]⟩
theorem orF {a b:Bool} (h:(bif a then true else b)=false):a=false/\b=false:=by cases a<;>cases b<;>first|exact ⟨rfl,rfl⟩|cases h
theorem zzb:qa Tryz.prog 39 ziw:=conv zj2 _ _ (fun w F x vs hr _=>by
 obtain ⟨a,b,_⟩:=x;obtain ⟨v,vs',rfl,hv,_⟩:=hr;have hlen:=zpn hv;show _/\_=(qvw a b,());unfold qvw;cases h:(bif !(clE a.1 b.1) then true else ((List.length (α:=zh.den) a.2.1:Nat):Int) != ((List.length (α:=zh.den) b.2.1:Nat):Int))
 ·refine Fr.br_f h (qkx (v:=fun r=>r.1.1) (s1:=((),a,b,())) (c:=((false,()),())) ⟨qpn (orF h).2,ua4 _,uak _,qp4 _ _ hlen⟩ (qc8 (step:=qbv) _ (fun e _ s=>⟨fun _=>trivial,fun _=>trivial⟩) _) ?_ rfl);show goL qbv (List.drop 0 (List.zip (α:=zh.den) (β:=zh.den) a.2.1 b.2.1)) _=_;rw [uc7,qc7 (step:=qbv) (I:=fun _=>True) (p:=acE) (c:=((false,()),())) (fun e s _=>?_) _ _ trivial]
  ·cases (List.zip (α:=zh.den) (β:=zh.den) a.2.1 b.2.1).all acE<;>rfl
  ·show (Fr.br (!(acE e)) _ _).get=_;cases acE e<;>rfl
 ·exact Fr.br_t h ⟨trivial,rfl⟩)
theorem ja8 (a:qt.den):qvw a a=true:=by
 unfold qvw;rw [show (bif !(clE a.1 a.1) then true else ((List.length (α:=zh.den) a.2.1:Nat):Int) != ((List.length (α:=zh.den) a.2.1:Nat):Int))=false by simp [clE]];exact yxj (α:=zh.den) a.2.1 (fun x _=>by simp [acE])
noncomputable def ysc:Cx:=cx [(103,qhj),(102,ziv),(101,zrg)] []
theorem zce:CxOK Tryz.prog ysc:=zc (cs:=[(103,qhj),(102,ziv),(101,zrg)]) (ps:=[]) qv ⟨zbr,zy9,zrb,trivial⟩ trivial
def qyz (x:qn [.d qw,.d qw]):Fr (qi [.bool]):=
 Fr.val (bif bif bif bif bif x.1.1==x.2.1.1 then x.1.2.1.1==x.2.1.2.1.1&&(x.1.2.1.2.1==x.2.1.2.1.2.1&&(x.1.2.1.2.2.1==x.2.1.2.1.2.2.1&&(x.1.2.1.2.2.2.1==x.2.1.2.1.2.2.2.1&&true))) else false then x.1.2.2.2.2.2.1==x.2.1.2.2.2.2.2.1 else false then (zrg.f (x.1.2.2.1,x.2.1.2.2.1,())).1 else false then (ziv.f (x.1.2.2.2.1,x.2.1.2.2.2.1,())).1 else false then (ziv.f (x.1.2.2.2.2.1,x.2.1.2.2.2.2.1,())).1 else false,())
theorem znv:qa Tryz.prog 64 ⟨[.d qw,.d qw],[.bool],fun xs=>(qyz xs).get,fun xs=>[(qyz xs).ok]⟩:=
 qg zce (Λ:=qq) (fn:=Tryz.f64) (dfP [.d qw,.d qw]) (by kernel_rfl) (fun c E _=>qe c 0) (fun x=>by kernel_rfl)
def quw (x:qn [.d qd,.d qd]):Fr (qi [.bool]):=
 Fr.val (bif bif bif bif bif (qhj.f (x.1.2.2.2.2.1,x.2.1.2.2.2.2.1,())).1 then x.1.1==x.2.1.1 else false then x.1.2.1==x.2.1.2.1 else false then x.1.2.2.1==x.2.1.2.2.1 else false then x.1.2.2.2.1.1==x.2.1.2.2.2.1.1&&(x.1.2.2.2.1.2.1==x.2.1.2.2.2.1.2.1&&(x.1.2.2.2.1.2.2.1==x.2.1.2.2.2.1.2.2.1&&(x.1.2.2.2.1.2.2.2.1==x.2.1.2.2.2.1.2.2.2.1&&true))) else false then x.1.2.2.2.2.2.1==x.2.1.2.2.2.2.2.1 else false,())
theorem zj3:qa Tryz.prog 66 ⟨[.d qd,.d qd],[.bool],fun xs=>(quw xs).get,fun xs=>[(quw xs).ok]⟩:=
 qg zce (Λ:=qq) (fn:=Tryz.f66) (dfP [.d qd,.d qd]) (by kernel_rfl) (fun c E _=>qe c 0) (fun x=>by kernel_rfl)
def qux (x:qn [.d zo,.d zo]):Fr (qi [.bool]):=
 Fr.val (bif bif (qhj.f (x.1.2.2.1,x.2.1.2.2.1,())).1 then x.1.1.1==x.2.1.1.1&&(x.1.1.2.1==x.2.1.1.2.1&&true) else false then x.1.2.1.1==x.2.1.2.1.1&&(x.1.2.1.2.1==x.2.1.2.1.2.1&&(x.1.2.1.2.2.1==x.2.1.2.1.2.2.1&&(x.1.2.1.2.2.2.1==x.2.1.2.1.2.2.2.1&&true))) else false,())
theorem zj5:qa Tryz.prog 65 ⟨[.d zo,.d zo],[.bool],fun xs=>(qux xs).get,fun xs=>[(qux xs).ok]⟩:=
 qg zce (Λ:=qq) (fn:=Tryz.f65) (dfP [.d zo,.d zo]) (by kernel_rfl) (fun c E _=>qe c 0) (fun x=>by kernel_rfl)
def svF (a b:qw.den):Bool:=(qyz (a,b,())).get.1
def zdw (a b:qd.den):Bool:=(quw (a,b,())).get.1
def yps (a b:zo.den):Bool:=(qux (a,b,())).get.1
def cSV:Ct:=⟨[.d qw,.d qw],[.bool],fun x=>(svF x.1 x.2.1,()),fun _=>[]⟩
def zix:Ct:=⟨[.d qd,.d qd],[.bool],fun x=>(zdw x.1 x.2.1,()),fun _=>[]⟩
def zrp:Ct:=⟨[.d zo,.d zo],[.bool],fun x=>(yps x.1 x.2.1,()),fun _=>[]⟩
theorem yru:qa Tryz.prog 64 cSV:=conv znv _ _ (fun _ _ _ _ _ _=>⟨trivial,rfl⟩)
theorem ypi:qa Tryz.prog 66 zix:=conv zj3 _ _ (fun _ _ _ _ _ _=>⟨trivial,rfl⟩)
theorem ypt:qa Tryz.prog 65 zrp:=conv zj5 _ _ (fun _ _ _ _ _ _=>⟨trivial,rfl⟩)
theorem yzb (l:List qc.den):qbb l l=true:=by
 rw [qvy rfl];exact yxj l (fun x _=>by simp [qdm])
theorem yy6 (b:Bool):(Fr.val ((b,()):qi [.bool])).get.1=b:=rfl
theorem jbo (a:qw.den):svF a a=true:=by
 have h1:=ja2 a.2.2.1;have h2:=yzz a.2.2.2.1;have h3:=yzz a.2.2.2.2.1;unfold svF qyz;rw [yy6];simp only [zrg,ziv,qfv];rw [h1,h2,h3];simp
theorem jba (a:qd.den):zdw a a=true:=by
 have h1:=yzb a.2.2.2.2.1;unfold zdw quw;rw [yy6];simp only [qhj,qfv];rw [h1];simp
theorem jbb (a:zo.den):yps a a=true:=by
 have h1:=yzb a.2.2.1;unfold yps qux;rw [yy6];simp only [qhj,qfv];rw [h1];simp
noncomputable def ysd:Cx:=cx [(64,cSV),(66,zix)] []
theorem zoz:CxOK Tryz.prog ysd:=zc (cs:=[(64,cSV),(66,zix)]) (ps:=[]) qv ⟨yru,ypi,trivial⟩ trivial
abbrev vl:Pt:=⟨32,0,⟨[(5,.d i64)],[.x 2 24 ze,.r 2 2 0,.x 3 24 ze,.r 3 3 0]⟩,⟨[],[]⟩,⟨[(4,.d .bool)],[]⟩⟩
def zeu (x:vl.M.X):Fr vl.Out:=
 Fr.br (decide (x.1.1<((List.length x.2.1.1):Int))) (Fr.need (0<=x.1.1/\x.1.1<((List.length x.2.1.1):Int)) (Fr.need (0<=x.1.1/\x.1.1<((List.length x.2.2.1.1):Int)) (Fr.br (!(cSV.f ((List.getD x.2.1.1 (Int.toNat x.1.1) qw.dflt),(List.getD x.2.2.1.1 (Int.toNat x.1.1) qw.dflt),())).1) (Fr.val (Rd.back ((false,()),()))) (Fr.val (Rd.next ((IntKind.i64.wrap (x.1.1+1),()),(x.2.1.1,()),(x.2.2.1.1,()),())))))) (Fr.val (Rd.out ((),())))
theorem zuz:qf Tryz.prog (qo Tryz.f37 0) vl.M vl zeu:=
 qf.of_run zoz (bs:=0) (Λ:=qq) rfl rfl rfl (fun E=>qe _ 0) (fun x=>by kernel_rfl)
abbrev qiz:Type:=qn []×jd [.x 2 24 ze,.r 2 2 0,.x 3 24 ze,.r 3 3 0]
def qbu (e:(qw.den×qw.den)) (s:qiz):Fr (qiz ⊕ vl.R.X):=
 Fr.br (!(cSV.f (e.1,e.2,())).1) (Fr.val (.inr ((false,()),()))) (Fr.val (.inl ((),(s.2.1.1,()),(s.2.2.1.1,()),())))
def qb6 (x:vl.M.X):Int×List (qw.den×qw.den)×qiz:=(x.1.1,x.2.1.1.zip x.2.2.1.1,x.1.2,x.2)
def qk6 (x:vl.M.X):Prop:=x.2.1.1.length=x.2.2.1.1.length
def qs5 (s:qiz):vl.E.X:=((),())
def qun:qiz:=(dfP _,dfM _)
def qo3:vl.R.X:=(dfP _,dfM _)
theorem zn8:qf Tryz.prog (.loop (qo Tryz.f37 0)) vl.M vl (FL qbu qb6 qk6 qs5 Rd.back qun qo3):=by
 refine qf.list zuz qbu qb6 qk6 qs5 Rd.back qun qo3 ?_ ?_
 ·rintro ⟨⟨i,s⟩,m⟩ hg h0 h1 hb e he Q h;have hz:m.1.1.length=m.2.1.1.length:=hg;have h0:0<=i:=h0;have h1:i<(m.1.1.length:Int):=qhw hz h1;have hb:(m.1.1.length:Int)<=9223372036854775807:=qhv hz hb;have h1z:i<(m.2.1.1.length:Int):=by rw [← hz]; exact h1
  have hd:m.1.1.getD i.toNat qw.dflt=e.1:=zp (qfr he);have hdz:m.2.1.1.getD i.toNat qw.dflt=e.2:=zp (qft he);have hw:=zu h0 h1 hb;dsimp only [qb6,qbu,zeu,Fr.satP] at h ⊢;simp only [hd,hw,hdz] at h ⊢;refine ⟨fun _=>?_,fun hn=>absurd h1 (of_decide_eq_false hn)⟩
  repeat' first
   |exact h
   |exact ⟨h0,h1⟩
   |exact fun _=>⟨h0,h1⟩
   |exact ⟨h0,h1z⟩
   |exact fun _=>⟨h0,h1z⟩
   |exact h _ rfl hz
   |(refine ⟨fun hc=>?_,fun hc=>?_⟩<;>first|replace h:=h.1 hc|replace h:=h.2 hc)
   |(refine ⟨h.1,?_⟩; replace h:=h.2)
   |refine ⟨⟨h0,h1⟩,?_⟩
   |exact h.1
   |exact h.2.1
   |exact h.2.2.1
   |refine ⟨?_,?_⟩
   |(intro (hc:_=true); replace h:=h.1 hc)
   |(intro (hc:_=false); replace h:=h.2 hc)
   |(replace h:=h.2)
 ·rintro ⟨⟨i,s⟩,m⟩ hg h1 Q h;have hz:m.1.1.length=m.2.1.1.length:=hg;exact ⟨fun hn=>absurd (ua5 hn) (qfs hz h1),fun _=>h⟩
def yf1 (Γ:Gm):St->Option Tr:=vl.han Γ vl.M (FL qbu qb6 qk6 qs5 Rd.back qun qo3)
def zbo (y:vl.M.X):qiz ⊕ vl.R.X:=goL qbu ((qb6 y).2.1.drop (qb6 y).1.toNat) (qb6 y).2.2
def ztz (y:vl.M.X):Prop:=okL qbu ((qb6 y).2.1.drop (qb6 y).1.toNat) (qb6 y).2.2
abbrev vn:Pt:=⟨58,0,⟨[(6,.d i64)],[.x 2 54 qm,.r 2 2 0,.x 3 54 qm,.r 3 3 0]⟩,⟨[],[]⟩,⟨[(4,.d .bool)],[]⟩⟩
def zew (x:vn.M.X):Fr vn.Out:=
 Fr.br (decide (x.1.1<((List.length x.2.1.2.2.2.1):Int))) (Fr.need (0<=x.1.1/\x.1.1<((List.length x.2.1.2.2.2.1):Int)) (Fr.need (0<=x.1.1/\x.1.1<((List.length x.2.2.1.2.2.2.1):Int)) (Fr.br (!(zix.f ((List.getD x.2.1.2.2.2.1 (Int.toNat x.1.1) qd.dflt),(List.getD x.2.2.1.2.2.2.1 (Int.toNat x.1.1) qd.dflt),())).1) (Fr.val (Rd.back ((false,()),()))) (Fr.val (Rd.next ((IntKind.i64.wrap (x.1.1+1),()),x.2.1,x.2.2.1,())))))) (Fr.val (Rd.out ((),())))
theorem zu1:qf Tryz.prog (qo Tryz.f38 0) vn.M vn zew:=
 qf.of_run zoz (bs:=0) (Λ:=qq) rfl rfl rfl (fun E=>qe _ 0) (fun x=>by kernel_rfl)
abbrev qi1:Type:=qn []×jd [.x 2 54 qm,.r 2 2 0,.x 3 54 qm,.r 3 3 0]
def qbw (e:(qd.den×qd.den)) (s:qi1):Fr (qi1 ⊕ vn.R.X):=
 Fr.br (!(zix.f (e.1,e.2,())).1) (Fr.val (.inr ((false,()),()))) (Fr.val (.inl ((),s.2.1,s.2.2.1,())))
def qb8 (x:vn.M.X):Int×List (qd.den×qd.den)×qi1:=(x.1.1,x.2.1.2.2.2.1.zip x.2.2.1.2.2.2.1,x.1.2,x.2)
def qk8 (x:vn.M.X):Prop:=x.2.1.2.2.2.1.length=x.2.2.1.2.2.2.1.length
def qs7 (s:qi1):vn.E.X:=((),())
def quq:qi1:=(dfP _,dfM _)
def qo5:vn.R.X:=(dfP _,dfM _)
theorem zoa:qf Tryz.prog (.loop (qo Tryz.f38 0)) vn.M vn (FL qbw qb8 qk8 qs7 Rd.back quq qo5):=by
 refine qf.list zu1 qbw qb8 qk8 qs7 Rd.back quq qo5 ?_ ?_
 ·rintro ⟨⟨i,s⟩,m⟩ hg h0 h1 hb e he Q h;have hz:m.1.2.2.2.1.length=m.2.1.2.2.2.1.length:=hg;have h0:0<=i:=h0;have h1:i<(m.1.2.2.2.1.length:Int):=qhw hz h1;have hb:(m.1.2.2.2.1.length:Int)<=9223372036854775807:=qhv hz hb;have h1z:i<(m.2.1.2.2.2.1.length:Int):=by rw [← hz]; exact h1
  have hd:m.1.2.2.2.1.getD i.toNat qd.dflt=e.1:=zp (qfr he);have hdz:m.2.1.2.2.2.1.getD i.toNat qd.dflt=e.2:=zp (qft he);have hw:=zu h0 h1 hb;dsimp only [qb8,qbw,zew,Fr.satP] at h ⊢;simp only [hd,hw,hdz] at h ⊢;refine ⟨fun _=>?_,fun hn=>absurd h1 (of_decide_eq_false hn)⟩
  repeat' first
   |exact h
   |exact ⟨h0,h1⟩
   |exact fun _=>⟨h0,h1⟩
   |exact ⟨h0,h1z⟩
   |exact fun _=>⟨h0,h1z⟩
   |exact h _ rfl hz
   |(refine ⟨fun hc=>?_,fun hc=>?_⟩<;>first|replace h:=h.1 hc|replace h:=h.2 hc)
   |(refine ⟨h.1,?_⟩; replace h:=h.2)
   |refine ⟨⟨h0,h1⟩,?_⟩
   |exact h.1
   |exact h.2.1
   |exact h.2.2.1
   |refine ⟨?_,?_⟩
   |(intro (hc:_=true); replace h:=h.1 hc)
   |(intro (hc:_=false); replace h:=h.2 hc)
   |(replace h:=h.2)
 ·rintro ⟨⟨i,s⟩,m⟩ hg h1 Q h;have hz:m.1.2.2.2.1.length=m.2.1.2.2.2.1.length:=hg;exact ⟨fun hn=>absurd (ua5 hn) (qfs hz h1),fun _=>h⟩
def yf3 (Γ:Gm):St->Option Tr:=vn.han Γ vn.M (FL qbw qb8 qk8 qs7 Rd.back quq qo5)
def zbq (y:vn.M.X):qi1 ⊕ vn.R.X:=goL qbw ((qb8 y).2.1.drop (qb8 y).1.toNat) (qb8 y).2.2
def zt1 (y:vn.M.X):Prop:=okL qbw ((qb8 y).2.1.drop (qb8 y).1.toNat) (qb8 y).2.2
noncomputable def yaj:Cx:=cx [(65,zrp)] []
theorem qwh:CxOK Tryz.prog yaj:=zc (cs:=[(65,zrp)]) (ps:=[]) qv ⟨ypt,trivial⟩ trivial
def zel (x:qn [.d ze,.d ze]):Fr (qi [.bool]):=
 Fr.br (((List.length x.1.1):Int) != ((List.length x.2.1.1):Int)) (Fr.val (false,())) (Fr.need (InL (qk6 ((0,()),(x.1.1,()),(x.2.1.1,()),())) (qb6 ((0,()),(x.1.1,()),(x.2.1.1,()),()))) (Fr.need (ztz ((0,()),(x.1.1,()),(x.2.1.1,()),())) (Fr.br (isL (zbo ((0,()),(x.1.1,()),(x.2.1.1,()),()))) (Fr.val (true,())) (Fr.val ((jk qo3 (zbo ((0,()),(x.1.1,()),(x.2.1.1,()),()))).1.1,())))))
theorem zj1:qa Tryz.prog 37 ⟨[.d ze,.d ze],[.bool],fun xs=>(zel xs).get,fun xs=>[(zel xs).ok]⟩:=
 qg qwh (Λ:=(fun _=>yf1 yaj.Γ)) (fn:=Tryz.f37) (dfP [.d ze,.d ze]) (by kernel_rfl) (fun c E hc=>jb hc (by kernel_rfl) (b:=qo Tryz.f37 0) (by kernel_rfl) (qf.han qwh rfl zn8)) (fun x=>by kernel_rfl)
def zen (x:qn [.d qm,.d qm]):Fr (qi [.bool]):=
 Fr.br (bif bif bif !(zrp.f (x.1.2.2.1,x.2.1.2.2.1,())).1 then true else x.1.1 != x.2.1.1 then true else x.1.2.1 != x.2.1.2.1 then true else ((List.length x.1.2.2.2.1):Int) != ((List.length x.2.1.2.2.2.1):Int)) (Fr.val (false,())) (Fr.need (InL (qk8 ((0,()),x.1,x.2.1,())) (qb8 ((0,()),x.1,x.2.1,()))) (Fr.need (zt1 ((0,()),x.1,x.2.1,())) (Fr.br (isL (zbq ((0,()),x.1,x.2.1,()))) (Fr.val (true,())) (Fr.val ((jk qo5 (zbq ((0,()),x.1,x.2.1,()))).1.1,())))))
theorem zj4:qa Tryz.prog 38 ⟨[.d qm,.d qm],[.bool],fun xs=>(zen xs).get,fun xs=>[(zen xs).ok]⟩:=
 qg qwh (Λ:=(fun _=>yf3 yaj.Γ)) (fn:=Tryz.f38) (dfP [.d qm,.d qm]) (by kernel_rfl) (fun c E hc=>jb hc (by kernel_rfl) (b:=qo Tryz.f38 0) (by kernel_rfl) (qf.han qwh rfl zoa)) (fun x=>by kernel_rfl)
def zuw (a b:ze.den):Bool:=bif ((List.length (α:=qw.den) a.1:Nat):Int) != ((List.length (α:=qw.den) b.1:Nat):Int) then false else (List.zip (α:=qw.den) (β:=qw.den) a.1 b.1).all fun e=>svF e.1 e.2
def ybh:Ct:=⟨[.d ze,.d ze],[.bool],fun x=>(zuw x.1 x.2.1,()),fun _=>[]⟩
theorem ypw {w:World} {F:Nat->Prop} {t:ze.den} {v:Value} (h:zv w F ze t v):((List.length (α:=qw.den) t.1:Nat):Int)<=9223372036854775807:=by
 have h1:List.length (α:=qw.den) t.1<=maxLen:=(qs.wf h.2.2).1.1;unfold maxLen at h1;omega
theorem yjd {w:World} {F:Nat->Prop} {t:qm.den} {v:Value} (h:zv w F qm t v):((List.length (α:=qd.den) t.2.2.2.1:Nat):Int)<=9223372036854775807:=by
 have h1:List.length (α:=qd.den) t.2.2.2.1<=maxLen:=(qs.wf h.2.2).2.2.2.1.1;unfold maxLen at h1;omega
theorem zza:qa Tryz.prog 37 ybh:=conv zj1 _ _ (fun w F x vs hr _=>by
 obtain ⟨a,b,_⟩:=x;obtain ⟨v,vs',rfl,hv,_⟩:=hr;have hlen:=ypw hv;show _/\_=(zuw a b,());unfold zuw;cases h:((List.length (α:=qw.den) a.1:Nat):Int) != ((List.length (α:=qw.den) b.1:Nat):Int)
 ·refine Fr.br_f h (qkx (v:=fun r=>r.1.1) (s1:=((),a,b,())) (c:=((false,()),())) ⟨qpn h,ua4 _,uak _,qp4 _ _ hlen⟩ (qc8 (step:=qbu) _ (fun e _ s=>⟨fun _=>trivial,fun _=>trivial⟩) _) ?_ rfl);show goL qbu (List.drop 0 (List.zip (α:=qw.den) (β:=qw.den) a.1 b.1)) _=_;rw [uc7,qc7 (step:=qbu) (I:=fun _=>True) (p:=fun e=>svF e.1 e.2) (c:=((false,()),())) (fun e s _=>?_) _ _ trivial]
  ·cases (List.zip (α:=qw.den) (β:=qw.den) a.1 b.1).all fun e=>svF e.1 e.2<;>rfl
  ·show (Fr.br (!(svF e.1 e.2)) _ _).get=_;cases svF e.1 e.2<;>rfl
 ·exact Fr.br_t h ⟨trivial,rfl⟩)
theorem ja7 (a:ze.den):zuw a a=true:=by
 unfold zuw;rw [show (((List.length (α:=qw.den) a.1:Nat):Int) != ((List.length (α:=qw.den) a.1:Nat):Int))=false by simp];exact yxj (α:=qw.den) a.1 (fun x _=>jbo x)
def shB (a b:qm.den):Bool:=bif bif bif !(yps a.2.2.1 b.2.2.1) then true else a.1 != b.1 then true else a.2.1 != b.2.1 then true else ((List.length (α:=qd.den) a.2.2.2.1:Nat):Int) != ((List.length (α:=qd.den) b.2.2.2.1:Nat):Int)
def shF (a b:qm.den):Bool:=bif shB a b then false else (List.zip (α:=qd.den) (β:=qd.den) a.2.2.2.1 b.2.2.2.1).all fun e=>zdw e.1 e.2
def cSH:Ct:=⟨[.d qm,.d qm],[.bool],fun x=>(shF x.1 x.2.1,()),fun _=>[]⟩
theorem zzc:qa Tryz.prog 38 cSH:=conv zj4 _ _ (fun w F x vs hr _=>by
 obtain ⟨a,b,_⟩:=x;obtain ⟨v,vs',rfl,hv,_⟩:=hr;have hlen:=yjd hv;show _/\_=(shF a b,());unfold shF;cases h:shB a b
 ·refine Fr.br_f h (qkx (v:=fun r=>r.1.1) (s1:=((),a,b,())) (c:=((false,()),())) ⟨qpn (orF h).2,ua4 _,uak _,qp4 _ _ hlen⟩ (qc8 (step:=qbw) _ (fun e _ s=>⟨fun _=>trivial,fun _=>trivial⟩) _) ?_ rfl);show goL qbw (List.drop 0 (List.zip (α:=qd.den) (β:=qd.den) a.2.2.2.1 b.2.2.2.1)) _=_;rw [uc7,qc7 (step:=qbw) (I:=fun _=>True) (p:=fun e=>zdw e.1 e.2) (c:=((false,()),())) (fun e s _=>?_) _ _ trivial]
  ·cases (List.zip (α:=qd.den) (β:=qd.den) a.2.2.2.1 b.2.2.2.1).all fun e=>zdw e.1 e.2<;>rfl
  ·show (Fr.br (!(zdw e.1 e.2)) _ _).get=_;cases zdw e.1 e.2<;>rfl
 ·exact Fr.br_t h ⟨trivial,rfl⟩)
theorem jbn (a:qm.den):shF a a=true:=by
 unfold shF;rw [show shB a a=false by unfold shB; rw [jbb]; simp];exact yxj (α:=qd.den) a.2.2.2.1 (fun x _=>jba x)
noncomputable def yse:Cx:=cx [(38,cSH),(39,ziw)] []
theorem zcf:CxOK Tryz.prog yse:=zc (cs:=[(38,cSH),(39,ziw)]) (ps:=[]) qv ⟨zzc,zzb,trivial⟩ trivial
abbrev jy:Pt:=⟨127,0,⟨[(6,.d i64)],[.x 2 29 stateT,.r 2 2 0,.x 3 29 stateT,.r 3 3 0]⟩,⟨[],[.x 2 29 stateT,.r 2 2 0,.x 3 29 stateT,.r 3 3 0]⟩,⟨[(4,.d .bool)],[]⟩⟩
def zex (x:jy.M.X):Fr jy.Out:=
 Fr.br (decide (x.1.1<((List.length x.2.1.2.1):Int))) (Fr.need (0<=x.1.1/\x.1.1<((List.length x.2.1.2.1):Int)) (Fr.need (0<=x.1.1/\x.1.1<((List.length x.2.2.1.2.1):Int)) (Fr.need ((!(cSH.f ((List.getD x.2.1.2.1 (Int.toNat x.1.1) zf.dflt).1,(List.getD x.2.2.1.2.1 (Int.toNat x.1.1) zf.dflt).1,())).1)=false->0<=x.1.1/\x.1.1<((List.length x.2.1.2.1):Int)) (Fr.need ((!(cSH.f ((List.getD x.2.1.2.1 (Int.toNat x.1.1) zf.dflt).1,(List.getD x.2.2.1.2.1 (Int.toNat x.1.1) zf.dflt).1,())).1)=false->0<=x.1.1/\x.1.1<((List.length x.2.2.1.2.1):Int)) (Fr.br (bif !(cSH.f ((List.getD x.2.1.2.1 (Int.toNat x.1.1) zf.dflt).1,(List.getD x.2.2.1.2.1 (Int.toNat x.1.1) zf.dflt).1,())).1 then true else (List.getD x.2.1.2.1 (Int.toNat x.1.1) zf.dflt).2.1 != (List.getD x.2.2.1.2.1 (Int.toNat x.1.1) zf.dflt).2.1) (Fr.val (Rd.back ((false,()),()))) (Fr.val (Rd.next ((IntKind.i64.wrap (x.1.1+1),()),x.2.1,x.2.2.1,())))))))) (Fr.val (Rd.out ((),x.2.1,x.2.2.1,())))
theorem zu2:qf Tryz.prog (qo Tryz.f15 0) jy.M jy zex:=
 qf.of_run zcf (bs:=0) (Λ:=qq) rfl rfl rfl (fun E=>qe _ 0) (fun x=>by kernel_rfl)
abbrev qi2:Type:=qn []×jd [.x 2 29 stateT,.r 2 2 0,.x 3 29 stateT,.r 3 3 0]
def qbx (e:(zf.den×zf.den)) (s:qi2):Fr (qi2 ⊕ jy.R.X):=
 Fr.br (bif !(cSH.f (e.1.1,e.2.1,())).1 then true else e.1.2.1 != e.2.2.1) (Fr.val (.inr ((false,()),()))) (Fr.val (.inl ((),s.2.1,s.2.2.1,())))
def qb9 (x:jy.M.X):Int×List (zf.den×zf.den)×qi2:=(x.1.1,x.2.1.2.1.zip x.2.2.1.2.1,x.1.2,x.2)
def qk9 (x:jy.M.X):Prop:=x.2.1.2.1.length=x.2.2.1.2.1.length
def qjn (s:qi2):jy.E.X:=((),s.2.1,s.2.2.1,())
def qlq:qi2:=(dfP _,dfM _)
def qo6:jy.R.X:=(dfP _,dfM _)
theorem zob:qf Tryz.prog (.loop (qo Tryz.f15 0)) jy.M jy (FL qbx qb9 qk9 qjn Rd.back qlq qo6):=by
 refine qf.list zu2 qbx qb9 qk9 qjn Rd.back qlq qo6 ?_ ?_
 ·rintro ⟨⟨i,s⟩,m⟩ hg h0 h1 hb e he Q h;have hz:m.1.2.1.length=m.2.1.2.1.length:=hg;have h0:0<=i:=h0;have h1:i<(m.1.2.1.length:Int):=qhw hz h1;have hb:(m.1.2.1.length:Int)<=9223372036854775807:=qhv hz hb;have h1z:i<(m.2.1.2.1.length:Int):=by rw [← hz]; exact h1
  have hd:m.1.2.1.getD i.toNat zf.dflt=e.1:=zp (qfr he);have hdz:m.2.1.2.1.getD i.toNat zf.dflt=e.2:=zp (qft he);have hw:=zu h0 h1 hb;dsimp only [qb9,qbx,zex,Fr.satP] at h ⊢;simp only [hd,hw,hdz] at h ⊢;refine ⟨fun _=>?_,fun hn=>absurd h1 (of_decide_eq_false hn)⟩
  repeat' first
   |exact h
   |exact ⟨h0,h1⟩
   |exact fun _=>⟨h0,h1⟩
   |exact ⟨h0,h1z⟩
   |exact fun _=>⟨h0,h1z⟩
   |exact h _ rfl hz
   |(refine ⟨fun hc=>?_,fun hc=>?_⟩<;>first|replace h:=h.1 hc|replace h:=h.2 hc)
   |(refine ⟨h.1,?_⟩; replace h:=h.2)
   |refine ⟨⟨h0,h1⟩,?_⟩
   |exact h.1
   |exact h.2.1
   |exact h.2.2.1
   |refine ⟨?_,?_⟩
   |(intro (hc:_=true); replace h:=h.1 hc)
   |(intro (hc:_=false); replace h:=h.2 hc)
   |(replace h:=h.2)
 ·rintro ⟨⟨i,s⟩,m⟩ hg h1 Q h;have hz:m.1.2.1.length=m.2.1.2.1.length:=hg;exact ⟨fun hn=>absurd (ua5 hn) (qfs hz h1),fun _=>h⟩
def yf4 (Γ:Gm):St->Option Tr:=jy.han Γ jy.M (FL qbx qb9 qk9 qjn Rd.back qlq qo6)
def qj0 (y:jy.M.X):qi2 ⊕ jy.R.X:=goL qbx ((qb9 y).2.1.drop (qb9 y).1.toNat) (qb9 y).2.2
def zt2 (y:jy.M.X):Prop:=okL qbx ((qb9 y).2.1.drop (qb9 y).1.toNat) (qb9 y).2.2
abbrev jo:Pt:=⟨127,2,⟨[(8,.d i64)],[.x 2 29 stateT,.r 2 2 0,.x 3 29 stateT,.r 3 3 0]⟩,⟨[],[.x 2 29 stateT,.r 2 2 0,.x 3 29 stateT,.r 3 3 0]⟩,⟨[(4,.d .bool)],[]⟩⟩
def zey (x:jo.M.X):Fr jo.Out:=
 Fr.br (decide (x.1.1<((List.length x.2.1.2.2.1):Int))) (Fr.need (0<=x.1.1/\x.1.1<((List.length x.2.1.2.2.1):Int)) (Fr.need (0<=x.1.1/\x.1.1<((List.length x.2.2.1.2.2.1):Int)) (Fr.br (!(ziw.f ((List.getD x.2.1.2.2.1 (Int.toNat x.1.1) qt.dflt),(List.getD x.2.2.1.2.2.1 (Int.toNat x.1.1) qt.dflt),())).1) (Fr.val (Rd.back ((false,()),()))) (Fr.val (Rd.next ((IntKind.i64.wrap (x.1.1+1),()),x.2.1,x.2.2.1,())))))) (Fr.val (Rd.out ((),x.2.1,x.2.2.1,())))
theorem zu3:qf Tryz.prog (qo Tryz.f15 1) jo.M jo zey:=
 qf.of_run zcf (bs:=0) (Λ:=qq) rfl rfl rfl (fun E=>qe _ 0) (fun x=>by kernel_rfl)
abbrev qgq:Type:=qn []×jd [.x 2 29 stateT,.r 2 2 0,.x 3 29 stateT,.r 3 3 0]
def qby (e:(qt.den×qt.den)) (s:qgq):Fr (qgq ⊕ jo.R.X):=
 Fr.br (!(ziw.f (e.1,e.2,())).1) (Fr.val (.inr ((false,()),()))) (Fr.val (.inl ((),s.2.1,s.2.2.1,())))
def qa4 (x:jo.M.X):Int×List (qt.den×qt.den)×qgq:=(x.1.1,x.2.1.2.2.1.zip x.2.2.1.2.2.1,x.1.2,x.2)
def qhr (x:jo.M.X):Prop:=x.2.1.2.2.1.length=x.2.2.1.2.2.1.length
def qjo (s:qgq):jo.E.X:=((),s.2.1,s.2.2.1,())
def qlr:qgq:=(dfP _,dfM _)
def qo7:jo.R.X:=(dfP _,dfM _)
theorem zoc:qf Tryz.prog (.loop (qo Tryz.f15 1)) jo.M jo (FL qby qa4 qhr qjo Rd.back qlr qo7):=by
 refine qf.list zu3 qby qa4 qhr qjo Rd.back qlr qo7 ?_ ?_
 ·rintro ⟨⟨i,s⟩,m⟩ hg h0 h1 hb e he Q h;have hz:m.1.2.2.1.length=m.2.1.2.2.1.length:=hg;have h0:0<=i:=h0;have h1:i<(m.1.2.2.1.length:Int):=qhw hz h1;have hb:(m.1.2.2.1.length:Int)<=9223372036854775807:=qhv hz hb;have h1z:i<(m.2.1.2.2.1.length:Int):=by rw [← hz]; exact h1
  have hd:m.1.2.2.1.getD i.toNat qt.dflt=e.1:=zp (qfr he);have hdz:m.2.1.2.2.1.getD i.toNat qt.dflt=e.2:=zp (qft he);have hw:=zu h0 h1 hb;dsimp only [qa4,qby,zey,Fr.satP] at h ⊢;simp only [hd,hw,hdz] at h ⊢;refine ⟨fun _=>?_,fun hn=>absurd h1 (of_decide_eq_false hn)⟩
  repeat' first
   |exact h
   |exact ⟨h0,h1⟩
   |exact fun _=>⟨h0,h1⟩
   |exact ⟨h0,h1z⟩
   |exact fun _=>⟨h0,h1z⟩
   |exact h _ rfl hz
   |(refine ⟨fun hc=>?_,fun hc=>?_⟩<;>first|replace h:=h.1 hc|replace h:=h.2 hc)
   |(refine ⟨h.1,?_⟩; replace h:=h.2)
   |refine ⟨⟨h0,h1⟩,?_⟩
   |exact h.1
   |exact h.2.1
   |exact h.2.2.1
   |refine ⟨?_,?_⟩
   |(intro (hc:_=true); replace h:=h.1 hc)
   |(intro (hc:_=false); replace h:=h.2 hc)
   |(replace h:=h.2)
 ·rintro ⟨⟨i,s⟩,m⟩ hg h1 Q h;have hz:m.1.2.2.1.length=m.2.1.2.2.1.length:=hg;exact ⟨fun hn=>absurd (ua5 hn) (qfs hz h1),fun _=>h⟩
def yf5 (Γ:Gm):St->Option Tr:=jo.han Γ jo.M (FL qby qa4 qhr qjo Rd.back qlr qo7)
def qj1 (y:jo.M.X):qgq ⊕ jo.R.X:=goL qby ((qa4 y).2.1.drop (qa4 y).1.toNat) (qa4 y).2.2
def zt3 (y:jo.M.X):Prop:=okL qby ((qa4 y).2.1.drop (qa4 y).1.toNat) (qa4 y).2.2
abbrev jz:Pt:=⟨127,4,⟨[(10,.d i64)],[.x 2 29 stateT,.r 2 2 0,.x 3 29 stateT,.r 3 3 0]⟩,⟨[],[]⟩,⟨[(4,.d .bool)],[]⟩⟩
def zez (x:jz.M.X):Fr jz.Out:=
 Fr.br (decide (x.1.1<((List.length x.2.1.2.2.2.1):Int))) (Fr.need (0<=x.1.1/\x.1.1<((List.length x.2.1.2.2.2.1):Int)) (Fr.need (0<=x.1.1/\x.1.1<((List.length x.2.2.1.2.2.2.1):Int)) (Fr.br (!((List.getD x.2.1.2.2.2.1 (Int.toNat x.1.1) qb.dflt).1==(List.getD x.2.2.1.2.2.2.1 (Int.toNat x.1.1) qb.dflt).1&&((List.getD x.2.1.2.2.2.1 (Int.toNat x.1.1) qb.dflt).2.1==(List.getD x.2.2.1.2.2.2.1 (Int.toNat x.1.1) qb.dflt).2.1&&((List.getD x.2.1.2.2.2.1 (Int.toNat x.1.1) qb.dflt).2.2.1.1==(List.getD x.2.2.1.2.2.2.1 (Int.toNat x.1.1) qb.dflt).2.2.1.1&&((List.getD x.2.1.2.2.2.1 (Int.toNat x.1.1) qb.dflt).2.2.1.2.1==(List.getD x.2.2.1.2.2.2.1 (Int.toNat x.1.1) qb.dflt).2.2.1.2.1&&true)&&((List.getD x.2.1.2.2.2.1 (Int.toNat x.1.1) qb.dflt).2.2.2.1==(List.getD x.2.2.1.2.2.2.1 (Int.toNat x.1.1) qb.dflt).2.2.2.1&&((List.getD x.2.1.2.2.2.1 (Int.toNat x.1.1) qb.dflt).2.2.2.2.1==(List.getD x.2.2.1.2.2.2.1 (Int.toNat x.1.1) qb.dflt).2.2.2.2.1&&((List.getD x.2.1.2.2.2.1 (Int.toNat x.1.1) qb.dflt).2.2.2.2.2.1==(List.getD x.2.2.1.2.2.2.1 (Int.toNat x.1.1) qb.dflt).2.2.2.2.2.1&&((List.getD x.2.1.2.2.2.1 (Int.toNat x.1.1) qb.dflt).2.2.2.2.2.2.1==(List.getD x.2.2.1.2.2.2.1 (Int.toNat x.1.1) qb.dflt).2.2.2.2.2.2.1&&((List.getD x.2.1.2.2.2.1 (Int.toNat x.1.1) qb.dflt).2.2.2.2.2.2.2.1==(List.getD x.2.2.1.2.2.2.1 (Int.toNat x.1.1) qb.dflt).2.2.2.2.2.2.2.1&&true))))))))) (Fr.val (Rd.back ((false,()),()))) (Fr.val (Rd.next ((IntKind.i64.wrap (x.1.1+1),()),x.2.1,x.2.2.1,())))))) (Fr.val (Rd.out ((),())))
theorem zu4:qf Tryz.prog (qo Tryz.f15 2) jz.M jz zez:=
 qf.of_run zcf (bs:=0) (Λ:=qq) rfl rfl rfl (fun E=>qe _ 0) (fun x=>by kernel_rfl)
abbrev qgr:Type:=qn []×jd [.x 2 29 stateT,.r 2 2 0,.x 3 29 stateT,.r 3 3 0]
def qbz (e:(qb.den×qb.den)) (s:qgr):Fr (qgr ⊕ jz.R.X):=
 Fr.br (!(e.1.1==e.2.1&&(e.1.2.1==e.2.2.1&&(e.1.2.2.1.1==e.2.2.2.1.1&&(e.1.2.2.1.2.1==e.2.2.2.1.2.1&&true)&&(e.1.2.2.2.1==e.2.2.2.2.1&&(e.1.2.2.2.2.1==e.2.2.2.2.2.1&&(e.1.2.2.2.2.2.1==e.2.2.2.2.2.2.1&&(e.1.2.2.2.2.2.2.1==e.2.2.2.2.2.2.2.1&&(e.1.2.2.2.2.2.2.2.1==e.2.2.2.2.2.2.2.2.1&&true))))))))) (Fr.val (.inr ((false,()),()))) (Fr.val (.inl ((),s.2.1,s.2.2.1,())))
def qa5 (x:jz.M.X):Int×List (qb.den×qb.den)×qgr:=(x.1.1,x.2.1.2.2.2.1.zip x.2.2.1.2.2.2.1,x.1.2,x.2)
def qhs (x:jz.M.X):Prop:=x.2.1.2.2.2.1.length=x.2.2.1.2.2.2.1.length
def qs8 (s:qgr):jz.E.X:=((),())
def qur:qgr:=(dfP _,dfM _)
def qo8:jz.R.X:=(dfP _,dfM _)
theorem zod:qf Tryz.prog (.loop (qo Tryz.f15 2)) jz.M jz (FL qbz qa5 qhs qs8 Rd.back qur qo8):=by
 refine qf.list zu4 qbz qa5 qhs qs8 Rd.back qur qo8 ?_ ?_
 ·rintro ⟨⟨i,s⟩,m⟩ hg h0 h1 hb e he Q h;have hz:m.1.2.2.2.1.length=m.2.1.2.2.2.1.length:=hg;have h0:0<=i:=h0;have h1:i<(m.1.2.2.2.1.length:Int):=qhw hz h1;have hb:(m.1.2.2.2.1.length:Int)<=9223372036854775807:=qhv hz hb;have h1z:i<(m.2.1.2.2.2.1.length:Int):=by rw [← hz]; exact h1
  have hd:m.1.2.2.2.1.getD i.toNat qb.dflt=e.1:=zp (qfr he);have hdz:m.2.1.2.2.2.1.getD i.toNat qb.dflt=e.2:=zp (qft he);have hw:=zu h0 h1 hb;dsimp only [qa5,qbz,zez,Fr.satP] at h ⊢;simp only [hd,hw,hdz] at h ⊢;refine ⟨fun _=>?_,fun hn=>absurd h1 (of_decide_eq_false hn)⟩
  repeat' first
   |exact h
   |exact ⟨h0,h1⟩
   |exact fun _=>⟨h0,h1⟩
   |exact ⟨h0,h1z⟩
   |exact fun _=>⟨h0,h1z⟩
   |exact h _ rfl hz
   |(refine ⟨fun hc=>?_,fun hc=>?_⟩<;>first|replace h:=h.1 hc|replace h:=h.2 hc)
   |(refine ⟨h.1,?_⟩; replace h:=h.2)
   |refine ⟨⟨h0,h1⟩,?_⟩
   |exact h.1
   |exact h.2.1
   |exact h.2.2.1
   |refine ⟨?_,?_⟩
   |(intro (hc:_=true); replace h:=h.1 hc)
   |(intro (hc:_=false); replace h:=h.2 hc)
   |(replace h:=h.2)
 ·rintro ⟨⟨i,s⟩,m⟩ hg h1 Q h;have hz:m.1.2.2.2.1.length=m.2.1.2.2.2.1.length:=hg;exact ⟨fun hn=>absurd (ua5 hn) (qfs hz h1),fun _=>h⟩
def yf6 (Γ:Gm):St->Option Tr:=jz.han Γ jz.M (FL qbz qa5 qhs qs8 Rd.back qur qo8)
def qtg (y:jz.M.X):qgr ⊕ jz.R.X:=goL qbz ((qa5 y).2.1.drop (qa5 y).1.toNat) (qa5 y).2.2
def zt4 (y:jz.M.X):Prop:=okL qbz ((qa5 y).2.1.drop (qa5 y).1.toNat) (qa5 y).2.2
theorem yqz {P:Program} {E:Env} {Λ:Nat->St->Option Tr} {fn:Func} {c b0 b1 b2:Code} (hc:fn.body=some c) (hn:(fn.body.map zq)=some 3) (hb0:fn.body.bind (Go.Ab.loopB · 0)=some b0) (hb1:fn.body.bind (Go.Ab.loopB · 1)=some b1) (hb2:fn.body.bind (Go.Ab.loopB · 2)=some b2)
  (h0:qfb P E b0 (Λ 0)) (h1:qfb P E b1 (Λ 1)) (h2:qfb P E b2 (Λ 2)):jw P E Λ c 0:=by
 rw [hc] at hn hb0 hb1 hb2;simp only [udj,ua0] at hn;simp only [uee] at hb0 hb1 hb2;refine Go.Ab.lamAll c 0 fun i b' hb'=>?_;have hlt:=Go.Ab.loopB_lt hb';have hi:i=0∨i=1∨i=2:=by omega
 rcases hi with rfl|rfl|rfl
 ·rw [hb0] at hb';cases hb';exact h0
 ·rw [hb1] at hb';cases hb';exact h1
 ·rw [hb2] at hb';cases hb';exact h2
theorem zzs {σ ρ:Type} {good ok:Prop} {g:σ ⊕ ρ} {v:ρ->Bool} {d:ρ} {s1:σ} {c:ρ} {b r:Bool} {K:Fr (qi [.bool])} (hg:good) (ho:ok) (h:g=if b=true then .inl s1 else .inr c) (hc:v c=false) (hK:b=true->K.ok/\K.get=(r,())) :
  (Fr.need good (Fr.need ok (Fr.br (isL g) K (Fr.val (v (jk d g),()))))).ok/\(Fr.need good (Fr.need ok (Fr.br (isL g) K (Fr.val (v (jk d g),()))))).get=(b&&r,()):=by
 cases b
 ·have h':g = .inr c:=h;subst h';exact Fr.need_ hg (Fr.need_ ho (Fr.br_f rfl ⟨trivial,by show (v c,())=_; rw [hc]; rfl⟩))
 ·have h':g = .inl s1:=h;subst h';exact Fr.need_ hg (Fr.need_ ho (Fr.br_t rfl (hK rfl)))
noncomputable def zqz:Cx:=cx [(37,ybh)] []
theorem qwi:CxOK Tryz.prog zqz:=zc (cs:=[(37,ybh)]) (ps:=[]) qv ⟨zza,trivial⟩ trivial
def yet (a b:stateT.den):Bool:=bif bif bif bif !(zuw a.1 b.1) then true else qmr a != qmr b then true else ((List.length (α:=zf.den) (kr a):Nat):Int) != ((List.length (α:=zf.den) (kr b):Nat):Int) then true else ((List.length (α:=qt.den) (xb a):Nat):Int) != ((List.length (α:=qt.den) (xb b):Nat):Int) then true else ((List.length (α:=qb.den) (yw a):Nat):Int) != ((List.length (α:=qb.den) (yw b):Nat):Int)
def acS (e:zf.den×zf.den):Bool:=!(bif !(shF e.1.1 e.2.1) then true else e.1.2.1 != e.2.2.1)
def trS (e:qb.den×qb.den):Bool:=e.1.1==e.2.1&&(e.1.2.1==e.2.2.1&&(e.1.2.2.1.1==e.2.2.2.1.1&&(e.1.2.2.1.2.1==e.2.2.2.1.2.1&&true)&&(e.1.2.2.2.1==e.2.2.2.2.1&&(e.1.2.2.2.2.1==e.2.2.2.2.2.1&&(e.1.2.2.2.2.2.1==e.2.2.2.2.2.2.1&&(e.1.2.2.2.2.2.2.1==e.2.2.2.2.2.2.2.1&&(e.1.2.2.2.2.2.2.2.1==e.2.2.2.2.2.2.2.2.1&&true)))))))
abbrev zA (a b:stateT.den):List (zf.den×zf.den):=List.zip (α:=zf.den) (β:=zf.den) (kr a) (kr b)
abbrev zF (a b:stateT.den):List (qt.den×qt.den):=List.zip (α:=qt.den) (β:=qt.den) (xb a) (xb b)
abbrev zT (a b:stateT.den):List (qb.den×qb.den):=List.zip (α:=qb.den) (β:=qb.den) (yw a) (yw b)
def yeu (a b:stateT.den):Bool:=bif yet a b then false else (zA a b).all acS&&((zF a b).all (fun e=>qvw e.1 e.2)&&(zT a b).all trS)
def ym5:Ct:=⟨[.d stateT,.d stateT],[.bool],fun x=>(yeu x.1 x.2.1,()),fun _=>[]⟩
abbrev en0 (a b:stateT.den):jy.M.X:=((0,()),a,b,())
abbrev o0 (a b:stateT.den):jy.E.X:=qjn (qap qlq (qj0 (en0 a b)))
abbrev en1 (a b:stateT.den):jo.M.X:=((0,()),(o0 a b).2.1,(o0 a b).2.2.1,())
abbrev o1 (a b:stateT.den):jo.E.X:=qjo (qap qlr (qj1 (en1 a b)))
abbrev en2 (a b:stateT.den):jz.M.X:=((0,()),(o1 a b).2.1,(o1 a b).2.2.1,())
def zaq (a b:stateT.den):Fr (qi [.bool]):=
 Fr.br (yet a b) (Fr.val (false,())) (Fr.need (InL (qk9 (en0 a b)) (qb9 (en0 a b))) (Fr.need (zt2 (en0 a b)) (Fr.br (isL (qj0 (en0 a b)))
  (Fr.need (InL (qhr (en1 a b)) (qa4 (en1 a b))) (Fr.need (zt3 (en1 a b)) (Fr.br (isL (qj1 (en1 a b)))
   (Fr.need (InL (qhs (en2 a b)) (qa5 (en2 a b))) (Fr.need (zt4 (en2 a b)) (Fr.br (isL (qtg (en2 a b))) (Fr.val (true,())) (Fr.val ((jk qo8 (qtg (en2 a b))).1.1,())))))
   (Fr.val ((jk qo7 (qj1 (en1 a b))).1.1,())))))
  (Fr.val ((jk qo6 (qj0 (en0 a b))).1.1,())))))
theorem ykr:qa Tryz.prog 15 ⟨[.d stateT,.d stateT],[.bool],fun x=>(zaq x.1 x.2.1).get,fun x=>[(zaq x.1 x.2.1).ok]⟩:=
 qg qwi (Λ:=(fun k=>if k=0 then yf4 zqz.Γ else if k=1 then yf5 zqz.Γ else yf6 zqz.Γ)) (fn:=Tryz.f15) (fr:=fun x=>zaq x.1 x.2.1) (ps:=[.d stateT,.d stateT]) (rs:=[.bool]) (dfP [.d stateT,.d stateT]) (by kernel_rfl)
  (fun c E hc=>yqz hc (by kernel_rfl) (b0:=qo Tryz.f15 0) (b1:=qo Tryz.f15 1) (b2:=qo Tryz.f15 2) (by kernel_rfl) (by kernel_rfl) (by kernel_rfl) (qf.han qwi rfl zob) (qf.han qwi rfl zoc) (qf.han qwi rfl zod)) (fun x=>by kernel_rfl)
theorem zqg (a b:stateT.den):qj0 (en0 a b)=if (zA a b).all acS=true then .inl ((),a,b,()) else .inr ((false,()),()):=by
 show goL qbx (List.drop 0 (zA a b)) ((),a,b,())=_;rw [List.drop_zero,qc7 (step:=qbx) (I:=fun _=>True) (p:=acS) (c:=((false,()),())) (fun e s _=>?_) _ _ trivial];show (Fr.br (bif !(shF e.1.1 e.2.1) then true else e.1.2.1 != e.2.2.1) _ _).get=_;unfold acS;cases (bif !(shF e.1.1 e.2.1) then true else e.1.2.1 != e.2.2.1)<;>rfl
theorem zqh (a b:stateT.den):qj1 ((0,()),a,b,())=if (zF a b).all (fun e=>qvw e.1 e.2)=true then .inl ((),a,b,()) else .inr ((false,()),()):=by
 show goL qby (List.drop 0 (zF a b)) ((),a,b,())=_;rw [uc7,qc7 (step:=qby) (I:=fun _=>True) (p:=fun e=>qvw e.1 e.2) (c:=((false,()),())) (fun e s _=>?_) _ _ trivial];show (Fr.br (!(qvw e.1 e.2)) _ _).get=_;cases qvw e.1 e.2<;>rfl
theorem ykp (a b:stateT.den):qtg ((0,()),a,b,())=if (zT a b).all trS=true then .inl ((),a,b,()) else .inr ((false,()),()):=by
 show goL qbz (List.drop 0 (zT a b)) ((),a,b,())=_;rw [uc7,qc7 (step:=qbz) (I:=fun _=>True) (p:=trS) (c:=((false,()),())) (fun e s _=>?_) _ _ trivial];show (Fr.br (!(trS e)) _ _).get=_;cases trS e<;>rfl
theorem ye4 {w:World} {F:Nat->Prop} {s:stateT.den} {v:Value} (h:zv w F stateT s v):((List.length (α:=zf.den) (kr s):Nat):Int)<=9223372036854775807/\((List.length (α:=qt.den) (xb s):Nat):Int)<=9223372036854775807/\((List.length (α:=qb.den) (yw s):Nat):Int)<=9223372036854775807:=by
 have h0:=qs.wf h.2.2;have h1:List.length (α:=zf.den) (kr s)<=maxLen:=h0.2.1.1;have h2:List.length (α:=qt.den) (xb s)<=maxLen:=h0.2.2.1.1;have h3:List.length (α:=qb.den) (yw s)<=maxLen:=h0.2.2.2.1.1;unfold maxLen at h1 h2 h3;exact ⟨by omega,by omega,by omega⟩
theorem yph:qa Tryz.prog 15 ym5:=conv ykr _ _ (fun w F x vs hr _=>by
 obtain ⟨a,b,_⟩:=x;obtain ⟨v,vs',rfl,hv,_⟩:=hr;obtain ⟨w1,w2,w3⟩:=ye4 hv;show (zaq a b).ok/\(zaq a b).get=(yeu a b,());unfold yeu;cases h:yet a b
 ·have hA':=orF h;have hA:=orF hA'.1;have hB:=orF hA.1;refine Fr.br_f h (zzs (v:=fun r=>r.1.1) (s1:=((),a,b,())) (c:=((false,()),())) ⟨qpn hB.2,ua4 _,uak _,qp4 _ _ w1⟩ (qc8 (step:=qbx) _ (fun e _ s=>⟨fun _=>trivial,fun _=>trivial⟩) _) (zqg a b) rfl fun h0=>?_);have e0:o0 a b=((),a,b,()):=by
   show qjn (qap qlq (qj0 (en0 a b)))=_;rw [zqg,if_pos h0]; rfl
  have e1:en1 a b=((0,()),a,b,()):=by show ((0,()),(o0 a b).2.1,(o0 a b).2.2.1,())=_; rw [e0]
  rw [e1];refine zzs (good:=InL (qhr ((0,()),a,b,())) (qa4 ((0,()),a,b,()))) (σ:=qgq) (ρ:=jo.R.X) (v:=fun r=>r.1.1) (s1:=((),a,b,())) (c:=((false,()),())) (by exact ⟨qpn hA.2,ua4 _,uak _,qp4 _ _ w2⟩) (qc8 (step:=qby) _ (fun e _ s=>⟨fun _=>trivial,fun _=>trivial⟩) _) (zqh a b) rfl fun h1=>?_;have e2:o1 a b=((),a,b,()):=by
   show qjo (qap qlr (qj1 (en1 a b)))=_;rw [e1,zqh,if_pos h1]; rfl
  have e3:en2 a b=((0,()),a,b,()):=by show ((0,()),(o1 a b).2.1,(o1 a b).2.2.1,())=_; rw [e2]
  rw [e3];exact qkx (good:=InL (qhs ((0,()),a,b,())) (qa5 ((0,()),a,b,()))) (σ:=qgr) (ρ:=jz.R.X) (v:=fun r=>r.1.1) (s1:=((),a,b,())) (c:=((false,()),())) (by exact ⟨qpn hA'.2,ua4 _,uak _,qp4 _ _ w3⟩) (qc8 (step:=qbz) _ (fun e _ s=>⟨fun _=>trivial,fun _=>trivial⟩) _) (ykp a b) rfl
 ·exact Fr.br_t h ⟨trivial,rfl⟩)
theorem ja9 (a:stateT.den):yeu a a=true:=by
 unfold yeu;rw [show yet a a=false by unfold yet; rw [ja7]; simp];have h1:(zA a a).all acS=true:=yxj (α:=zf.den) _ (fun x _=>by unfold acS; rw [jbn]; simp);have h2:(zF a a).all (fun e=>qvw e.1 e.2)=true:=yxj (α:=qt.den) _ (fun x _=>ja8 x);have h3:(zT a a).all trS=true:=yxj (α:=qb.den) _ (fun x _=>by simp [trS]);rw [h1,h2,h3];rfl
def ym2 (ps:List PT):Ct:=⟨ps,[.bool],fun _=>(true,()),fun _=>[]⟩
def Up {α:Type} (g:α->Int) (l:List α):Prop:=l.Pairwise fun a b=>g a<g b
theorem yus {α:Type} {g:α->Int} {l:List α} {i:Nat} {x:α} (h:Up g l) (hx:∀ y,l[i]? = some y->g x=g y):Up g (l.set i x):=by
 unfold Up at *;rw [List.pairwise_iff_getElem] at *;intro a b ha hb hab;rw [List.length_set] at ha hb;have e:∀ k (hk:k<l.length),g ((l.set i x)[k]'(by rw [List.length_set]; exact hk))=g l[k]:=fun k hk=>by
  rw [List.getElem_set];split
  ·rename_i e;subst e;exact hx _ (ua7 hk)
  ·rfl
 rw [e a ha,e b hb];exact h a b ha hb hab
theorem yur {α:Type} {g:α->Int} {x:α}:(l:List α)->(k:Nat)->Up g l->(∀ i y,l[i]? = some y->i<k->g y<g x)->(∀ i y,l[i]? = some y->k<=i->g x<g y)->Up g (l.take k++[x]++l.drop k):=by
 intro l k h h1 h2;unfold Up at *;rw [List.pairwise_append,List.pairwise_append];refine ⟨⟨h.sublist (List.take_sublist k l),List.pairwise_singleton _ _,fun a ha b hb=>?_⟩,h.sublist (List.drop_sublist k l),fun a ha b hb=>?_⟩
 ·obtain ⟨i,hi⟩:=ud3 ha;rw [ud2.1 hb];have hik:i<k:=by
   rcases uar i k with h'|h'
   ·exact h'
   ·rw [List.getElem?_take_eq_none h'] at hi; cases hi
  rw [List.getElem?_take_of_lt hik] at hi;exact h1 i a hi hik
 ·obtain ⟨j,hj⟩:=ud3 hb;rw [ubd] at hj;rcases ubc.1 ha with ha|ha
  ·obtain ⟨i,hi⟩:=ud3 ha;have hik:i<k:=by
    rcases uar i k with h'|h'
    ·exact h'
    ·rw [List.getElem?_take_eq_none h'] at hi; cases hi
   rw [List.getElem?_take_of_lt hik] at hi;exact ue3 (h1 i a hi hik) (h2 (k+j) b hj (Nat.le_add_right _ _))
  ·rw [ud2.1 ha];exact h2 (k+j) b hj (Nat.le_add_right _ _)
theorem ytr {α:Type} (g:α->Bool):(l:List α)->(i k:Int)->qdw g l i=some k->∀ (m:Nat) (y:α),l[m]? = some y->i+(m:Int)<k->g y=false
 |[],_,_,h,_,_,_,_=>nomatch h
 |x::r,i,k,h,m,y,hm,hlt=>by
  unfold qdw at h;split at h
  ·cases h;omega
  ·rename_i hx;cases m with
   |zero=>cases hm; simpa using hx
   |succ m=>exact ytr g r (i+1) k h m y hm (by omega)
theorem ytt {α:Type} {g:α->Int} {l:List α} {x:α} (h:Up g l) (hn:∀ y∈l,g y≠g x):Up g (qbe g l x):=by
 show Up g (qkk (if plI g l x<0 then (l.length:Int) else plI g l x) l [x]);unfold qkk;by_cases hp:plI g l x<0
 ·rw [if_pos hp];have hno:=ytm hp;refine yur l _ h (fun i y hi _=>?_) (fun i y hi hk=>?_)
  ·have hm:=ube hi;have:=hno y hm;have h1:=uac this;have h2:=hn y hm;omega
  ·have:=(uaj.1 hi).1;omega
 ·rw [if_neg hp];have hp0:0<=qki (fun y=>decide (g y>g x)) l:=by unfold plI at hp; omega
  obtain ⟨hlt,z,hz,hgz⟩:=qrk hp0;have hgz:=ua5 hgz;refine yur l _ h (fun i y hi hik=>?_) (fun i y hi hk=>?_)
  ·have hm:=ube hi;have hf:decide (g y>g x)=false:=by
    have hs:qdw (fun y=>decide (g y>g x)) l 0=some (qki (fun y=>decide (g y>g x)) l):=by
     unfold qki at hp0 ⊢;cases hc:qdw (fun y=>decide (g y>g x)) l 0 with
     |none=>rw [hc] at hp0; exact absurd hp0 (by decide)
     |some k=>rfl
    refine ytr _ l 0 _ hs i y hi ?_;have:plI g l x=qki (fun y=>decide (g y>g x)) l:=rfl;omega
   have h1:=uac hf;have h2:=hn y hm;omega
  ·have hz':l[(plI g l x).toNat]? = some z:=hz;rcases uar (plI g l x).toNat i with hl|hl
   ·have hlt2:=(uaj.1 hi);have hlt3:=(uaj.1 hz');have hpw:=(udp.1 h) (plI g l x).toNat i hlt3.1 hlt2.1 hl;rw [hlt3.2,hlt2.2] at hpw;omega
   ·have:i=(plI g l x).toNat:=by omega
    rw [this] at hi;rw [hz'] at hi;cases hi;omega
theorem yum {s:stateT.den} {id:Int} (h:¬ qhe s id≥0):∀ a∈kr s,aId a≠id:=fun a ha=>by
 have:=ytm (g:=fun a=>aId a==id) (l:=kr s) (by unfold qhe at h; omega) a ha;simpa using this
theorem yt1 {s:stateT.den} {id:Int} (h:¬ qhe s id<0):(kr s)[(qhe s id).toNat]? = some (qe1 s (qhe s id))/\aId (qe1 s (qhe s id))=id:=by
 obtain ⟨h1,x,h2,h3⟩:=qrk (g:=fun a=>aId a==id) (l:=kr s) (by unfold qhe at h; omega);have h2':(kr s)[(qhe s id).toNat]? = some x:=h2;have e:qe1 s (qhe s id)=x:=by
  show (kr s).getD (qhe s id).toNat zf.dflt=x;rw [ua6,h2']; rfl
 rw [e];exact ⟨h2',eq_of_beq h3⟩
theorem yvg {s:stateT.den} {id:Int} (h:¬ qe5 s id<0):(xb s)[(qe5 s id).toNat]? = some (yqt s (qe5 s id))/\gId (yqt s (qe5 s id))=id:=by
 obtain ⟨h1,x,h2,h3⟩:=qrk (g:=fun a=>gId a==id) (l:=xb s) (by unfold qe5 at h; omega);have h2':(xb s)[(qe5 s id).toNat]? = some x:=h2;have e:yqt s (qe5 s id)=x:=by
  show (xb s).getD (qe5 s id).toNat qt.dflt=x;rw [ua6,h2']; rfl
 rw [e];exact ⟨h2',eq_of_beq h3⟩
theorem yuk {α:Type} {g:α->Int} {l:List α} {x y:α} (h:y∈l∨y=x):y∈qbe g l x:=by
 show y∈qkk _ l [x];generalize (if plI g l x<0 then (l.length:Int) else plI g l x)=i;unfold qkk;rw [List.mem_append,List.mem_append];rcases h with h|h
 ·rw [← ue9 i.toNat l,ubc] at h;rcases h with h|h
  ·exact .inl (.inl h)
  ·exact .inr h
 ·exact .inl (.inr (ud2.2 h))
theorem yu3 {id bk:Int} {t:zo.den} (h:(qo1 id bk t).2=0):(qo1 id bk t).1.1=id:=by
 unfold qo1 at h ⊢;cases hb:qqy id bk t
 ·rfl
 ·rw [hb] at h; have h:(1:Int)=0:=h; exact absurd h (by decide)
theorem yvh {h:qm.den} {c:qd.den} (e:(qvn h c).2=0):(qvn h c).1.1=h.1:=by
 unfold qvn at e ⊢;split at e
 ·rename_i h1;rw [if_pos h1];split at e
  ·exact absurd e (by decide)
  ·rename_i h2;rw [if_neg h2];split at e
   ·exact absurd e (by decide)
   ·rename_i h3;rw [if_neg h3];rfl
 ·exact absurd e (by decide)
theorem yt9 {g:qt.den} {a:zh.den} (e:(qwr g a).2=0):(qwr g a).1.1=g.1:=by
 unfold qwr at e ⊢;cases h1 : !(qng a)
 ·rw [h1] at e;cases h2:decide (((List.length (α:=zh.den) g.2.1:Nat):Int)≥2000)
  ·rw [h2] at e;cases h3:decide (a.1<za4 g)
   ·rw [h3] at e;cases h4:(ql9 g).2.2.2.2.2.1==(a.2.1==5)
    ·rw [h4] at e;cases h5:zv5 g a
     ·rfl
     ·rw [h5] at e; have e:(5:Int)=0:=e; exact absurd e (by decide)
    ·rw [h4] at e; have e:(10:Int)=0:=e; exact absurd e (by decide)
   ·rw [h3] at e; have e:(4:Int)=0:=e; exact absurd e (by decide)
  ·rw [h2] at e; have e:(2:Int)=0:=e; exact absurd e (by decide)
 ·rw [h1] at e; have e:(1:Int)=0:=e; exact absurd e (by decide)
theorem yt2 {a b:Int} (h:(bif a==0 then b else a)=0):a=0/\b=0:=by
 cases h1:a==0
 ·rw [h1] at h;have h:a=0:=h;rw [h] at h1;exact absurd h1 (by decide)
 ·rw [h1] at h;exact ⟨eq_of_beq h1,h⟩
theorem yts {f:factT.den} (h:vg f=true):zre f=true:=by
 unfold vg at h;rw [Bool.and_eq_true,Bool.and_eq_true,Bool.and_eq_true] at h;have hb:=h.2.2;rw [Bool.and_eq_true] at hb;exact hb.2
theorem yt3 (s:stateT.den) (f:factT.den):doF s f=(bif za f==1 then qff s f else bif za f==2 then qdn s f else bif za f==3 then qfh s f else bif za f==4 then qfg s f else bif za f==5 then qh0 s f else bif za f==6 then qcg s f else qdo s f):=by
 show ((doY s f).1,(doY s f).2.1)=_;unfold doY;cases za f==1
 ·cases za f==2
  ·cases za f==3
   ·cases za f==4
    ·cases za f==5
     ·cases za f==6<;>rfl
     ·rfl
    ·rfl
   ·rfl
  ·rfl
 ·rfl
theorem yz2 {α:Type} {g:α->Int}:(l m:List α)->Up g l->Up g m->(∀ a,a∈l↔a∈m)->l=m
 |[],[],_,_,_=>rfl
 |[],b::m,_,_,h=>absurd ((h b).2 ubk) ues
 |a::l,[],_,_,h=>absurd ((h a).1 ubk) ues
 |a::l,b::m,hl,hm,h=>by
  have ha:=ub2.1 hl;have hb:=ub2.1 hm;have e:a=b:=by
   rcases ua2.1 ((h a).1 ubk) with e|h1
   ·exact e
   ·rcases ua2.1 ((h b).2 ubk) with e|h2
    ·exact e.symm
    ·have:=ha.1 b h2;have:=hb.1 a h1;omega
  subst e;congr 1;refine yz2 l m ha.2 hb.2 fun x=>⟨fun hx=>?_,fun hx=>?_⟩
  ·rcases ua2.1 ((h x).1 (ua8 _ hx)) with e|h1
   ·subst e; exact absurd (ha.1 x hx) (uec _)
   ·exact h1
  ·rcases ua2.1 ((h x).2 (ua8 _ hx)) with e|h1
   ·subst e; exact absurd (hb.1 x hx) (uec _)
   ·exact h1
theorem jaa {α:Type} {g:α->Int} {l:List α} (h:Up g l) {a b:α} (ha:a∈l) (hb:b∈l) (e:g a=g b):a=b:=by
 obtain ⟨i,hi⟩:=ud3 ha;obtain ⟨j,hj⟩:=ud3 hb;have g1:=uaj.1 hi;have g2:=uaj.1 hj;rcases udm i j with hlt|heq|hgt
 ·have:=(udp.1 h) _ _ g1.1 g2.1 hlt;rw [g1.2,g2.2,e] at this;exact absurd this (uec _)
 ·subst heq;rw [hi] at hj;exact udw hj
 ·have:=(udp.1 h) _ _ g2.1 g1.1 hgt;rw [g1.2,g2.2,e] at this;exact absurd this (uec _)
structure Put1 {α:Type} (g:α->Int) (l:List α) (x:α) (l':List α):Prop where
 up:Up g l'
 mem:∀ a,a∈l'↔(a∈l/\g a≠g x)∨a=x
theorem yx0 {α:Type} {g:α->Int} {l:List α} {x:α} (h:Up g l) (hn:∀ y∈l,g y≠g x):Put1 g l x (qbe g l x):=by
 refine ⟨ytt h hn,fun a=>⟨fun ha=>?_,fun ha=>?_⟩⟩
 ·rcases zbh ha with ha|ha
  ·exact .inl ⟨ha,hn a ha⟩
  ·exact .inr ha
 ·rcases ha with ⟨ha,_⟩|ha
  ·exact yuk (.inl ha)
  ·exact yuk (.inr ha)
theorem yy1 {α:Type} {g:α->Int} {l:List α} {i:Nat} {b x:α} (h:Up g l) (hi:l[i]? = some b) (hid:g x=g b):Put1 g l x (l.set i x):=by
 have hl:=(uaj.1 hi).1;refine ⟨yus h (fun y hy=>by rw [hi] at hy; cases hy; exact hid),fun a=>⟨fun ha=>?_,fun ha=>?_⟩⟩
 ·by_cases hax:a=x
  ·exact .inr hax
  ·refine .inl ?_;obtain ⟨k,hk⟩:=ud3 ha;by_cases hki:i=k
   ·subst hki;rw [uf0 hl] at hk;exact absurd (udw hk).symm hax
   ·rw [ue1 hki] at hk;have hm:=ube hk;refine ⟨hm,fun e=>hki ?_⟩;have hab:a=b:=jaa h hm (ube hi) (e.trans hid);subst hab;have g1:=uaj.1 hi;have g2:=uaj.1 hk;rcases udm i k with hlt|heq|hgt
    ·have:=(udp.1 h) _ _ g1.1 g2.1 hlt;rw [g1.2,g2.2] at this;exact absurd this (uec _)
    ·exact heq
    ·have:=(udp.1 h) _ _ g2.1 g1.1 hgt;rw [g1.2,g2.2] at this;exact absurd this (uec _)
 ·rcases ha with ⟨ha,hne⟩|ha
  ·obtain ⟨k,hk⟩:=ud3 ha;by_cases hki:i=k
   ·subst hki;rw [hi] at hk;cases hk;exact absurd hid.symm hne
   ·exact ube ((ue1 hki).trans hk)
  ·subst ha;exact ube (uf0 hl)
theorem yzx {α:Type} {g:α->Int} {l l1 l12 l2 l21:List α} {x y:α} (hne:g x≠g y) (h1:Put1 g l x l1) (h12:Put1 g l1 y l12) (h2:Put1 g l y l2) (h21:Put1 g l2 x l21):l12=l21:=by
 refine yz2 _ _ h12.up h21.up fun a=>?_;rw [h12.mem,h1.mem,h21.mem,h2.mem];constructor
 ·rintro (⟨⟨ha,h3⟩|rfl,h4⟩|rfl)
  ·exact .inl ⟨.inl ⟨ha,h4⟩,h3⟩
  ·exact .inr rfl
  ·exact .inl ⟨.inr rfl,fun e=>hne e.symm⟩
 ·rintro (⟨⟨ha,h3⟩|rfl,h4⟩|rfl)
  ·exact .inl ⟨.inl ⟨ha,h4⟩,h3⟩
  ·exact .inr rfl
  ·exact .inl ⟨.inr rfl,hne⟩
theorem yzy {α:Type} {g:α->Int} {l l1:List α} {x:α} (h1:Put1 g l x l1) {id:Int} (hne:g x≠id) {a:α} (hid:g a=id):a∈l1↔a∈l:=by
 rw [h1.mem];constructor
 ·rintro (⟨ha,_⟩|rfl)
  ·exact ha
  ·exact absurd hid hne
 ·exact fun ha=>.inl ⟨ha,fun e=>hne (e.symm.trans hid)⟩
theorem zo8 {a p:Int} (ha:0<=a/\a<=255) (hp:0<=p/\p<=7) :
  IntKind.i64.wrap ((BitVec.ofInt IntKind.i64.bits (Int.fdiv a (2 ^ min (Int.toNat p) IntKind.i64.bits)) &&& BitVec.ofInt IntKind.i64.bits 1).toNat:Int)=if a.toNat.testBit p.toNat then 1 else 0:=by
 have key:∀ n:Fin 256,∀ k:Fin 8,IntKind.i64.wrap ((BitVec.ofInt IntKind.i64.bits (Int.fdiv ((n.1:Nat):Int) (2 ^ min (Int.toNat ((k.1:Nat):Int)) IntKind.i64.bits)) &&& BitVec.ofInt IntKind.i64.bits 1).toNat:Int)=if n.1.testBit k.1 then 1 else 0:=by decide +kernel
 have h:=key ⟨a.toNat,by omega⟩ ⟨p.toNat,by omega⟩;have e1:((a.toNat:Nat):Int)=a:=by omega
 have e2:((p.toNat:Nat):Int)=p:=by omega
 simp only [e1,e2] at h;exact h
theorem yhw {a b:Int} (ha:0<=a/\a<=255) (hb:0<=b/\b<=255) :
  IntKind.i64.wrap ((BitVec.ofInt IntKind.i64.bits a &&& BitVec.ofInt IntKind.i64.bits b).toNat:Int)=((a.toNat &&& b.toNat:Nat):Int):=by
 have h1:∀ n:Fin 256,(BitVec.ofInt IntKind.i64.bits ((n.1:Nat):Int)).toNat=n.1:=by decide +kernel
 have ea:=h1 ⟨a.toNat,by omega⟩;have eb:=h1 ⟨b.toNat,by omega⟩;have e1:((a.toNat:Nat):Int)=a:=by omega
 have e2:((b.toNat:Nat):Int)=b:=by omega
 simp only [e1,e2] at ea eb;rw [BitVec.toNat_and,ea,eb];have:a.toNat &&& b.toNat<=a.toNat:=Nat.and_le_left;exact uag _ (by omega)
def qec (t:qb.den) (d p:Int):Bool:=(t.2.1==1&&inB t.2.2.1.1 t.2.2.1.2.1 d)&&t.2.2.2.2.2.2.2.1.toNat.testBit p.toNat
abbrev per (t:qb.den):Int:=t.2.2.2.2.2.2.2.1
abbrev bpQ (t:qb.den):Int:=t.2.2.2.1
theorem zif (b:Bool) {α:Type} (x y:Fr α):(Fr.br b x y).get=bif b then x.get else y.get:=by cases b<;>rfl
theorem qxj {α:Type} (z:α):(Fr.val z).get=z:=rfl
theorem zll {α:Type} (p:Prop) (x:Fr α):(Fr.need p x).get=x.get:=rfl
theorem qkr {t:qb.den} {d p:Int} (ha:0<=per t/\per t<=255) (hp:0<=p/\p<=7):jc t d p=if qec t d p=true then bpQ t else 0:=by
 unfold jc qww;simp only [zif,zll,qxj];have hb:=zo8 ha hp;have hin:(cIn.f ((t.2.2.1.1,t.2.2.1.2.1,()),d,())).1=inB t.2.2.1.1 t.2.2.1.2.1 d:=rfl;show (bif bif bif t.2.1 != 1 then true else !(inB t.2.2.1.1 t.2.2.1.2.1 d) then true else IntKind.i64.wrap ((BitVec.ofInt IntKind.i64.bits (Int.fdiv (per t) (2 ^ min (Int.toNat p) IntKind.i64.bits)) &&& BitVec.ofInt IntKind.i64.bits 1).toNat:Int)==0 then ((0:Int),()) else (bpQ t,())).1=_;rw [hb];unfold qec;by_cases h1:t.2.1=1
 ·cases h2:inB t.2.2.1.1 t.2.2.1.2.1 d
  ·simp [h1]
  ·cases h3:(per t).toNat.testBit p.toNat<;>simp [h1,h3]
 ·have h1':(t.2.1==1)=false:=by simpa using h1
  have h1'':(t.2.1 != 1)=true:=by simpa using h1
  rw [h1',h1''];rfl
theorem qgn {t:qb.den} (h:qab t=true):1<=per t/\per t<=255:=by
 have hz:qkg 1 255 [per t]=true:=by
  cases hc:qkg 1 255 [per t]
  ·unfold qab qge at h;simp only [zif,qxj] at h;have hc':(vr.f ((1,255,()),[t.2.2.2.2.2.2.2.1],())).1=false:=hc;simp only [hc'] at h;cases h1:(vr.f ((1,1000000000,()),[t.1],())).1<;>simp only [h1] at h
   ·cases h
   ·cases h2:((qi9.f (t.2.2.1,())).1==0)<;>simp only [h2] at h<;>cases h
  ·rfl
 unfold qkg at hz;simpa using hz
theorem qth {t:qb.den} (h:qab t=true) (hk:t.2.1=1):1<=bpQ t/\bpQ t<=10000:=by
 have hz:qkg 1 10000 [bpQ t]=true:=by
  cases hc:qkg 1 10000 [bpQ t]
  ·unfold qab qge at h;simp only [zif,qxj] at h;have hc':(vr.f ((1,10000,()),[t.2.2.2.1],())).1=false:=hc;have hk':(t.2.1==1)=true:=by simp [hk]
   simp only [hc',hk'] at h;cases h1:(vr.f ((1,1000000000,()),[t.1],())).1<;>simp only [h1] at h
   ·cases h
   ·cases h2:((qi9.f (t.2.2.1,())).1==0)<;>simp only [h2] at h
    ·cases h3:(vr.f ((1,255,()),[t.2.2.2.2.2.2.2.1],())).1<;>simp only [h3] at h<;>cases h
    ·cases h
  ·rfl
 unfold qkg at hz;simpa using hz
structure TR (t:qb.den):Prop where
 per:1<=per t/\per t<=255
 bp:t.2.1=1->1<=bpQ t/\bpQ t<=10000
theorem jci {t:qb.den} (h:qab t=true):TR t:=⟨qgn h,qth h⟩
theorem yy4 {t:qb.den} (h:TR t) {d p:Int} (hp:0<=p/\p<=7):0<=jc t d p/\jc t d p<=10000:=by
 have h1:=h.per;rw [qkr ⟨by omega,h1.2⟩ hp];split
 ·rename_i ha;have hk:t.2.1=1:=by
   unfold qec at ha;rw [Bool.and_eq_true,Bool.and_eq_true] at ha;exact eq_of_beq ha.1.1
  have:=h.bp hk;omega
 ·omega
def xc (g:qb.den->Int):List qb.den->Int
 |[]=>0
 |t::l=>g t+xc g l
theorem qpy (g:qb.den->Int) (t:qb.den) (l:List qb.den):xc g (t::l)=g t+xc g l:=rfl
theorem qt9 (l:List qb.den) (t:qb.den):qfu l t=t::l.map (qfy t):=rfl
theorem yk6 (g:qb.den->Int) (t:qb.den) (l:List qb.den):xc g (qfu l t)=g t+xc (fun y=>g (qfy t y)) l:=by
 rw [qt9,qpy];congr 1
 induction l with
 |nil=>rfl
 |cons a r ih=>rw [ud0,qpy,qpy,ih]
theorem ypz {A B C C' S:Int} (h1:A=0+B) (h2:B=C+S) (h3:C=C'):A=C'+S:=by omega
theorem qlh (g:qb.den->Int):(a b:List qb.den)->xc g (a++b)=xc g a+xc g b
 |[],b=>by show xc g b=0+_; omega
 |t::a,b=>by
  show g t+xc g (a++b)=g t+xc g a+xc g b;rw [qlh g a b]; omega
theorem zu7 (g:qb.den->Int) (k:qb.den->Int) (l:List qb.den) (t:qb.den):xc g (qbe k l t)=g t+xc g l:=by
 show xc g (qkk _ l [t])=_;generalize (if plI k l t<0 then (l.length:Int) else plI k l t)=i;unfold qkk;rw [qlh,qlh];have h:xc g l=xc g (l.take i.toNat)+xc g (l.drop i.toNat):=by rw [← qlh,List.take_append_drop]
 rw [h];show _+(g t+0)+_=_;omega
theorem zqo {g k:qb.den->Int}:(l:List qb.den)->(∀ t∈l,g t<=k t)->xc g l<=xc k l
 |[],_=>ua4 _
 |t::l,h=>by
  have h1:=h t ubk;have h2:=zqo l (fun x hx=>h x (ua8 _ hx));show g t+xc g l<=k t+xc k l;omega
theorem zqn {d p:Int}:(l:List qb.den)->(s:Int)->(∀ t∈l,0<=jc t d p/\jc t d p<=10000)->0<=s->s+10000*(l.length:Int)<=1000000000->qto d p l s=s+xc (fun t=>jc t d p) l
 |[],s,_,_,_=>by show s=s+0; omega
 |t::l,s,h,h0,h1=>by
  have hp:=h t ubk;rw [uaf] at h1;have hw:IntKind.i64.wrap (s+jc t d p)=s+jc t d p:=uag _ (by omega);show qto d p l (IntKind.i64.wrap (s+jc t d p))=s+(jc t d p+xc _ l);rw [hw,zqn l (s+jc t d p) (fun x hx=>h x (ua8 _ hx)) (by omega) (by omega)];omega
theorem ze7 (P:qb.den->Prop) [DecidablePred P]:(l:List qb.den)->(∃ t∈l,P t)->∃ x∈l,P x/\∀ y∈l,P y->y.2.2.1.1<=x.2.2.1.1
 |[],h=>by obtain ⟨t,ht,_⟩:=h; cases ht
 |a::l,h=>by
  by_cases hl:∃ t∈l,P t
  ·obtain ⟨x,hx,hpx,hmax⟩:=ze7 P l hl;by_cases ha:P a/\x.2.2.1.1<a.2.2.1.1
   ·refine ⟨a,ubk,ha.1,fun y hy hpy=>?_⟩;rcases ua2.1 hy with rfl|hy
    ·exact ua4 _
    ·have:=hmax y hy hpy; exact ub6 this (ubs ha.2)
   ·refine ⟨x,ua8 _ hx,hpx,fun y hy hpy=>?_⟩;rcases ua2.1 hy with rfl|hy
    ·exact udt.1 fun hlt=>ha ⟨hpy,hlt⟩
    ·exact hmax y hy hpy
  ·obtain ⟨t,ht,hpt⟩:=h;rcases ua2.1 ht with rfl|ht
   ·refine ⟨t,ubk,hpt,fun y hy hpy=>?_⟩;rcases ua2.1 hy with rfl|hy
    ·exact ua4 _
    ·exact absurd ⟨y,hy,hpy⟩ hl
   ·exact absurd ⟨t,ht,hpt⟩ hl
theorem ybp {l:List qb.den} {day p:Int} (hp:0<=p/\p<=7) (h:qto day p l 0>10000):qlp l day=true:=by
 have hd:=uan h;have h8:p=0∨p=1∨p=2∨p=3∨p=4∨p=5∨p=6∨p=7:=by omega
 unfold qlp;rcases h8 with rfl|rfl|rfl|rfl|rfl|rfl|rfl|rfl<;>simp only [qn4,Int.reduceAdd,hd,Bool.true_or,Bool.or_true]
theorem zqf {t x:qb.den} (ht:1<=per t/\per t<=255) (hx:1<=per x/\per x<=255):per (qfy t x)=(((per x).toNat &&& (per t).toNat:Nat):Int)/\0<=per (qfy t x)/\per (qfy t x)<=255:=by
 have h:per (qfy t x)=(((per x).toNat &&& (per t).toNat:Nat):Int):=yhw ⟨ub6 (by decide) hx.1,hx.2⟩ ⟨ub6 (by decide) ht.1,ht.2⟩;have h2:(per x).toNat &&& (per t).toNat<=(per x).toNat:=Nat.and_le_left;rw [h];exact ⟨rfl,by omega,by omega⟩
theorem yko {t x:qb.den} {d p:Int} (ht:1<=per t/\per t<=255) (hx:1<=per x/\per x<=255) (h1:qec x d p=true) (h2:(per t).toNat.testBit p.toNat=true):qec (qfy t x) d p=true:=by
 unfold qec at h1 ⊢;rw [Bool.and_eq_true] at h1 ⊢;refine ⟨h1.1,?_⟩;show (per (qfy t x)).toNat.testBit p.toNat=true;rw [(zqf ht hx).1];show (((per x).toNat &&& (per t).toNat)).testBit p.toNat=true;rw [Nat.testBit_and,h2,Bool.and_true];exact h1.2
theorem yc0 {a b d:Int}:inB a b d=true↔1<=a/\b<=292195/\a<=d/\d<b:=by unfold inB; exact decide_eq_true_iff
set_option maxRecDepth 100000 in
theorem yy7 {l:List qb.den} {t:qb.den} (hl:∀ x∈l,TR x) (ht:TR t) (hn:l.length<=1000) (ho:qlb l t=false) {d p:Int} (hp:0<=p/\p<=7) (ha:qec t d p=true) :
  jc t d p+xc (fun x=>jc x d p) l<=10000:=by
 have htp:=ht.per
 ·refine udt.1 fun hbig=>?_;have hall:∀ x∈t::l,TR x:=fun x hx=>by
   rcases ua2.1 hx with rfl|hx
   ·exact ht
   ·exact hl x hx
  obtain ⟨x,hx,hax,hmax⟩:=ze7 (fun y=>qec y d p=true) (t::l) ⟨t,ubk,ha⟩;have hxd:x.2.2.1.1<=d:=by
   unfold qec at hax;rw [Bool.and_eq_true,Bool.and_eq_true] at hax;exact (yc0.1 hax.1.2).2.2.1
  have hat:∀ y∈t::l,qec y d p=true->qec y x.2.2.1.1 p=true:=fun y hy hay=>by
   have hm:=hmax y hy hay;unfold qec at hay ⊢;rw [Bool.and_eq_true,Bool.and_eq_true] at hay ⊢;have hb:=yc0.1 hay.1.2;exact ⟨⟨hay.1.1,yc0.2 ⟨hb.1,hb.2.1,hm,Int.lt_of_le_of_lt hxd hb.2.2.2⟩⟩,hay.2⟩
  have htb:(per t).toNat.testBit p.toNat=true:=by
   unfold qec at ha;rw [Bool.and_eq_true] at ha;exact ha.2
  have hpr:∀ y∈t::l,0<=per y/\per y<=255:=fun y hy=>⟨ub6 (by decide) (hall y hy).per.1,(hall y hy).per.2⟩;have hrel:∀ y∈l,0<=jc (qfy t y) x.2.2.1.1 p/\jc (qfy t y) x.2.2.1.1 p<=10000/\jc y d p<=jc (qfy t y) x.2.2.1.1 p:=fun y hy=>by
   have hry:=(hl y hy).per;rw [qkr (zqf htp hry).2 hp,qkr (hpr y (ua8 _ hy)) hp];by_cases hay:qec y d p=true
   ·have h2:=yko htp hry (hat y (ua8 _ hy) hay) htb;have hk:y.2.1=1:=by
     unfold qec at hay;rw [Bool.and_eq_true,Bool.and_eq_true] at hay;exact eq_of_beq hay.1.1
    have h3:=(hl y hy).bp hk;rw [if_pos h2,if_pos hay];exact ⟨ub6 (by decide) h3.1,h3.2,ua4 _⟩
   ·rw [if_neg hay];split
    ·rename_i h2;have hk:y.2.1=1:=by
      unfold qec at h2;rw [Bool.and_eq_true,Bool.and_eq_true] at h2;exact eq_of_beq h2.1.1
     have h3:=(hl y hy).bp hk;exact ⟨ub6 (by decide) h3.1,h3.2,ub6 (by decide) h3.1⟩
    ·exact ⟨ua4 _,by decide,ua4 _⟩
  have htt:jc t x.2.2.1.1 p=jc t d p:=by
   rw [qkr (hpr t ubk) hp,qkr (hpr t ubk) hp,if_pos ha,if_pos (hat t ubk ha)]
  have ht2:=yy4 ht (d:=x.2.2.1.1) hp;have hsum:qto x.2.2.1.1 p (qfu l t) 0=jc t d p+xc (fun y=>jc (qfy t y) x.2.2.1.1 p) l:=by
   have hparts:∀ y∈qfu l t,0<=jc y x.2.2.1.1 p/\jc y x.2.2.1.1 p<=10000:=fun y hy=>by
    rw [qt9] at hy;rcases ua2.1 hy with rfl|hy
    ·exact ht2
    ·obtain ⟨z,hz,rfl⟩:=udd.1 hy;exact ⟨(hrel z hz).1,(hrel z hz).2.1⟩
   have hlen:(0:Int)+10000*((qfu l t).length:Int)<=1000000000:=by
    rw [qt9,uaf,ude]; omega
   have h1:qto x.2.2.1.1 p (qfu l t) 0=0+xc (fun y=>jc y x.2.2.1.1 p) (qfu l t):=zqn (qfu l t) 0 hparts (ua4 _) hlen;exact ypz h1 (yk6 (fun y=>jc y x.2.2.1.1 p) t l) htt
  have hle:xc (fun y=>jc y d p) l<=xc (fun y=>jc (qfy t y) x.2.2.1.1 p) l:=zqo l fun y hy=>(hrel y hy).2.2;have hcr:qlp (qfu l t) x.2.2.1.1=true:=ybp hp (by rw [hsum]; omega);have hk:t.2.1=1:=by
   have ha':=ha;unfold qec at ha';rw [Bool.and_eq_true,Bool.and_eq_true] at ha';exact eq_of_beq ha'.1.1
  have hin:inB t.2.2.1.1 t.2.2.1.2.1 x.2.2.1.1=true:=by
   have h2:=hat t List.mem_cons_self ha;unfold qec at h2;rw [Bool.and_eq_true,Bool.and_eq_true] at h2;exact h2.1.2
  have hov:∃ z∈qfu l t,qs9 z t (qfu l t)=true:=by
   have key:∀ z:qb.den,z.2.2.1.1=x.2.2.1.1->qs9 z t (qfu l t)=true:=fun z hz=>by
    unfold qs9;rw [hz];show (bif inB t.2.2.1.1 t.2.2.1.2.1 x.2.2.1.1 then qlp (qfu l t) x.2.2.1.1 else false)=true;rw [hin,hcr];rfl
   rcases ua2.1 hx with rfl|hx
   ·exact ⟨x,ubk,key x rfl⟩
   ·exact ⟨qfy t x,ua8 _ (List.mem_map_of_mem hx),key _ rfl⟩
  unfold qlb at ho;rw [show (t.2.1 != 1)=false by simp [hk]] at ho;have ho:(qfu l t).any (fun z=>qs9 z t (qfu l t))=false:=ho;obtain ⟨z,hz,hzt⟩:=hov;rw [List.any_eq_false] at ho;exact ho z hz hzt
def Γ4:FuncId->Option Ct:=fun f=>if f=95 then some xx else none
def C4:Cx:=⟨Γ4,fun _=>none,fun _ _ _ _=>none⟩
theorem jbz:CxOK Tryz.prog C4:=zlq fun f ct h=>by
 simp only [Γ4] at h;split at h
 ·rename_i hf; subst hf; cases h; exact zuo
 ·cases h
def jce (s:zy.den):Int:=if qdy s=true then s.2.1-s.1 else 0
def yyo:Ct:=⟨[.d zy],[i64],fun x=>(jce x.1,()),fun _=>[]⟩
theorem jak {a b:Int} {u:Unit}:qdy (a,b,u)=true↔1<=a/\a<=b/\b<=292195:=by
 simp [qdy]
theorem yz7:qa Tryz.prog 62 yyo:=
 plain (ps:=[.d zy]) (rs:=[i64]) jbz (fn:=Tryz.f62) (fr:=fun x=>Fr.br (!(xx.f ((x.1.1,x.1.2.1,()),())).1) (Fr.val (0,())) (Fr.val (IntKind.i64.wrap (x.1.2.1-x.1.1),()))) ((0,0,()),()) (by kernel_rfl) (fun x=>by kernel_rfl) _ _
  (fun _ _ xs _ _ _=>by
   obtain ⟨⟨a,b,u⟩,_⟩:=xs;refine ⟨⟨fun _=>trivial,fun _=>trivial⟩,?_⟩;show (if (!(qdy (a,b,())))=true then ((0:Int),()) else (IntKind.i64.wrap (b-a),()))=(if qdy (a,b,u)=true then b-a else 0,());by_cases h:qdy (a,b,())=true
   ·have h':=jak.1 h;have hw:IntKind.i64.wrap (b-a)=b-a:=uag _ (by omega);rw [h,hw];simp
   ·have h':qdy (a,b,())=false:=by simpa using h
    rw [h'];simp)
noncomputable def jcb:Cx:=cx [(62,yyo)] []
theorem jbf:CxOK Tryz.prog jcb:=zc (cs:=[(62,yyo)]) (ps:=[]) qv ⟨yz7,trivial⟩ trivial
def yz6 (x:qn [.d i64,.d i64,.d i64]):Fr (qi [.bool]):=
 Fr.val (bif decide (x.1≥x.2.1) then decide (x.1<=x.2.2.1) else false,())
theorem jae:qa Tryz.prog 61 ⟨[.d i64,.d i64,.d i64],[.bool],fun xs=>(yz6 xs).get,fun xs=>[(yz6 xs).ok]⟩:=
 qg jbf (Λ:=qq) (fn:=Tryz.f61) (dfP [.d i64,.d i64,.d i64]) (by kernel_rfl) (fun c E _=>qe c 0) (fun x=>by kernel_rfl)
def yx6:Ct:=⟨zh4,[.bool],fun x=>(qp2 x.1 x.2.1 x.2.2.1,()),fun _=>[]⟩
theorem jbk:qa Tryz.prog 61 yx6:=conv jae _ _ (fun _ _ _ _ _ _=>⟨trivial,rfl⟩)
noncomputable def jb0:Cx:=cx [(62,yyo),(61,yx6)] []
theorem jay:CxOK Tryz.prog jb0:=zc (cs:=[(62,yyo),(61,yx6)]) (ps:=[]) qv ⟨yz7,jbk,trivial⟩ trivial
def yxu (x:qn [.d qb]):Fr (qi [.bool]):=
 Fr.br (bif bif !(yx6.f (x.1.1,1,1000000000,())).1 then true else (yyo.f (x.1.2.2.1,())).1==0 then true else !(yx6.f (x.1.2.2.2.2.2.2.2.1,1,255,())).1) (Fr.val (false,())) (Fr.br (x.1.2.1==1) (Fr.val (bif bif bif (yx6.f (x.1.2.2.2.1,1,10000,())).1 then x.1.2.2.2.2.1==0 else false then x.1.2.2.2.2.2.1==0 else false then x.1.2.2.2.2.2.2.1==0 else false,())) (Fr.br (bif x.1.2.1 != 2 then x.1.2.1 != 3 else false) (Fr.val (false,())) (Fr.val (bif bif bif x.1.2.2.2.1==0 then (yx6.f (x.1.2.2.2.2.1,0,1000000000000000,())).1 else false then (yx6.f (x.1.2.2.2.2.2.1,1,1000000000000000,())).1 else false then (yx6.f (x.1.2.2.2.2.2.2.1,0,100,())).1 else false,()))))
theorem yzm:qa Tryz.prog 34 ⟨[.d qb],[.bool],fun xs=>(yxu xs).get,fun xs=>[(yxu xs).ok]⟩:=
 qg jay (Λ:=qq) (fn:=Tryz.f34) (dfP [.d qb]) (by kernel_rfl) (fun c E _=>qe c 0) (fun x=>by kernel_rfl)
def yxv (t:qb.den):Bool:=(yxu (t,())).get.1
def yyi:Ct:=⟨[.d qb],[.bool],fun x=>(yxv x.1,()),fun _=>[]⟩
theorem jaj:qa Tryz.prog 34 yyi:=conv yzm _ _ (fun _ _ x _ _ _=>⟨by show (yxu x).ok; unfold yxu; (repeat' first|exact trivial|(refine ⟨fun _=>?_,fun _=>?_⟩)),rfl⟩)
def yzc (a:zh.den):Bool:=!(bif decide (a.2.2.1 < -1000000000000000) then true else decide (a.2.2.1>1000000000000000))
def yyh (g:qt.den):Bool:=List.all (α:=zh.den) g.2.1 yzc&&decide (((List.length (α:=zh.den) g.2.1:Nat):Int)<=100)
def yza:Ct:=⟨[.d qt],[.bool],fun x=>(yyh x.1,()),fun _=>[]⟩
theorem jbp:qa Tryz.prog 33 yza:=conv yzs _ _ (fun w F x vs hr _=>by
 obtain ⟨g,_⟩:=x;obtain ⟨v,vs',rfl,hv,_⟩:=hr;have hlen:=zpn hv;have hg:yxt ((0,()),g,())=if List.all (α:=zh.den) g.2.1 yzc=true then .inl ((),g,()) else .inr ((false,()),()):=by
  show goL yxl (List.drop 0 g.2.1) ((),g,())=_;rw [List.drop_zero,qc7 (step:=yxl) (I:=fun _=>True) (p:=yzc) (c:=((false,()),())) (fun e s _=>?_) _ _ trivial];show (Fr.br (bif decide (e.2.2.1 < -1000000000000000) then true else decide (e.2.2.1>1000000000000000)) _ _).get=_;unfold yzc;cases (bif decide (e.2.2.1 < -1000000000000000) then true else decide (e.2.2.1>1000000000000000))<;>rfl
 refine Fr.need_ ⟨trivial,Int.le_refl _,Int.natCast_nonneg _,hlen⟩ (Fr.need_ (qc8 (step:=yxl) _ (fun e _ s=>⟨fun _=>trivial,fun _=>trivial⟩) _) ?_);show _/\_=(yyh g,());unfold yyh;cases h:List.all (α:=zh.den) g.2.1 yzc
 ·rw [h,if_neg (by decide)] at hg;refine Fr.br_f (by show isL (yxt ((0,()),g,()))=false; rw [hg]; rfl) ⟨trivial,?_⟩;show ((jk yx8 (yxt ((0,()),g,()))).1.1,())=_;rw [hg];rfl
 ·rw [h,if_pos rfl] at hg;refine Fr.br_t (by show isL (yxt ((0,()),g,()))=true; rw [hg]; rfl) ⟨trivial,?_⟩;show (decide (((List.length (α:=zh.den) (yx4 (qap yx9 (yxt ((0,()),g,())))).2.1.2.1:Nat):Int)<=100),())=_;rw [hg];rfl)
noncomputable def jcc:Cx:=cx [(32,zrj),(33,yza),(34,yyi)] []
theorem yzd:CxOK Tryz.prog jcc:=zc (cs:=[(32,zrj),(33,yza),(34,yyi)]) (ps:=[]) qv ⟨ynt,jbp,jaj,trivial⟩ trivial
abbrev yxi:Pt:=⟨77,0,⟨[(3,.d i64)],[.x 1 29 stateT,.r 1 1 0]⟩,⟨[],[.x 1 29 stateT,.r 1 1 0]⟩,⟨[(2,.d .bool)],[]⟩⟩
def yzt (x:yxi.M.X):Fr yxi.Out:=
 Fr.br (decide (x.1.1<((List.length x.2.1.2.1):Int))) (Fr.need (0<=x.1.1/\x.1.1<((List.length x.2.1.2.1):Int)) (Fr.br (!(zrj.f ((List.getD x.2.1.2.1 (Int.toNat x.1.1) zf.dflt).1,(x.2.1.1.1,()),())).1) (Fr.val (Rd.back ((false,()),()))) (Fr.val (Rd.next ((IntKind.i64.wrap (x.1.1+1),()),x.2.1,()))))) (Fr.val (Rd.out ((),x.2.1,())))
theorem jau:qf Tryz.prog (qo Tryz.f11 0) yxi.M yxi yzt:=
 qf.of_run yzd (bs:=0) (Λ:=qq) rfl rfl rfl (fun E=>qe _ 0) (fun x=>by kernel_rfl)
abbrev yx5:Type:=qn []×jd [.x 1 29 stateT,.r 1 1 0]
def yxp (e:zf.den) (s:yx5):Fr (yx5 ⊕ yxi.R.X):=
 Fr.br (!(zrj.f (e.1,(s.2.1.1.1,()),())).1) (Fr.val (.inr ((false,()),()))) (Fr.val (.inl ((),s.2.1,())))
def yxs (x:yxi.M.X):Int×List zf.den×yx5:=(x.1.1,x.2.1.2.1,x.1.2,x.2)
def yyg (x:yxi.M.X):Prop:=True
def yya (s:yx5):yxi.E.X:=((),s.2.1,())
def yyj:yx5:=(dfP _,dfM _)
def yyp:yxi.R.X:=(dfP _,dfM _)
theorem jaf:qf Tryz.prog (.loop (qo Tryz.f11 0)) yxi.M yxi (FL yxp yxs yyg yya Rd.back yyj yyp):=by
 refine qf.list jau yxp yxs yyg yya Rd.back yyj yyp ?_ ?_
 ·rintro ⟨⟨i,s⟩,m⟩ hg h0 h1 hb e he Q h;have h0:0<=i:=h0;have h1:i<(m.1.2.1.length:Int):=h1;have hb:(m.1.2.1.length:Int)<=9223372036854775807:=hb;have hd:m.1.2.1.getD i.toNat zf.dflt=e:=zp he;have hw:=zu h0 h1 hb;dsimp only [yxs,yxp,yzt,Fr.satP] at h ⊢;simp only [hd,hw] at h ⊢;refine ⟨fun _=>?_,fun hn=>absurd h1 (of_decide_eq_false hn)⟩
  repeat' first
   |exact h
   |exact ⟨h0,h1⟩
   |exact fun _=>⟨h0,h1⟩
   |exact h _ rfl trivial
   |(refine ⟨fun hc=>?_,fun hc=>?_⟩<;>first|replace h:=h.1 hc|replace h:=h.2 hc)
   |(refine ⟨h.1,?_⟩; replace h:=h.2)
   |refine ⟨⟨h0,h1⟩,?_⟩
   |exact h.1
   |exact h.2.1
   |exact h.2.2.1
   |refine ⟨?_,?_⟩
   |(intro (hc:_=true); replace h:=h.1 hc)
   |(intro (hc:_=false); replace h:=h.2 hc)
   |(replace h:=h.2)
 ·rintro ⟨⟨i,s⟩,m⟩ hg h1 Q h;exact ⟨fun hn=>absurd (ua5 hn) h1,fun _=>h⟩
def jbs (Γ:Gm):St->Option Tr:=yxi.han Γ yxi.M (FL yxp yxs yyg yya Rd.back yyj yyp)
def yyd (y:yxi.M.X):yx5 ⊕ yxi.R.X:=goL yxp ((yxs y).2.1.drop (yxs y).1.toNat) (yxs y).2.2
def jaq (y:yxi.M.X):Prop:=okL yxp ((yxs y).2.1.drop (yxs y).1.toNat) (yxs y).2.2
abbrev yxe:Pt:=⟨77,2,⟨[(5,.d i64)],[.x 1 29 stateT,.r 1 1 0]⟩,⟨[],[.x 1 29 stateT,.r 1 1 0]⟩,⟨[(2,.d .bool)],[]⟩⟩
def yzu (x:yxe.M.X):Fr yxe.Out:=
 Fr.br (decide (x.1.1<((List.length x.2.1.2.2.1):Int))) (Fr.need (0<=x.1.1/\x.1.1<((List.length x.2.1.2.2.1):Int)) (Fr.br (!(yza.f ((List.getD x.2.1.2.2.1 (Int.toNat x.1.1) qt.dflt),())).1) (Fr.val (Rd.back ((false,()),()))) (Fr.val (Rd.next ((IntKind.i64.wrap (x.1.1+1),()),x.2.1,()))))) (Fr.val (Rd.out ((),x.2.1,())))
theorem jav:qf Tryz.prog (qo Tryz.f11 1) yxe.M yxe yzu:=
 qf.of_run yzd (bs:=0) (Λ:=qq) rfl rfl rfl (fun E=>qe _ 0) (fun x=>by kernel_rfl)
abbrev yxy:Type:=qn []×jd [.x 1 29 stateT,.r 1 1 0]
def yxq (e:qt.den) (s:yxy):Fr (yxy ⊕ yxe.R.X):=
 Fr.br (!(yza.f (e,())).1) (Fr.val (.inr ((false,()),()))) (Fr.val (.inl ((),s.2.1,())))
def yxn (x:yxe.M.X):Int×List qt.den×yxy:=(x.1.1,x.2.1.2.2.1,x.1.2,x.2)
def yx2 (x:yxe.M.X):Prop:=True
def yyb (s:yxy):yxe.E.X:=((),s.2.1,())
def yyk:yxy:=(dfP _,dfM _)
def yyq:yxe.R.X:=(dfP _,dfM _)
theorem jag:qf Tryz.prog (.loop (qo Tryz.f11 1)) yxe.M yxe (FL yxq yxn yx2 yyb Rd.back yyk yyq):=by
 refine qf.list jav yxq yxn yx2 yyb Rd.back yyk yyq ?_ ?_
 ·rintro ⟨⟨i,s⟩,m⟩ hg h0 h1 hb e he Q h;have h0:0<=i:=h0;have h1:i<(m.1.2.2.1.length:Int):=h1;have hb:(m.1.2.2.1.length:Int)<=9223372036854775807:=hb;have hd:m.1.2.2.1.getD i.toNat qt.dflt=e:=zp he;have hw:=zu h0 h1 hb;dsimp only [yxn,yxq,yzu,Fr.satP] at h ⊢;simp only [hd,hw] at h ⊢;refine ⟨fun _=>?_,fun hn=>absurd h1 (of_decide_eq_false hn)⟩
  repeat' first
   |exact h
   |exact ⟨h0,h1⟩
   |exact fun _=>⟨h0,h1⟩
   |exact h _ rfl trivial
   |(refine ⟨fun hc=>?_,fun hc=>?_⟩<;>first|replace h:=h.1 hc|replace h:=h.2 hc)
   |(refine ⟨h.1,?_⟩; replace h:=h.2)
   |refine ⟨⟨h0,h1⟩,?_⟩
   |exact h.1
   |exact h.2.1
   |exact h.2.2.1
   |refine ⟨?_,?_⟩
   |(intro (hc:_=true); replace h:=h.1 hc)
   |(intro (hc:_=false); replace h:=h.2 hc)
   |(replace h:=h.2)
 ·rintro ⟨⟨i,s⟩,m⟩ hg h1 Q h;exact ⟨fun hn=>absurd (ua5 hn) h1,fun _=>h⟩
def jbt (Γ:Gm):St->Option Tr:=yxe.han Γ yxe.M (FL yxq yxn yx2 yyb Rd.back yyk yyq)
def yye (y:yxe.M.X):yxy ⊕ yxe.R.X:=goL yxq ((yxn y).2.1.drop (yxn y).1.toNat) (yxn y).2.2
def jar (y:yxe.M.X):Prop:=okL yxq ((yxn y).2.1.drop (yxn y).1.toNat) (yxn y).2.2
abbrev yxf:Pt:=⟨77,4,⟨[(7,.d i64)],[.x 1 29 stateT,.r 1 1 0]⟩,⟨[],[.x 1 29 stateT,.r 1 1 0]⟩,⟨[(2,.d .bool)],[]⟩⟩
def yzv (x:yxf.M.X):Fr yxf.Out:=
 Fr.br (decide (x.1.1<((List.length x.2.1.2.2.2.1):Int))) (Fr.need (0<=x.1.1/\x.1.1<((List.length x.2.1.2.2.2.1):Int)) (Fr.br (!(yyi.f ((List.getD x.2.1.2.2.2.1 (Int.toNat x.1.1) qb.dflt),())).1) (Fr.val (Rd.back ((false,()),()))) (Fr.val (Rd.next ((IntKind.i64.wrap (x.1.1+1),()),x.2.1,()))))) (Fr.val (Rd.out ((),x.2.1,())))
theorem jaw:qf Tryz.prog (qo Tryz.f11 2) yxf.M yxf yzv:=
 qf.of_run yzd (bs:=0) (Λ:=qq) rfl rfl rfl (fun E=>qe _ 0) (fun x=>by kernel_rfl)
abbrev yxz:Type:=qn []×jd [.x 1 29 stateT,.r 1 1 0]
def yxr (e:qb.den) (s:yxz):Fr (yxz ⊕ yxf.R.X):=
 Fr.br (!(yyi.f (e,())).1) (Fr.val (.inr ((false,()),()))) (Fr.val (.inl ((),s.2.1,())))
def yxo (x:yxf.M.X):Int×List qb.den×yxz:=(x.1.1,x.2.1.2.2.2.1,x.1.2,x.2)
def yx3 (x:yxf.M.X):Prop:=True
def yyc (s:yxz):yxf.E.X:=((),s.2.1,())
def yyl:yxz:=(dfP _,dfM _)
def yyr:yxf.R.X:=(dfP _,dfM _)
theorem jah:qf Tryz.prog (.loop (qo Tryz.f11 2)) yxf.M yxf (FL yxr yxo yx3 yyc Rd.back yyl yyr):=by
 refine qf.list jaw yxr yxo yx3 yyc Rd.back yyl yyr ?_ ?_
 ·rintro ⟨⟨i,s⟩,m⟩ hg h0 h1 hb e he Q h;have h0:0<=i:=h0;have h1:i<(m.1.2.2.2.1.length:Int):=h1;have hb:(m.1.2.2.2.1.length:Int)<=9223372036854775807:=hb;have hd:m.1.2.2.2.1.getD i.toNat qb.dflt=e:=zp he;have hw:=zu h0 h1 hb;dsimp only [yxo,yxr,yzv,Fr.satP] at h ⊢;simp only [hd,hw] at h ⊢;refine ⟨fun _=>?_,fun hn=>absurd h1 (of_decide_eq_false hn)⟩
  repeat' first
   |exact h
   |exact ⟨h0,h1⟩
   |exact fun _=>⟨h0,h1⟩
   |exact h _ rfl trivial
   |(refine ⟨fun hc=>?_,fun hc=>?_⟩<;>first|replace h:=h.1 hc|replace h:=h.2 hc)
   |(refine ⟨h.1,?_⟩; replace h:=h.2)
   |refine ⟨⟨h0,h1⟩,?_⟩
   |exact h.1
   |exact h.2.1
   |exact h.2.2.1
   |refine ⟨?_,?_⟩
   |(intro (hc:_=true); replace h:=h.1 hc)
   |(intro (hc:_=false); replace h:=h.2 hc)
   |(replace h:=h.2)
 ·rintro ⟨⟨i,s⟩,m⟩ hg h1 Q h;exact ⟨fun hn=>absurd (ua5 hn) h1,fun _=>h⟩
def jbu (Γ:Gm):St->Option Tr:=yxf.han Γ yxf.M (FL yxr yxo yx3 yyc Rd.back yyl yyr)
def yyf (y:yxf.M.X):yxz ⊕ yxf.R.X:=goL yxr ((yxo y).2.1.drop (yxo y).1.toNat) (yxo y).2.2
def jas (y:yxf.M.X):Prop:=okL yxr ((yxo y).2.1.drop (yxo y).1.toNat) (yxo y).2.2
noncomputable def jab:Cx:=cx [(32,zrj)] []
theorem yyu:CxOK Tryz.prog jab:=zc (cs:=[(32,zrj)]) (ps:=[]) qv ⟨ynt,trivial⟩ trivial
def yzq (s:stateT.den):Bool:=bif bif decide (((List.length (α:=zf.den) (kr s):Nat):Int)>20) then true else decide (((List.length (α:=qt.den) (xb s):Nat):Int)>20) then true else decide (((List.length (α:=qb.den) (yw s):Nat):Int)>120)
def yyz (s:stateT.den):Bool:=bif yzq s then false else (kr s).all (fun a=>qsk a.1 s.1)&&((xb s).all yyh&&((yw s).all yxv&&qsk h00 s.1))
def jbd:Ct:=⟨[.d stateT],[.bool],fun x=>(yyz x.1,()),fun _=>[]⟩
abbrev f0 (s:stateT.den):yxi.E.X:=yya (qap yyj (yyd ((0,()),s,())))
abbrev f1 (s:stateT.den):yxe.E.X:=yyb (qap yyk (yye ((0,()),(f0 s).2.1,())))
abbrev f2 (s:stateT.den):yxf.E.X:=yyc (qap yyl (yyf ((0,()),(f1 s).2.1,())))
abbrev e1 (s:stateT.den):yxe.M.X:=((0,()),(f0 s).2.1,())
abbrev e2 (s:stateT.den):yxf.M.X:=((0,()),(f1 s).2.1,())
def yyt (s:stateT.den):Fr (qi [.bool]):=
 Fr.br (yzq s) (Fr.val (false,())) (Fr.need (InL (yyg ((0,()),s,())) (yxs ((0,()),s,()))) (Fr.need (jaq ((0,()),s,())) (Fr.br (isL (yyd ((0,()),s,())))
  (Fr.need (InL (yx2 (e1 s)) (yxn (e1 s))) (Fr.need (jar (e1 s)) (Fr.br (isL (yye (e1 s)))
   (Fr.need (InL (yx3 (e2 s)) (yxo (e2 s))) (Fr.need (jas (e2 s)) (Fr.br (isL (yyf (e2 s))) (Fr.val (qsk h00 (f2 s).2.1.1,())) (Fr.val ((jk yyr (yyf (e2 s))).1.1,())))))
   (Fr.val ((jk yyq (yye (e1 s))).1.1,())))))
  (Fr.val ((jk yyp (yyd ((0,()),s,()))).1.1,())))))
theorem ja4:qa Tryz.prog 11 ⟨[.d stateT],[.bool],fun x=>(yyt x.1).get,fun x=>[(yyt x.1).ok]⟩:=
 qg yyu (Λ:=(fun k=>if k=0 then jbs jab.Γ else if k=1 then jbt jab.Γ else jbu jab.Γ)) (fn:=Tryz.f11) (fr:=fun x=>yyt x.1) (ps:=[.d stateT]) (rs:=[.bool]) (dfP [.d stateT]) (by kernel_rfl)
  (fun c E hc=>yqz hc (by kernel_rfl) (b0:=qo Tryz.f11 0) (b1:=qo Tryz.f11 1) (b2:=qo Tryz.f11 2) (by kernel_rfl) (by kernel_rfl) (by kernel_rfl) (qf.han yyu rfl jaf) (qf.han yyu rfl jag) (qf.han yyu rfl jah)) (fun x=>by kernel_rfl)
theorem rf0 (s:stateT.den):yyd ((0,()),s,())=if (kr s).all (fun a=>qsk a.1 s.1)=true then .inl ((),s,()) else .inr ((false,()),()):=by
 show goL yxp (List.drop 0 (kr s)) ((),s,())=_;rw [uc7,qc7 (step:=yxp) (I:=fun z=>z=((),s,())) (p:=fun a=>qsk a.1 s.1) (c:=((false,()),())) (fun e z hz=>?_) _ _ rfl];subst hz;show (Fr.br (!(qsk e.1 s.1)) _ _).get=_;cases qsk e.1 s.1<;>rfl
theorem rf1 (s:stateT.den):yye ((0,()),s,())=if (xb s).all yyh=true then .inl ((),s,()) else .inr ((false,()),()):=by
 show goL yxq (List.drop 0 (xb s)) ((),s,())=_;rw [uc7,qc7 (step:=yxq) (I:=fun _=>True) (p:=yyh) (c:=((false,()),())) (fun e z _=>?_) _ _ trivial];show (Fr.br (!(yyh e)) _ _).get=_;cases yyh e<;>rfl
theorem rf2 (s:stateT.den):yyf ((0,()),s,())=if (yw s).all yxv=true then .inl ((),s,()) else .inr ((false,()),()):=by
 show goL yxr (List.drop 0 (yw s)) ((),s,())=_;rw [uc7,qc7 (step:=yxr) (I:=fun _=>True) (p:=yxv) (c:=((false,()),())) (fun e z _=>?_) _ _ trivial];show (Fr.br (!(yxv e)) _ _).get=_;cases yxv e<;>rfl
theorem yzr:qa Tryz.prog 11 jbd:=conv ja4 _ _ (fun w F x vs hr _=>by
 obtain ⟨s,_⟩:=x;obtain ⟨v,vs',rfl,hv,_⟩:=hr;obtain ⟨w1,w2,w3⟩:=ye4 hv;show (yyt s).ok/\(yyt s).get=(yyz s,());unfold yyz;cases h:yzq s
 ·refine Fr.br_f h (zzs (v:=fun r=>r.1.1) (s1:=((),s,())) (c:=((false,()),())) ⟨trivial,ua4 _,uak _,w1⟩ (qc8 (step:=yxp) _ (fun e _ s=>⟨fun _=>trivial,fun _=>trivial⟩) _) (rf0 s) rfl fun h0=>?_);have q0:f0 s=((),s,()):=by
   show yya (qap yyj (yyd ((0,()),s,())))=_;rw [rf0,if_pos h0]; rfl
  have q1:e1 s=((0,()),s,()):=by show ((0,()),(f0 s).2.1,())=_; rw [q0]
  rw [q1];refine zzs (good:=InL (yx2 ((0,()),s,())) (yxn ((0,()),s,()))) (σ:=yxy) (ρ:=yxe.R.X) (v:=fun r=>r.1.1) (s1:=((),s,())) (c:=((false,()),())) (by exact ⟨trivial,ua4 _,uak _,w2⟩) (qc8 (step:=yxq) _ (fun e _ s=>⟨fun _=>trivial,fun _=>trivial⟩) _) (rf1 s) rfl fun h1=>?_;have q2:f1 s=((),s,()):=by
   show yyb (qap yyk (yye (e1 s)))=_;rw [q1,rf1,if_pos h1]; rfl
  have q3:e2 s=((0,()),s,()):=by show ((0,()),(f1 s).2.1,())=_; rw [q2]
  rw [q3];refine zzs (good:=InL (yx3 ((0,()),s,())) (yxo ((0,()),s,()))) (σ:=yxz) (ρ:=yxf.R.X) (v:=fun r=>r.1.1) (s1:=((),s,())) (c:=((false,()),())) (by exact ⟨trivial,ua4 _,uak _,w3⟩) (qc8 (step:=yxr) _ (fun e _ s=>⟨fun _=>trivial,fun _=>trivial⟩) _) (rf2 s) rfl fun h2=>⟨trivial,?_⟩;have q4:f2 s=((),s,()):=by
   show yyc (qap yyl (yyf (e2 s)))=_;rw [q3,rf2,if_pos h2]; rfl
  show (qsk h00 (f2 s).2.1.1,())=_;rw [q4]
 ·exact Fr.br_t h ⟨trivial,rfl⟩)
theorem ja3 {l:List qb.den} {day:Int} (h:qlp l day=true):∃ p:Int,(0<=p/\p<=7)/\qto day p l 0>10000:=by
 unfold qlp at h;simp only [qn4,Int.reduceAdd,Bool.or_false,Bool.or_eq_true,decide_eq_true_eq] at h;rcases h with h|h|h|h|h|h|h|h
 ·exact ⟨0,by omega,h⟩
 ·exact ⟨1,by omega,h⟩
 ·exact ⟨2,by omega,h⟩
 ·exact ⟨3,by omega,h⟩
 ·exact ⟨4,by omega,h⟩
 ·exact ⟨5,by omega,h⟩
 ·exact ⟨6,by omega,h⟩
 ·exact ⟨7,by omega,h⟩
theorem ja0 {t:qb.den} {d p:Int} (h:qec t d p=true):t.2.1=1:=by
 unfold qec at h;rw [Bool.and_eq_true,Bool.and_eq_true] at h;exact eq_of_beq h.1.1
theorem jbg {t:qb.den} {d p:Int} (h:qec t d p=true):(per t).toNat.testBit p.toNat=true:=by
 unfold qec at h;rw [Bool.and_eq_true] at h;exact h.2
theorem jbh {t x:qb.den} {d p:Int} (ht:1<=per t/\per t<=255) (hx:1<=per x/\per x<=255) (h:qec (qfy t x) d p=true):qec x d p=true/\(per t).toNat.testBit p.toNat=true:=by
 have hb:=jbg h;unfold qec at h ⊢;rw [Bool.and_eq_true] at h ⊢;rw [(zqf ht hx).1] at hb;have hb:(((per x).toNat &&& (per t).toNat)).testBit p.toNat=true:=hb;rw [Nat.testBit_and,Bool.and_eq_true] at hb;exact ⟨⟨h.1,hb.1⟩,hb.2⟩
theorem yzl {g:qb.den->Int}:(l:List qb.den)->(∀ t∈l,g t=0)->xc g l=0
 |[],_=>rfl
 |t::l,h=>by
  have h1:=h t ubk;have h2:=yzl l (fun x hx=>h x (ua8 _ hx));show g t+xc g l=0;omega
theorem yz5 {a b c:Int} (h1:a=b) (h2:b<=c) (h3:c<=10000):¬ a>10000:=by omega
theorem yz8 {l:List qb.den} {t:qb.den} (hl:∀ x∈l,TR x) (ht:TR t) (hn:l.length<=1000)
  (h:∀ d p,0<=p/\p<=7->qec t d p=true->jc t d p+xc (fun x=>jc x d p) l<=10000):qlb l t=false:=by
 unfold qlb;cases hk:t.2.1 != 1
 ·show (qfu l t).any (fun x=>qs9 x t (qfu l t))=false;rw [List.any_eq_false];intro x hx hov;unfold qs9 at hov;have hov:(bif inB t.2.2.1.1 t.2.2.1.2.1 x.2.2.1.1 then qlp (qfu l t) x.2.2.1.1 else false)=true:=hov;cases hin:inB t.2.2.1.1 t.2.2.1.2.1 x.2.2.1.1
  ·rw [hin] at hov; cases hov
  ·rw [hin] at hov;have hov:qlp (qfu l t) x.2.2.1.1=true:=hov;obtain ⟨p,hp,hs⟩:=ja3 hov;generalize x.2.2.1.1=d at hin hs;have htt:=yy4 ht (d:=d) hp;have hrl:∀ y∈l,0<=jc (qfy t y) d p/\jc (qfy t y) d p<=10000/\jc (qfy t y) d p<=jc y d p/\((per t).toNat.testBit p.toNat=false->jc (qfy t y) d p=0):=fun y hy=>by
    have hry:=(hl y hy).per;have h0:=yy4 (hl y hy) (d:=d) hp;rw [qkr (zqf ht.per hry).2 hp];by_cases hra:qec (qfy t y) d p=true
    ·have h2:=jbh ht.per hry hra;have hbq:=(hl y hy).bp (ja0 h2.1);rw [if_pos hra];have e1:jc y d p=bpQ y:=by rw [qkr ⟨ub6 (by decide) hry.1,hry.2⟩ hp,if_pos h2.1]
     have e2:bpQ (qfy t y)=bpQ y:=rfl;rw [e1,e2];exact ⟨ub6 (by decide) hbq.1,hbq.2,ua4 _,fun hb=>by rw [h2.2] at hb; cases hb⟩
    ·rw [if_neg hra];exact ⟨ua4 _,by decide,h0.1,fun _=>rfl⟩
   have hsum:qto d p (qfu l t) 0=jc t d p+xc (fun y=>jc (qfy t y) d p) l:=by
    have hparts:∀ y∈qfu l t,0<=jc y d p/\jc y d p<=10000:=fun y hy=>by
     rw [qt9] at hy;rcases ua2.1 hy with rfl|hy
     ·exact htt
     ·obtain ⟨z,hz,rfl⟩:=udd.1 hy;exact ⟨(hrl z hz).1,(hrl z hz).2.1⟩
    have hlen:(0:Int)+10000*((qfu l t).length:Int)<=1000000000:=by
     rw [qt9,uaf,ude]; omega
    have h1:qto d p (qfu l t) 0=0+xc (fun y=>jc y d p) (qfu l t):=zqn (qfu l t) 0 hparts (ua4 _) hlen;exact ypz h1 (yk6 (fun y=>jc y d p) t l) rfl
   cases hb:(per t).toNat.testBit p.toNat
   ·have hz:=yzl (g:=fun y=>jc (qfy t y) d p) l (fun y hy=>(hrl y hy).2.2.2 hb);rw [hz] at hsum;exact yz5 hsum (ufg (ugd _)) htt.2 hs
   ·have hact:qec t d p=true:=by
     unfold qec;rw [hin,hb,show (t.2.1==1)=true by simpa using hk]; rfl
    have hle:xc (fun y=>jc (qfy t y) d p) l<=xc (fun y=>jc y d p) l:=zqo l fun y hy=>(hrl y hy).2.2.1;exact yz5 hsum (Int.add_le_add_left hle _) (h d p hp hact) hs
 ·rfl
theorem jcf {a b c x:Int} (h:a+x<=10000) (e:x=b+c) (hb:0<=b):a+c<=10000:=by omega
theorem jcg {a b c x y:Int} (h:a+x<=10000) (e:x=b+c) (e2:y=a+c):b+y<=10000:=by omega
theorem jch {a b c y:Int} (h:b+c<=10000) (e2:y=a+c) (hz:a=0):b+y<=10000:=by omega
theorem jat {s:List qb.den} {t1 t2:qb.den} (k:qb.den->Int) (hl:∀ x∈s,TR x) (h1:TR t1) (h2:TR t2) (hn:s.length<=900) (ho1:qlb s t1=false) (ho2:qlb (qbe k s t1) t2=false) :
  qlb s t2=false/\qlb (qbe k s t2) t1=false:=by
 have hm:∀ {t:qb.den},TR t->∀ x∈qbe k s t,TR x:=fun ht x hx=>by
  rcases zbh hx with hx|rfl
  ·exact hl x hx
  ·exact ht
 have hln:∀ t:qb.den,(qbe k s t).length<=1000:=fun t=>by rw [qmp]; omega
 refine ⟨yz8 hl h2 (by omega) fun d p hp ha=>?_,yz8 (hm h2) h1 (hln t2) fun d p hp ha=>?_⟩
 ·exact jcf (yy7 (hm h1) h2 (hln t1) ho2 hp ha) (zu7 (fun x=>jc x d p) k s t1) (yy4 h1 hp).1
 ·by_cases hb:qec t2 d p=true
  ·exact jcg (yy7 (hm h1) h2 (hln t1) ho2 hp hb) (zu7 (fun x=>jc x d p) k s t1) (zu7 (fun x=>jc x d p) k s t2)
  ·refine jch (yy7 hl h1 (by omega) ho1 hp ha) (zu7 (fun x=>jc x d p) k s t2) ?_;rw [qkr ⟨ub6 (by decide) h2.per.1,h2.per.2⟩ hp,if_neg hb]
def yyn (t:ze.den) (fl:List qt.den) (l:List zf.den) (f:factT.den) (x:zf.den):Prop:=
 (za f=1/\(∀ a∈l,aId a≠fId f)/\(bH f).2=0/\(qsf (bH f).1 t).2=0/\x=((bH f).1,0,())) ∨
 (za f=2/\fl.any (qye f)=false/\∃ a∈l,aId a=fId f/\(qvn a.1 (qei f)).2=0/\(qsf (qvn a.1 (qei f)).1 t).2=0/\x=((qvn a.1 (qei f)).1,a.2.1,())) ∨
 (za f=3/\∃ a∈l,aId a=fId f/\¬ qif f>IntKind.i64.wrap (4000000000000000000-a.2.1)/\x=(a.1,IntKind.i64.wrap (a.2.1+qif f),()))
theorem yzo {t:ze.den} {fl:List qt.den} {l:List zf.den} {f:factT.den} {x:zf.den} (h:yyn t fl l f x):aId x=fId f:=by
 rcases h with ⟨_,_,h,_,rfl⟩|⟨_,_,a,_,h,h2,_,rfl⟩|⟨_,a,_,h,_,rfl⟩
 ·exact yu3 h
 ·exact (yvh h2).trans h
 ·exact h
theorem yy8 {t:ze.den} {fl fl':List qt.den} {l l':List zf.den} {f:factT.den} {x:zf.den} (h:yyn t fl l f x) (hl:∀ a,aId a=fId f->(a∈l'↔a∈l)) (hf:fl'.any (qye f)=fl.any (qye f)):yyn t fl' l' f x:=by
 rcases h with ⟨k,h1,h2⟩|⟨k,h1,a,ha,h2,h3⟩|⟨k,a,ha,h2,h3⟩
 ·exact .inl ⟨k,fun a ha he=>h1 a ((hl a he).1 ha) he,h2⟩
 ·exact .inr (.inl ⟨k,by rw [hf]; exact h1,a,(hl a h2).2 ha,h2,h3⟩)
 ·exact .inr (.inr ⟨k,a,(hl a h2).2 ha,h2,h3⟩)
theorem yyw {s:stateT.den} {f:factT.den} (hu:Up aId (kr s)) (hk:za f=1∨za f=2∨za f=3) (e:(doF s f).2=0) :
  ∃ x l',yyn s.1 (xb s) (kr s) f x/\(doF s f).1=qhb s l'/\Put1 aId (kr s) x l'/\l'.length<=(kr s).length+1:=by
 rw [yt3] at e ⊢;rcases hk with k|k|k<;>rw [k] at e ⊢
 ·have e:(qff s f).2=0:=e;show ∃ x l',_/\(qff s f).1=_/\_;unfold qff at e ⊢;cases h1:decide (aI s f≥0)
  ·rw [h1] at e;cases h2:decide (((List.length (kr s):Nat):Int)≥2000)
   ·rw [h2] at e;have e:(bif (bH f).2==0 then (qsf (bH f).1 s.1).2 else (bH f).2)=0:=e;obtain ⟨e1,e2⟩:=yt2 e;have hn:=yum (uac h1);refine ⟨((bH f).1,0,()),qbe aId (kr s) ((bH f).1,0,()),.inl ⟨k,hn,e1,e2,rfl⟩,rfl,yx0 hu (fun y hy=>?_),by rw [qmp]; exact ua3 _⟩;have hid:aId ((bH f).1,0,())=fId f:=yu3 e1;rw [hid]; exact hn y hy
   ·rw [h2] at e; have e:(2:Int)=0:=e; exact absurd e (by decide)
  ·rw [h1] at e; have e:(8:Int)=0:=e; exact absurd e (by decide)
 ·have e:(qdn s f).2=0:=e;show ∃ x l',_/\(qdn s f).1=_/\_;unfold qdn at e ⊢;cases h1:decide (aI s f<0)
  ·rw [h1] at e;cases h2:(xb s).any (qye f)
   ·rw [h2] at e;have e:(bif (pH s f).2==0 then (qsf (pH s f).1 s.1).2 else (pH s f).2)=0:=e;obtain ⟨e1,e2⟩:=yt2 e;obtain ⟨a1,a2⟩:=yt1 (uac h1);exact ⟨((pH s f).1,(qe1 s (aI s f)).2.1,()),(kr s).set (aI s f).toNat ((pH s f).1,(qe1 s (aI s f)).2.1,()),.inr (.inl ⟨k,h2,qe1 s (aI s f),ube a1,a2,e1,e2,rfl⟩),rfl,yy1 hu a1 (yvh e1),by rw [uct]; exact Nat.le_succ _⟩
   ·rw [h2] at e; have e:(10:Int)=0:=e; exact absurd e (by decide)
  ·rw [h1] at e; have e:(7:Int)=0:=e; exact absurd e (by decide)
 ·have e:(qfh s f).2=0:=e;show ∃ x l',_/\(qfh s f).1=_/\_;unfold qfh at e ⊢;cases h1:decide (aI s f<0)
  ·rw [h1] at e;cases h2:decide (qif f>IntKind.i64.wrap (4000000000000000000-(qe1 s (aI s f)).2.1))
   ·obtain ⟨a1,a2⟩:=yt1 (uac h1);exact ⟨((qe1 s (aI s f)).1,IntKind.i64.wrap ((qe1 s (aI s f)).2.1+qif f),()),(kr s).set (aI s f).toNat ((qe1 s (aI s f)).1,IntKind.i64.wrap ((qe1 s (aI s f)).2.1+qif f),()),.inr (.inr ⟨k,qe1 s (aI s f),ube a1,a2,uac h2,rfl⟩),rfl,yy1 hu a1 rfl,by rw [uct]; exact Nat.le_succ _⟩
   ·rw [h2] at e; have e:(5:Int)=0:=e; exact absurd e (by decide)
  ·rw [h1] at e; have e:(7:Int)=0:=e; exact absurd e (by decide)
theorem yzg {s:stateT.den} (hu:Up aId (kr s)) {a:zf.den} {id:Int} (ha:a∈kr s) (hid:aId a=id):¬ qhe s id<0/\qe1 s (qhe s id)=a:=by
 have h1:¬ qhe s id<0:=fun hlt=>by
  have:=ytm (g:=fun a=>aId a==id) (l:=kr s) hlt a ha;rw [show (aId a==id)=true from by rw [hid]; simp] at this;cases this
 obtain ⟨a1,a2⟩:=yt1 h1;exact ⟨h1,jaa hu (ube a1) ha (a2.trans hid.symm)⟩
theorem yyv {s:stateT.den} {f:factT.den} {x:zf.den} (hu:Up aId (kr s)) (hl:(kr s).length<=1000) (h:yyn s.1 (xb s) (kr s) f x):∃ l',doF s f=(qhb s l',0)/\Put1 aId (kr s) x l'/\l'.length<=(kr s).length+1:=by
 have hid:=yzo h;rw [yt3];rcases h with ⟨k,h1,h2,h3,rfl⟩|⟨k,h1,a,ha,h2,h3,h4,rfl⟩|⟨k,a,ha,h2,h3,rfl⟩<;>rw [k]
 ·show ∃ l',qff s f=_/\_;have hn:aI s f<0:=by
   refine ufj.1 fun hge=>?_;obtain ⟨a1,a2⟩:=yt1 (id:=fId f) (s:=s) (udt.2 hge);exact h1 _ (ube a1) a2
  refine ⟨qbe aId (kr s) ((bH f).1,0,()),?_,yx0 hu (fun y hy=>by rw [hid]; exact h1 y hy),by rw [qmp]; exact Nat.le_refl _⟩;unfold qff;rw [decide_eq_false (Int.not_le.2 hn),decide_eq_false (show ¬ ((List.length (kr s):Nat):Int)≥2000 by omega),h2,h3];rfl
 ·show ∃ l',qdn s f=_/\_;obtain ⟨h5,h6⟩:=yzg hu ha h2;have h6:qe1 s (aI s f)=a:=h6;have h7:=(yt1 h5).1;refine ⟨(kr s).set (aI s f).toNat ((qvn a.1 (qei f)).1,a.2.1,()),?_,yy1 hu h7 (by rw [h6]; exact hid.trans h2.symm),by rw [List.length_set]; exact Nat.le_succ _⟩;unfold qdn;have hp:pH s f=qvn a.1 (qei f):=by show qvn (qe1 s (aI s f)).1 (qei f)=_; rw [h6]
  rw [uao h5,h1,hp,h3,h4,h6];rfl
 ·show ∃ l',qfh s f=_/\_;obtain ⟨h5,h6⟩:=yzg hu ha h2;have h6:qe1 s (aI s f)=a:=h6;have h7:=(yt1 h5).1;refine ⟨(kr s).set (aI s f).toNat (a.1,IntKind.i64.wrap (a.2.1+qif f),()),?_,yy1 hu h7 (by rw [h6]),by rw [List.length_set]; exact Nat.le_succ _⟩;unfold qfh;rw [decide_eq_false h5,h6,decide_eq_false h3];rfl
theorem yzi {α:Type} (g:α->Bool) {x b:α} (hx:g x=g b):(l:List α)->(i:Nat)->(k:Int)->l[i]? = some b->qdw g (l.set i x) k=qdw g l k
 |[],_,_,h=>by cases h
 |y::l,0,k,h=>by
  cases h;show qdw g (x::l) k=qdw g (b::l) k;unfold qdw;rw [hx]
 |y::l,i+1,k,h=>by
  show qdw g (y::l.set i x) k=qdw g (y::l) k;unfold qdw;rw [yzi g hx l i (k+1) h]
theorem yz4 {α:Type} (g:α->Bool) {x b:α} (hx:g x=g b):(l:List α)->(i:Nat)->l[i]? = some b->(l.set i x).any g=l.any g
 |[],_,h=>by cases h
 |y::l,0,h=>by
  cases h;show (g x || l.any g)=(g b || l.any g);rw [hx]
 |y::l,i+1,h=>by
  show (g y || (l.set i x).any g)=(g y || l.any g);rw [yz4 g hx l i h]
abbrev yxk (fl:List qt.den) (id:Int):Int:=qki (fun g=>gId g==id) fl
structure FStep (fl:List qt.den) (f:factT.den) (g x:qt.den):Prop where
 kind:za f=5
 pos:¬ yxk fl (fId f)<0
 at_:fl[(yxk fl (fId f)).toNat]? = some g
 gid:gId g=fId f
 err:(qwr g (qsj f)).2=0
 new:x=(qwr g (qsj f)).1
 cl:x.1=g.1
theorem yyy {s:stateT.den} {f:factT.den} (k:za f=5) (e:(doF s f).2=0):∃ g x,FStep (xb s) f g x/\(doF s f).1=qxk s ((xb s).set (yxk (xb s) (fId f)).toNat x):=by
 rw [yt3,k] at e ⊢;have e:(qh0 s f).2=0:=e;show ∃ g x,_/\(qh0 s f).1=_;unfold qh0 at e ⊢;cases h1:decide (gI s f<0)
 ·rw [h1] at e;have e:(pG s f).2=0:=e;obtain ⟨a1,a2⟩:=yvg (uac h1);exact ⟨yqt s (gI s f),(pG s f).1,⟨k,uac h1,a1,a2,e,rfl,yt9 e⟩,rfl⟩
 ·rw [h1] at e; have e:(7:Int)=0:=e; exact absurd e (by decide)
theorem yyx {s:stateT.den} {f:factT.den} {g x:qt.den} (h:FStep (xb s) f g x):doF s f=(qxk s ((xb s).set (yxk (xb s) (fId f)).toNat x),0):=by
 rw [yt3,h.kind];show qh0 s f=_;have hg:yqt s (gI s f)=g:=by
  show (xb s).getD (yxk (xb s) (fId f)).toNat qt.dflt=g;rw [ua6,h.at_]; rfl
 have hp:pG s f=(x,0):=by
  show qwr (yqt s (gI s f)) (qsj f)=_;rw [hg,h.new,← h.err]
 unfold qh0;have hpos:¬ gI s f<0:=h.pos;rw [decide_eq_false hpos,hp];rfl
theorem yzn {fl:List qt.den} {f:factT.den} {g x:qt.den} (h:FStep fl f g x) (id:Int):yxk (fl.set (yxk fl (fId f)).toNat x) id=yxk fl id:=by
 show (qdw _ (fl.set _ x) 0).getD (-1)=(qdw _ fl 0).getD (-1);rw [yzi (fun g=>gId g==id) (x:=x) (b:=g) (by show (gId x==id)=(gId g==id); rw [show gId x=gId g from ubb (·.1) h.cl]) fl _ 0 h.at_]
theorem jbe {fl:List qt.den} {f f':factT.den} {g x:qt.den} (h:FStep fl f g x):(fl.set (yxk fl (fId f)).toNat x).any (qye f')=fl.any (qye f'):=
 yz4 _ (by show qye f' x=qye f' g; unfold qye; rw [h.cl]) fl _ h.at_
theorem jbj {fl:List qt.den} {f f':factT.den} {g x g' x':qt.den} (h:FStep fl f g x) (hne:fId f≠fId f') (h':FStep (fl.set (yxk fl (fId f)).toNat x) f' g' x'):FStep fl f' g' x'/\(yxk fl (fId f)).toNat≠(yxk fl (fId f')).toNat:=by
 have hi:=yzn h (fId f');have hp:=h'.pos;have ha:=h'.at_;rw [hi] at hp ha;have hn:(yxk fl (fId f)).toNat≠(yxk fl (fId f')).toNat:=fun e=>by
  rw [← e,uf0 (uaj.1 h.at_).1] at ha;have hx:gId g'=gId g:=by rw [← udw ha]; exact ubb (·.1) h.cl
  exact hne (by rw [← h.gid,← h'.gid,hx])
 rw [ue1 hn] at ha;exact ⟨⟨h'.kind,hp,ha,h'.gid,h'.err,h'.new,h'.cl⟩,hn⟩
theorem jb1 {fl:List qt.den} {f f':factT.den} {g x g' x':qt.den} (h:FStep fl f g x) (h':FStep fl f' g' x') (hn:(yxk fl (fId f)).toNat≠(yxk fl (fId f')).toNat):FStep (fl.set (yxk fl (fId f')).toNat x') f g x:=by
 have hi:=yzn h' (fId f);refine ⟨h.kind,by rw [hi]; exact h.pos,?_,h.gid,h.err,h.new,h.cl⟩;rw [hi,ue1 (fun e=>hn e.symm)];exact h.at_
structure TStep (l:List qb.den) (f:factT.den):Prop where
 kind:za f=6
 no:∀ y∈l,y.1≠(jh f).1
 len:l.length<100
 over:qlb l (jh f)=false
abbrev tId (t:qb.den):Int:=t.1
theorem yy3 {s:stateT.den} {f:factT.den} (k:za f=6) (e:(doF s f).2=0):TStep (yw s) f/\(doF s f).1=zqs s (qbe tId (yw s) (jh f)):=by
 rw [yt3,k] at e ⊢;have e:(qcg s f).2=0:=e;show _/\(qcg s f).1=_;unfold qcg at e ⊢;cases h1:zb7 s (jh f)
 ·rw [h1] at e;cases h2:decide (((List.length (yw s):Nat):Int)≥100)
  ·rw [h2] at e;cases h3:qlb (yw s) (jh f)
   ·refine ⟨⟨k,fun y hy=>?_,?_,h3⟩,rfl⟩
    ·unfold zb7 at h1;rw [List.any_eq_false] at h1;have:=h1 y hy;simpa using this
    ·have:=uac h2; omega
   ·rw [h3] at e; have e:(13:Int)=0:=e; exact absurd e (by decide)
  ·rw [h2] at e; have e:(2:Int)=0:=e; exact absurd e (by decide)
 ·rw [h1] at e; have e:(8:Int)=0:=e; exact absurd e (by decide)
theorem yy2 {s:stateT.den} {f:factT.den} (h:TStep (yw s) f):doF s f=(zqs s (qbe tId (yw s) (jh f)),0):=by
 rw [yt3,h.kind];show qcg s f=_;have h1:zb7 s (jh f)=false:=by
  unfold zb7;rw [List.any_eq_false];intro y hy;have:=h.no y hy;simpa using this
 have h2:=h.len;unfold qcg;rw [h1,decide_eq_false (show ¬ ((List.length (yw s):Nat):Int)≥100 by omega),h.over];rfl
theorem jbq {t:qb.den} (h:yxv t=true):TR t:=by
 unfold yxv yxu at h;simp only [zif,qxj] at h;have e:∀ a b c,(yx6.f (a,b,c,())).1=qp2 a b c:=fun _ _ _=>rfl;simp only [e] at h;cases h1:qp2 t.1 1 1000000000<;>simp only [h1] at h
 ·cases h
 ·cases h2:(yyo.f (t.2.2.1,())).1==0<;>simp only [h2] at h
  ·cases h3:qp2 t.2.2.2.2.2.2.2.1 1 255<;>simp only [h3] at h
   ·cases h
   ·refine ⟨zz8.1 h3,fun hk=>?_⟩;rw [show (t.2.1==1)=true by simp [hk]] at h;cases h4:qp2 t.2.2.2.1 1 10000<;>simp only [h4] at h
    ·cases h
    ·exact zz8.1 h4
  ·cases h
abbrev lnA (s:stateT.den):Int:=((List.length (α:=zf.den) (kr s):Nat):Int)
abbrev lnT (s:stateT.den):Int:=((List.length (α:=qb.den) (yw s):Nat):Int)
abbrev yt0 (s:stateT.den) (i:Int):qb.den:=(yw s).getD i.toNat qb.dflt
theorem yut (s:stateT.den) (f:factT.den):qmr (qff s f).1=qmr s:=by
 unfold qff;cases decide (aI s f≥0)
 ·cases decide (((List.length (kr s):Nat):Int)≥2000)<;>rfl
 ·rfl
theorem yue (s:stateT.den) (f:factT.den):qmr (qdn s f).1=qmr s:=by
 unfold qdn;cases decide (aI s f<0)
 ·cases (xb s).any (qye f)<;>rfl
 ·rfl
theorem yuv (s:stateT.den) (f:factT.den):qmr (qfh s f).1=qmr s:=by
 unfold qfh;cases decide (aI s f<0)
 ·cases decide (qif f>IntKind.i64.wrap (4000000000000000000-(qe1 s (aI s f)).2.1))<;>rfl
 ·rfl
theorem yuu (s:stateT.den) (f:factT.den):qmr (qfg s f).1=qmr s:=by
 unfold qfg;cases decide (qe5 s (qao f).1≥0)
 ·cases decide (((List.length (xb s):Nat):Int)≥2000)
  ·cases !(lA s f).2<;>rfl
  ·rfl
 ·rfl
theorem yu4 (s:stateT.den) (f:factT.den):qmr (qh0 s f).1=qmr s:=by
 unfold qh0;cases decide (gI s f<0)<;>rfl
theorem yt8 (s:stateT.den) (f:factT.den):qmr (qcg s f).1=qmr s:=by
 unfold qcg;cases zb7 s (jh f)
 ·cases decide (((List.length (yw s):Nat):Int)≥100)
  ·cases qlb (yw s) (jh f)<;>rfl
  ·rfl
 ·rfl
theorem yug {s:stateT.den} {f:factT.den} (hf:vg f=true) (hk:za f≠7):qmr (doF s f).1=qmr s:=by
 rw [yt3];rcases qxd (qxy hf) with k|k|k|k|k|k|k<;>rw [k]
 ·exact yut s f
 ·exact yue s f
 ·exact yuv s f
 ·exact yuu s f
 ·exact yu4 s f
 ·exact yt8 s f
 ·exact absurd k hk
def yxh (f:factT.den):Int×Int:=bif za f==4 then (2,(qao f).1) else bif za f==5 then (2,fId f) else bif za f==6 then (3,(jh f).1) else bif za f==7 then (4,0) else (1,fId f)
theorem yys {α:Type} {g:α->Int} {l l1 l2:List α} {x:α} (h1:Put1 g l x l1) (h2:Put1 g l x l2):l1=l2:=
 yz2 _ _ h1.up h2.up fun a=>by rw [h1.mem,h2.mem]
abbrev K3 (f:factT.den):Prop:=za f=1∨za f=2∨za f=3
theorem yzp {f:factT.den} (h:K3 f):yxh f=(1,fId f):=by
 unfold yxh;rcases h with k|k|k<;>rw [k]<;>rfl
theorem yy9 {f:factT.den} (h:za f=5):yxh f=(2,fId f):=by
 unfold yxh; rw [h]; rfl
theorem yzf {f:factT.den} (h:za f=6):yxh f=(3,(jh f).1):=by
 unfold yxh; rw [h]; rfl
def Sw (s:stateT.den) (f g:factT.den):Prop:=∃ u,doF s g=(u,0)/\doF u f=((doF (doF s f).1 g).1,0)
structure SwH (s:stateT.den) (f g:factT.den):Prop where
 acc:Up aId (kr s)
 tre:Up tId (yw s)
 tr:∀ t∈yw s,TR t
 trf:za f=6->TR (jh f)
 trg:za g=6->TR (jh g)
 la:(kr s).length<=900
 ne:yxh f≠yxh g
 ok:(doF s f).2=0
 ok2:(doF (doF s f).1 g).2=0
theorem jca {s:stateT.den} {f g:factT.den} (h:SwH s f g) (kf:K3 f) (kg:K3 g):Sw s f g:=by
 have hne:fId f≠fId g:=fun e=>h.ne (by rw [yzp kf,yzp kg,e]);obtain ⟨x,l1,h1,e1,p1,n1⟩:=yyw h.acc kf h.ok;have d2:=h.ok2;unfold Sw;rw [e1] at d2 ⊢;obtain ⟨y,l12,h2,e2,p2,_⟩:=yyw (s:=qhb s l1) p1.up kg d2;have h2:yyn s.1 (xb s) l1 g y:=h2;have h2':yyn s.1 (xb s) (kr s) g y:=yy8 h2 (fun a hid=>(yzy p1 (by rw [yzo h1]; exact hne) hid).symm) rfl;obtain ⟨l2,e3,p3,n3⟩:=yyv h.acc (Nat.le_trans h.la (by decide)) h2';have h1':yyn s.1 (xb s) l2 f x:=yy8 h1 (fun a hid=>yzy p3 (by rw [yzo h2]; exact fun e=>hne e.symm) hid) rfl;have hla:=h.la;obtain ⟨l21,e4,p4,_⟩:=yyv (s:=qhb s l2) p3.up (show l2.length<=1000 by omega) h1';have e:l12=l21:=yzx (by rw [yzo h1,yzo h2]; exact hne) p1 p2 p3 p4;exact ⟨qhb s l2,e3,by rw [e4,e2,e]⟩
theorem jb8 {s:stateT.den} {f g:factT.den} (h:SwH s f g) (kf:K3 f) (kg:za g=5):Sw s f g:=by
 obtain ⟨x,l1,h1,e1,p1,n1⟩:=yyw h.acc kf h.ok;have d2:=h.ok2;unfold Sw;rw [e1] at d2 ⊢;obtain ⟨q,r,h2,e2⟩:=yyy (s:=qhb s l1) kg d2;have h2:FStep (xb s) g q r:=h2;obtain ⟨l2,e4,p4,_⟩:=yyv (s:=qxk s ((xb s).set (yxk (xb s) (fId g)).toNat r)) h.acc (Nat.le_trans h.la (by decide)) (yy8 h1 (fun a _=>Iff.rfl) (jbe h2));have e:l1=l2:=yys p1 p4;exact ⟨_,yyx h2,by rw [e4,e2,e]⟩
theorem jb4 {s:stateT.den} {f g:factT.den} (h:SwH s f g) (kf:za f=5) (kg:K3 g):Sw s f g:=by
 obtain ⟨q,r,h1,e1⟩:=yyy kf h.ok;have d2:=h.ok2;unfold Sw;rw [e1] at d2 ⊢;obtain ⟨y,l1,h2,e2,p2,_⟩:=yyw (s:=qxk s ((xb s).set (yxk (xb s) (fId f)).toNat r)) h.acc kg d2;obtain ⟨l2,e3,p3,_⟩:=yyv h.acc (Nat.le_trans h.la (by decide)) (yy8 h2 (fun a _=>Iff.rfl) (jbe h1).symm);have e:l1=l2:=yys p2 p3;refine ⟨qhb s l2,e3,?_⟩;rw [yyx (s:=qhb s l2) h1,e2,e]
theorem jb9 {s:stateT.den} {f g:factT.den} (h:SwH s f g) (kf:K3 f) (kg:za g=6):Sw s f g:=by
 obtain ⟨x,l1,h1,e1,p1,n1⟩:=yyw h.acc kf h.ok;have d2:=h.ok2;unfold Sw;rw [e1] at d2 ⊢;obtain ⟨h2,e2⟩:=yy3 (s:=qhb s l1) kg d2;obtain ⟨l2,e4,p4,_⟩:=yyv (s:=zqs s (qbe tId (yw s) (jh g))) h.acc (Nat.le_trans h.la (by decide)) h1;have e:l1=l2:=yys p1 p4;refine ⟨_,yy2 (s:=s) h2,?_⟩;rw [e4,e2,e];rfl
theorem jb7 {s:stateT.den} {f g:factT.den} (h:SwH s f g) (kf:za f=6) (kg:K3 g):Sw s f g:=by
 obtain ⟨h1,e1⟩:=yy3 kf h.ok;have d2:=h.ok2;unfold Sw;rw [e1] at d2 ⊢;obtain ⟨y,l1,h2,e2,p2,_⟩:=yyw (s:=zqs s (qbe tId (yw s) (jh f))) h.acc kg d2;obtain ⟨l2,e3,p3,_⟩:=yyv h.acc (Nat.le_trans h.la (by decide)) h2;have e:l1=l2:=yys p2 p3;refine ⟨qhb s l2,e3,?_⟩;rw [yy2 (s:=qhb s l2) h1,e2,e];rfl
theorem jb2 {s:stateT.den} {f g:factT.den} (h:SwH s f g) (kf:za f=5) (kg:za g=5):Sw s f g:=by
 have hne:fId f≠fId g:=fun e=>h.ne (by rw [yy9 kf,yy9 kg,e]);obtain ⟨q,r,h1,e1⟩:=yyy kf h.ok;have d2:=h.ok2;unfold Sw;rw [e1] at d2 ⊢;obtain ⟨q2,r2,h2,e2⟩:=yyy (s:=qxk s ((xb s).set (yxk (xb s) (fId f)).toNat r)) kg d2;obtain ⟨h3,hn⟩:=jbj h1 hne h2;refine ⟨_,yyx (s:=s) h3,?_⟩;rw [yyx (s:=qxk s ((xb s).set (yxk (xb s) (fId g)).toNat r2)) (jb1 h1 h3 hn),e2];have i1:=yzn h1 (fId g);have i2:=yzn h3 (fId f);show (qxk s (((xb s).set (yxk (xb s) (fId g)).toNat r2).set (yxk ((xb s).set (yxk (xb s) (fId g)).toNat r2) (fId f)).toNat r),(0:Int))=(qxk s (((xb s).set (yxk (xb s) (fId f)).toNat r).set (yxk ((xb s).set (yxk (xb s) (fId f)).toNat r) (fId g)).toNat r2),0);rw [i1,i2,List.set_comm _ _ hn]
theorem jb3 {s:stateT.den} {f g:factT.den} (h:SwH s f g) (kf:za f=5) (kg:za g=6):Sw s f g:=by
 obtain ⟨q,r,h1,e1⟩:=yyy kf h.ok;have d2:=h.ok2;unfold Sw;rw [e1] at d2 ⊢;obtain ⟨h2,e2⟩:=yy3 (s:=qxk s ((xb s).set (yxk (xb s) (fId f)).toNat r)) kg d2;refine ⟨_,yy2 (s:=s) h2,?_⟩;rw [yyx (s:=zqs s (qbe tId (yw s) (jh g))) h1,e2];rfl
theorem jb5 {s:stateT.den} {f g:factT.den} (h:SwH s f g) (kf:za f=6) (kg:za g=5):Sw s f g:=by
 obtain ⟨h1,e1⟩:=yy3 kf h.ok;have d2:=h.ok2;unfold Sw;rw [e1] at d2 ⊢;obtain ⟨q,r,h2,e2⟩:=yyy (s:=zqs s (qbe tId (yw s) (jh f))) kg d2;refine ⟨_,yyx (s:=s) h2,?_⟩;rw [yy2 (s:=qxk s ((xb s).set (yxk (xb s) (fId g)).toNat r)) h1,e2];rfl
theorem jb6 {s:stateT.den} {f g:factT.den} (h:SwH s f g) (kf:za f=6) (kg:za g=6):Sw s f g:=by
 have hne:(jh f).1≠(jh g).1:=fun e=>h.ne (by rw [yzf kf,yzf kg,e]);obtain ⟨h1,e1⟩:=yy3 kf h.ok;have d2:=h.ok2;unfold Sw;rw [e1] at d2 ⊢;obtain ⟨h2,e2⟩:=yy3 (s:=zqs s (qbe tId (yw s) (jh f))) kg d2;have hl1:=h1.len;have h2l:(qbe tId (yw s) (jh f)).length<100:=h2.len;rw [qmp] at h2l;have hno2:∀ y∈yw s,y.1≠(jh g).1:=fun y hy=>h2.no y (yuk (.inl hy));obtain ⟨o1,o2⟩:=jat tId h.tr (h.trf kf) (h.trg kg) (by omega) h1.over h2.over;have t2:TStep (yw s) g:=⟨kg,hno2,by omega,o1⟩;have t1:TStep (qbe tId (yw s) (jh g)) f:=⟨kf,fun y hy=>by
  rcases zbh hy with hy|rfl
  ·exact h1.no y hy
  ·exact fun e=>hne e.symm,by rw [qmp]; omega,o2⟩
 refine ⟨_,yy2 (s:=s) t2,?_⟩;rw [yy2 (s:=zqs s (qbe tId (yw s) (jh g))) t1,e2];have p1:=yx0 h.tre h1.no;have p2:=yx0 h.tre t2.no;have e:qbe tId (qbe tId (yw s) (jh f)) (jh g)=qbe tId (qbe tId (yw s) (jh g)) (jh f):=yzx hne p1 (yx0 p1.up h2.no) p2 (yx0 p2.up t1.no);show (zqs s (qbe tId (qbe tId (yw s) (jh g)) (jh f)),(0:Int))=(zqs s (qbe tId (qbe tId (yw s) (jh f)) (jh g)),0);rw [e]
theorem jax {f:factT.den} (hk:1<=za f/\za f<=7) (h4:za f≠4) (h7:za f≠7):K3 f∨za f=5∨za f=6:=by
 rcases qxd hk with k|k|k|k|k|k|k
 ·exact .inl (.inl k)
 ·exact .inl (.inr (.inl k))
 ·exact .inl (.inr (.inr k))
 ·exact absurd k h4
 ·exact .inr (.inl k)
 ·exact .inr (.inr k)
 ·exact absurd k h7
theorem jbx {s:stateT.den} {f g:factT.den} (h:SwH s f g) (hf:K3 f∨za f=5∨za f=6) (hg:K3 g∨za g=5∨za g=6):Sw s f g:=by
 rcases hf with k|k|k<;>rcases hg with j|j|j
 ·exact jca h k j
 ·exact jb8 h k j
 ·exact jb9 h k j
 ·exact jb4 h k j
 ·exact jb2 h k j
 ·exact jb3 h k j
 ·exact jb7 h k j
 ·exact jb5 h k j
 ·exact jb6 h k j
theorem yzw {s u:stateT.den} (h:qmr u=qmr s) (f:factT.den):qhh u f=qhh s f:=by unfold qhh; rw [h]
theorem yz9 {s t:stateT.den} {f:factT.den} (hm:qhh s f=0) (hd:doF s f=(t,0)):qbc s f=(t,0):=by
 unfold qbc;rw [hm,hd];rfl
theorem yzk {f:factT.den} (h:vg f=true) (hk:za f=6):TR (jh f):=by
 have hb:=yts h;unfold zre at hb;rw [hk] at hb;exact jci hb
theorem apart {s:stateT.den} {f g:factT.den} (ha:Up aId (kr s)) (ht:Up tId (yw s)) (hr:∀ t∈yw s,TR t) (hla:(kr s).length<=900) (kf:za f≠4/\za f≠7) (kg:za g≠4/\za g≠7)
  (hne:yxh f≠yxh g) (e1:(qbc s f).2=0) (e2:(qbc (qbc s f).1 g).2=0):(qbc s g).2=0/\(qbc (qbc s g).1 f).2=0/\(qbc (qbc s g).1 f).1=(qbc (qbc s f).1 g).1:=by
 obtain ⟨m1,d1,s1⟩:=zqm e1;rw [s1] at e2 ⊢;obtain ⟨m2,d2,s2⟩:=zqm e2;have rf:=(zfa m1).1;have rg:=(zfa m2).1;have hf:=jax (qxy rf) kf.1 kf.2;have hg:=jax (qxy rg) kg.1 kg.2;obtain ⟨u,hu,hv⟩:=jbx ⟨ha,ht,hr,yzk rf,yzk rg,hla,hne,d1,d2⟩ hf hg;have c1:qmr (doF s f).1=qmr s:=yug rf kf.2;have c2:qmr u=qmr s:=by
  have:=yug (s:=s) rg kg.2;rw [hu] at this;exact this
 have q1:qbc s g=(u,0):=yz9 (by rw [← yzw c1]; exact m2) hu;rw [q1];have q2:qbc u f=((doF (doF s f).1 g).1,0):=yz9 (by rw [yzw c2]; exact m1) hv;show _/\(qbc u f).2=0/\(qbc u f).1=_;rw [q2,s2];exact ⟨rfl,rfl,rfl⟩
noncomputable def jad:List (FuncId×Ct):=[(10,qlm),(11,jbd),(12,qn0),(14,cDo),(15,ym5)]
noncomputable def jcd:Cx:=cx jad []
theorem yze:CxOK Tryz.prog jcd:=zc (cs:=jad) (ps:=[]) qv ⟨zra,yzr,yb7,zha,yph,trivial⟩ trivial
def jan:Ct:=⟨[.d factT],[i64,i64],fun x=>((yxh x.1).1,(yxh x.1).2,()),fun _=>[]⟩
theorem jaz:qa Tryz.prog 13 jan:=
 conv (qg yze (Λ:=qq) (fn:=Tryz.f13) (fr:=fun x=>Fr.br (za x.1==4) (Fr.val (2,(qao x.1).1,())) (Fr.br (za x.1==5) (Fr.val (2,fId x.1,())) (Fr.br (za x.1==6) (Fr.val (3,(jh x.1).1,())) (Fr.br (za x.1==7) (Fr.val (4,0,())) (Fr.val (1,fId x.1,())))))) (ps:=[.d factT]) (rs:=[i64,i64]) (dfP [.d factT]) (by kernel_rfl) (fun c E _=>qe c 0) (fun x=>by kernel_rfl)) _ _ (fun _ _ x _ _ _=>by
  obtain ⟨f,_⟩:=x;show _/\_=((yxh f).1,(yxh f).2,());unfold yxh;cases h1:za f==4
  ·refine Fr.br_f (by first|rfl|exact h1) ?_;cases h2:za f==5
   ·refine Fr.br_f (by first|rfl|exact h2) ?_;cases h3:za f==6
    ·refine Fr.br_f (by first|rfl|exact h3) ?_;cases h4:za f==7
     ·exact Fr.br_f (by first|rfl|exact h4) ⟨trivial,rfl⟩
     ·exact Fr.br_t (by first|rfl|exact h4) ⟨trivial,rfl⟩
    ·exact Fr.br_t (by first|rfl|exact h3) ⟨trivial,rfl⟩
   ·exact Fr.br_t (by first|rfl|exact h2) ⟨trivial,rfl⟩
  ·exact Fr.br_t (by first|rfl|exact h1) ⟨trivial,rfl⟩)
noncomputable def jao:List (FuncId×Ct):=(13,jan)::jad
noncomputable def jac:Cx:=cx jao []
theorem yy5:CxOK Tryz.prog jac:=zc (cs:=jao) (ps:=[]) qv ⟨jaz,zra,yzr,yb7,zha,yph,trivial⟩ trivial
abbrev MsA:List MI:=[.x 3 29 stateT,.r 3 3 0,.x 4 46 factT,.r 4 4 0,.x 5 46 factT,.r 5 5 0]
abbrev yxw:Pt:=⟨166,0,⟨[(13,.d i64),(7,.d .bool)],MsA⟩,⟨[(7,.d .bool)],MsA⟩,⟨[(6,.d .bool)],[]⟩⟩
abbrev yxx:Pt:=⟨166,2,⟨[(14,.d i64),(7,.d .bool)],MsA⟩,⟨[(7,.d .bool)],MsA⟩,⟨[(6,.d .bool)],[]⟩⟩
def jbv (x:yxw.M.X):Fr yxw.Out:=
 Fr.br (decide (x.1.1<lnA x.2.1)) (Fr.need (0<=IntKind.i64.wrap (x.1.1-1)/\IntKind.i64.wrap (x.1.1-1)<lnA x.2.1) (Fr.need (0<=x.1.1/\x.1.1<lnA x.2.1)
  (Fr.br (decide (aId (qe1 x.2.1 (IntKind.i64.wrap (x.1.1-1)))≥aId (qe1 x.2.1 x.1.1))) (Fr.val (Rd.back ((x.1.2.1,()),()))) (Fr.val (Rd.next ((IntKind.i64.wrap (x.1.1+1),x.1.2.1,()),x.2.1,x.2.2.1,x.2.2.2.1,())))))) (Fr.val (Rd.out ((x.1.2.1,()),x.2.1,x.2.2.1,x.2.2.2.1,())))
theorem jbl:qf Tryz.prog (qo Tryz.f3 0) yxw.M yxw jbv:=qf.of_run yze (bs:=0) (Λ:=qq) rfl rfl rfl (fun E=>qe _ 0) (fun x=>by kernel_rfl)
def jbw (x:yxx.M.X):Fr yxx.Out:=
 Fr.br (decide (x.1.1<lnT x.2.1)) (Fr.need (0<=IntKind.i64.wrap (x.1.1-1)/\IntKind.i64.wrap (x.1.1-1)<lnT x.2.1) (Fr.need (0<=x.1.1/\x.1.1<lnT x.2.1)
  (Fr.br (decide (tId (yt0 x.2.1 (IntKind.i64.wrap (x.1.1-1)))≥tId (yt0 x.2.1 x.1.1))) (Fr.val (Rd.back ((x.1.2.1,()),()))) (Fr.val (Rd.next ((IntKind.i64.wrap (x.1.1+1),x.1.2.1,()),x.2.1,x.2.2.1,x.2.2.2.1,())))))) (Fr.val (Rd.out ((x.1.2.1,()),x.2.1,x.2.2.1,x.2.2.2.1,())))
theorem jbm:qf Tryz.prog (qo Tryz.f3 1) yxx.M yxx jbw:=qf.of_run yze (bs:=0) (Λ:=qq) rfl rfl rfl (fun E=>qe _ 0) (fun x=>by kernel_rfl)
def upB {α:Type} (g:α->Int):List α->Bool
 |a::b::l=>decide (g a<g b)&&upB g (b::l)
 |_=>true
theorem yz1 {α:Type} {g:α->Int}:(l:List α)->upB g l=true->Up g l
 |[],_=>List.Pairwise.nil
 |[a],_=>ue8 _ _
 |a::b::l,h=>by
  have h':(decide (g a<g b)&&upB g (b::l))=true:=h;rw [ua1] at h';have h1:=ua5 h'.1;have h2:=yz1 (b::l) h'.2;refine List.Pairwise.cons (fun x hx=>?_) h2;rcases ua2.1 hx with rfl|hx
  ·exact h1
  ·exact ue3 h1 ((ub2.1 h2).1 x hx)
theorem jby {α:Type} {g:α->Int} {l:List α} {d:α} {i:Int} (h1:1<=i) (h2:i<(l.length:Int)):upB g (l.drop (i-1).toNat)=(decide (g (l.getD (i-1).toNat d)<g (l.getD i.toNat d))&&upB g (l.drop i.toNat)):=by
 have ha:(i-1).toNat<l.length:=by omega
 have hb:i.toNat<l.length:=by omega
 have hc:(i-1).toNat+1=i.toNat:=by omega
 rw [ua6,ua6,ua7 ha,ua7 hb,ubp ha,hc,ubp hb];rfl
theorem jbr {α:Type} {g:α->Int} {l:List α} {i:Int} (h2:¬ i<(l.length:Int)):upB g (l.drop (i-1).toNat)=true:=by
 have h:(l.drop (i-1).toNat).length<=1:=by rw [ubl]; omega
 cases hd:l.drop (i-1).toNat with
 |nil=>rfl
 |cons a r=>
  rw [hd,uaf] at h;cases r with
  |nil=>rfl
  |cons b r=>rw [uaf] at h; omega
def FUp {p:Pt} (n:Int) (i:Int) (b:Bool) (o:p.E.X) (r:p.R.X):Fr p.Out:=Fr.need (1<=i/\n<=9223372036854775807) (Fr.br b (Fr.val (Rd.out o)) (Fr.val (Rd.back r)))
def FA0 (x:yxw.M.X):Fr yxw.Out:=FUp (lnA x.2.1) x.1.1 (upB aId ((kr x.2.1).drop (x.1.1-1).toNat)) ((x.1.2.1,()),x.2.1,x.2.2.1,x.2.2.2.1,()) ((x.1.2.1,()),())
def FA1 (x:yxx.M.X):Fr yxx.Out:=FUp (lnT x.2.1) x.1.1 (upB tId ((yw x.2.1).drop (x.1.1-1).toNat)) ((x.1.2.1,()),x.2.1,x.2.2.1,x.2.2.2.1,()) ((x.1.2.1,()),())
theorem jap {α X:Type} {g:α->Int} {l:List α} {d:α} {i:Int} {O R:X} {N:Int->X} {Q Q':X->Prop} (h1:1<=i) (hb:(l.length:Int)<=9223372036854775807)
  (hq:(Fr.br (upB g (l.drop (i-1).toNat)) (Fr.val O) (Fr.val R)).satP Q) (hO:Q O->Q' O) (hR:Q R->Q' R)
  (hN:i<(l.length:Int)->(Fr.br (upB g (l.drop (i+1-1).toNat)) (Fr.val O) (Fr.val R)).satP Q->Q' (N (i+1))) :
  (Fr.br (decide (i<(l.length:Int))) (Fr.need (0<=IntKind.i64.wrap (i-1)/\IntKind.i64.wrap (i-1)<(l.length:Int)) (Fr.need (0<=i/\i<(l.length:Int))
   (Fr.br (decide (g (l.getD (IntKind.i64.wrap (i-1)).toNat d)≥g (l.getD i.toNat d))) (Fr.val R) (Fr.val (N (IntKind.i64.wrap (i+1))))))) (Fr.val O)).satP Q':=by
 obtain ⟨q1,q2⟩:=hq;refine ⟨fun hc=>?_,fun hc=>hO (q1 (jbr (uac hc)))⟩;have hi:=ua5 hc;have hw:IntKind.i64.wrap (i-1)=i-1:=uag _ (by omega);have hw2:IntKind.i64.wrap (i+1)=i+1:=uag _ (by omega);have hup:=jby (g:=g) (d:=d) h1 hi;rw [hup] at q1 q2;rw [hw,hw2];refine ⟨by omega,⟨by omega,hi⟩,fun hd=>?_,fun hd=>?_⟩
 ·exact hR (q2 (by rw [uao (udt.2 (ua5 hd))]; rfl))
 ·have hlt:=ufj.1 (uac hd);rw [uan hlt,ud9] at q1 q2;refine hN hi ?_;rw [show i+1-1=i by omega];exact ⟨q1,q2⟩
theorem yy0 {i n:Int} (h1:1<=i) (hi:i<n):1<=i+1/\(n-(i+1)).toNat<(n-i).toNat:=by omega
theorem ja5:qf Tryz.prog (.loop (qo Tryz.f3 0)) yxw.M yxw FA0:=by
 refine qf.loop (n:=166) (id:=0) jbl (inv:=fun x=>1<=x.1.1/\lnA x.2.1<=9223372036854775807) (μ:=fun x=>(lnA x.2.1-x.1.1).toNat) ?_ (fun x Q h=>h.1);rintro ⟨⟨i,ok,_⟩,s,f,g,_⟩ ⟨h1,hb⟩ Q hq;refine jap (l:=kr s) (d:=zf.dflt) (N:=fun j=>Rd.next ((j,ok,()),s,f,g,())) h1 hb hq.2 id id fun hi h=>?_;exact ⟨⟨(yy0 h1 hi).1,hb⟩,(yy0 h1 hi).2,⟨(yy0 h1 hi).1,hb⟩,h⟩
theorem ja6:qf Tryz.prog (.loop (qo Tryz.f3 1)) yxx.M yxx FA1:=by
 refine qf.loop (n:=166) (id:=2) jbm (inv:=fun x=>1<=x.1.1/\lnT x.2.1<=9223372036854775807) (μ:=fun x=>(lnT x.2.1-x.1.1).toNat) ?_ (fun x Q h=>h.1);rintro ⟨⟨i,ok,_⟩,s,f,g,_⟩ ⟨h1,hb⟩ Q hq;refine jap (l:=yw s) (d:=qb.dflt) (N:=fun j=>Rd.next ((j,ok,()),s,f,g,())) h1 hb hq.2 id id fun hi h=>?_;exact ⟨⟨(yy0 h1 hi).1,hb⟩,(yy0 h1 hi).2,⟨(yy0 h1 hi).1,hb⟩,h⟩
def yz0 (s:stateT.den) (f g:factT.den):Bool:=bif bif bif bif bif bif !(yyz s) then true else !(qn9 f) then true else !(qn9 g) then true else za f==4 then true else za g==4 then true else za f==7 then true else za g==7
def yym (s:stateT.den) (f g:factT.den):Fr (qi [.bool]):=
 Fr.br (yz0 s f g) (Fr.val (true,())) (Fr.br (bif (yxh f).1==(yxh g).1 then (yxh f).2==(yxh g).2 else false) (Fr.val (true,()))
  (Fr.need (1<=(1:Int)/\lnA s<=9223372036854775807) (Fr.br (upB aId ((kr s).drop ((1:Int)-1).toNat)) (Fr.need (1<=(1:Int)/\lnT s<=9223372036854775807) (Fr.br (upB tId ((yw s).drop ((1:Int)-1).toNat))
   (Fr.need (yf s) (Fr.br ((qbc s f).2 != 0) (Fr.val (true,())) (Fr.need (yf (qbc s f).1) (Fr.br ((qbc (qbc s f).1 g).2 != 0) (Fr.val (true,())) (Fr.need (yf s) (Fr.br ((qbc s g).2 != 0) (Fr.val (false,()))
    (Fr.need (yf (qbc s g).1) (Fr.val (bif bif true then (qbc (qbc s g).1 f).2==0 else false then yeu (qbc (qbc s f).1 g).1 (qbc (qbc s g).1 f).1 else false,()))))))))) (Fr.val (true,())))) (Fr.val (true,())))))
abbrev PAp:List PT:=[.d stateT,.d factT,.d factT]
theorem jam:qa Tryz.prog 3 ⟨PAp,[.bool],fun x=>(yym x.1 x.2.1 x.2.2.1).get,fun x=>[(yym x.1 x.2.1 x.2.2.1).ok]⟩:=
 qg yy5 (Λ:=fun k=>if k=0 then yxw.han jac.Γ yxw.M FA0 else yxx.han jac.Γ yxx.M FA1) (fn:=Tryz.f3) (fr:=fun x=>yym x.1 x.2.1 x.2.2.1) (ps:=PAp) (rs:=[.bool]) (dfP PAp) (by kernel_rfl)
  (fun c E hc=>zhf hc (by kernel_rfl) (b0:=qo Tryz.f3 0) (b1:=qo Tryz.f3 1) (by kernel_rfl) (by kernel_rfl) (qf.han yy5 rfl ja5) (qf.han yy5 rfl ja6)) (fun x=>by kernel_rfl)
theorem jbi {a b:Int×Int} (h:(bif a.1==b.1 then a.2==b.2 else false)=false):a≠b:=fun e=>by
 subst e;simp at h
theorem ja1 (s:stateT.den) (f g:factT.den):(yym s f g).ok/\(yym s f g).get=(true,()):=by
 cases h0:yz0 s f g
 ·refine Fr.br_f h0 ?_;unfold yz0 at h0;have hor:∀ a b:Bool,(bif a then true else b)=false->a=false/\b=false:=fun a b h=>by cases a<;>cases b<;>first|exact ⟨rfl,rfl⟩|cases h
  obtain ⟨h0,k6⟩:=hor _ _ h0;obtain ⟨h0,k5⟩:=hor _ _ h0;obtain ⟨h0,k4⟩:=hor _ _ h0;obtain ⟨h0,k3⟩:=hor _ _ h0;obtain ⟨h0,k2⟩:=hor _ _ h0;obtain ⟨h0,k1⟩:=hor _ _ h0;have hs:yyz s=true:=by simpa using h0
  have hne:∀ a b:Int,(a==b)=false->a≠b:=fun a b h e=>by rw [e] at h; simp at h
  have kf:za f≠4/\za f≠7:=⟨hne _ _ k3,hne _ _ k5⟩;have kg:za g≠4/\za g≠7:=⟨hne _ _ k4,hne _ _ k6⟩;unfold yyz at hs;cases hb:yzq s
  ·rw [hb] at hs;have hs:((kr s).all (fun a=>qsk a.1 s.1)&&((xb s).all yyh&&((yw s).all yxv&&qsk h00 s.1)))=true:=hs;rw [Bool.and_eq_true,Bool.and_eq_true,Bool.and_eq_true] at hs;obtain ⟨ha,_,ht,h00⟩:=hs;rw [List.all_eq_true] at ha ht;unfold yzq at hb;obtain ⟨hb,b3⟩:=hor _ _ hb;obtain ⟨b1,b2⟩:=hor _ _ hb;have b1:=of_decide_eq_false b1;have b2:=of_decide_eq_false b2;have b3:=of_decide_eq_false b3;have hfs:yf s:=⟨(zw4 h00).2,by omega,by omega,fun a h=>(zw4 (ha a h)).1⟩;cases h1:(bif (yxh f).1==(yxh g).1 then (yxh f).2==(yxh g).2 else false)
   ·refine Fr.br_f rfl (Fr.need_ ⟨ua4 _,?_⟩ ?_)
    ·show ((List.length (α:=zf.den) (kr s):Nat):Int)<=_; omega
    ·cases h2:upB aId ((kr s).drop ((1:Int)-1).toNat)
     ·exact Fr.br_f rfl ⟨trivial,rfl⟩
     ·refine Fr.br_t rfl (Fr.need_ ⟨ua4 _,?_⟩ ?_)
      ·show ((List.length (α:=qb.den) (yw s):Nat):Int)<=_; omega
      ·cases h3:upB tId ((yw s).drop ((1:Int)-1).toNat)
       ·exact Fr.br_f rfl ⟨trivial,rfl⟩
       ·refine Fr.br_t rfl (Fr.need_ hfs ?_);cases h4:(qbc s f).2 != 0
        ·refine Fr.br_f rfl (Fr.need_ (zei f hfs) ?_);cases h5:(qbc (qbc s f).1 g).2 != 0
         ·obtain ⟨r1,r2,r3⟩:=apart (yz1 _ h2) (yz1 _ h3) (fun t h=>jbq (ht t h)) (by omega) kf kg (jbi h1) (by simpa using h4) (by simpa using h5);refine Fr.br_f rfl (Fr.need_ hfs (Fr.br_f (by rw [r1]; rfl) (Fr.need_ (zei g hfs) ⟨trivial,?_⟩)));show ((bif bif true then (qbc (qbc s g).1 f).2==0 else false then yeu (qbc (qbc s f).1 g).1 (qbc (qbc s g).1 f).1 else false),())=_;rw [r2,r3,ja9];rfl
         ·exact Fr.br_t rfl ⟨trivial,rfl⟩
        ·exact Fr.br_t rfl ⟨trivial,rfl⟩
   ·exact Fr.br_t rfl ⟨trivial,rfl⟩
  ·rw [hb] at hs; cases hs
 ·exact Fr.br_t h0 ⟨trivial,rfl⟩
theorem lawApart_ok:qa Tryz.prog 3 (ym2 PAp):=conv jam _ _ (fun _ _ x _ _ _=>ja1 x.1 x.2.1 x.2.2.1)
end Go.Proofs.YtgieagiaagoogaaGreat
