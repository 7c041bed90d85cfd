/-
  Parts of the proof, one behind the other.
-/
import Derived.Test.YtdadnmgajcfkfaaGreatMk
import Derived.LoopN
import Derived.Deep.RegionLaw
set_option linter.all false
set_option maxRecDepth 100000
set_option maxHeartbeats 4000000
noncomputable section
open Option renaming some->U,none->V
open Bool renaming true->Z,false->Y
open Decidable renaming decide->J
open List renaming replicate->Lrp
open BitVec renaming ofInt->Bvo
open Go Go.RowKit
variable {T α σ ρ β:Type} {P:Program} {ad:Addr} {arr cs cur:Array Value} {f:FuncId} {x a y day:Int} {k:IntKind} {l:List Int} {xs vs news:List Value} {off i n b c d B m len:Nat} {F F' K:Nat->Prop} {R g R':Nat->Value->Prop} {o:Oper} {p:Prop} {e ety t ty el:TypeId} {v u vx:Value} {w w' W' W:World}
namespace Go.Proofs.YtdadnmgajcfkfaaGreat
open Go Go.Ab Go.RowKit Go.Proofs Tryz
open Go.Ab.Fr renaming val->Jv,need->Jd,br->Jb
def zws:Cx:=cx [(151,bp),(152,si),(153,zua)] []
def zwt:CxOK prog zws:=aQ aH ⟨zyl,ztp,zyk,uT⟩ trivial
def zwu:Cx:=cx [(147,zt9)] []
def zwv:CxOK prog zwu:=aQ aH ⟨zye,uT⟩ trivial
def zvs(x:ap [.d i64,.d i64]):Fr (aa [i64,i64]):=
 Jd (x.1=1) (Jb (bif bif (bp.f (x.1,())).2.1 != 0 then Z else J (x.2.1>9600)then Z else J (x.2.1<I6.wrap (0-9600))) (Jv (0,3,())) (Jb (bif J (I6.wrap (I6.wrap (I6.wrap (I6.wrap (I6.wrap ((bp.f (x.1,())).1.1-1601)*12)+(bp.f (x.1,())).1.2.1)-1)+x.2.1)<0)then Z else J (I6.wrap (I6.wrap (I6.wrap (I6.wrap (I6.wrap ((bp.f (x.1,())).1.1-1601)*12)+(bp.f (x.1,())).1.2.1)-1)+x.2.1)>=9600)) (Jv (0,3,())) (Jd ((12:Int)≠0) (Jd ((12:Int)≠0) (Jd (0<=I6.wrap (I6.wrap ((I6.wrap (I6.wrap (I6.wrap (I6.wrap (I6.wrap ((bp.f (x.1,())).1.1-1601)*12)+(bp.f (x.1,())).1.2.1)-1)+x.2.1)).tmod 12+1)-1)/\I6.wrap (I6.wrap ((I6.wrap (I6.wrap (I6.wrap (I6.wrap (I6.wrap ((bp.f (x.1,())).1.1-1601)*12)+(bp.f (x.1,())).1.2.1)-1)+x.2.1)).tmod 12+1)-1)<(12:Int)) (Jd (zth (I6.wrap (1601+I6.wrap ((I6.wrap (I6.wrap (I6.wrap (I6.wrap (I6.wrap ((bp.f (x.1,())).1.1-1601)*12)+(bp.f (x.1,())).1.2.1)-1)+x.2.1)).tdiv 12)),I6.wrap ((I6.wrap (I6.wrap (I6.wrap (I6.wrap (I6.wrap ((bp.f (x.1,())).1.1-1601)*12)+(bp.f (x.1,())).1.2.1)-1)+x.2.1)).tmod 12+1),if (zta (si.f (I6.wrap (1601+I6.wrap ((I6.wrap (I6.wrap (I6.wrap (I6.wrap (I6.wrap ((bp.f (x.1,())).1.1-1601)*12)+(bp.f (x.1,())).1.2.1)-1)+x.2.1)).tdiv 12)),())).1).getD (I6.wrap (I6.wrap ((I6.wrap (I6.wrap (I6.wrap (I6.wrap (I6.wrap ((bp.f (x.1,())).1.1-1601)*12)+(bp.f (x.1,())).1.2.1)-1)+x.2.1)).tmod 12+1)-1)).toNat 0<(bp.f (x.1,())).1.2.2.1 then (zta (si.f (I6.wrap (1601+I6.wrap ((I6.wrap (I6.wrap (I6.wrap (I6.wrap (I6.wrap ((bp.f (x.1,())).1.1-1601)*12)+(bp.f (x.1,())).1.2.1)-1)+x.2.1)).tdiv 12)),())).1).getD (I6.wrap (I6.wrap ((I6.wrap (I6.wrap (I6.wrap (I6.wrap (I6.wrap ((bp.f (x.1,())).1.1-1601)*12)+(bp.f (x.1,())).1.2.1)-1)+x.2.1)).tmod 12+1)-1)).toNat 0 else (bp.f (x.1,())).1.2.2.1,())) (Jv (zua.f ((I6.wrap (1601+I6.wrap ((I6.wrap (I6.wrap (I6.wrap (I6.wrap (I6.wrap ((bp.f (x.1,())).1.1-1601)*12)+(bp.f (x.1,())).1.2.1)-1)+x.2.1)).tdiv 12)),I6.wrap ((I6.wrap (I6.wrap (I6.wrap (I6.wrap (I6.wrap ((bp.f (x.1,())).1.1-1601)*12)+(bp.f (x.1,())).1.2.1)-1)+x.2.1)).tmod 12+1),if (zta (si.f (I6.wrap (1601+I6.wrap ((I6.wrap (I6.wrap (I6.wrap (I6.wrap (I6.wrap ((bp.f (x.1,())).1.1-1601)*12)+(bp.f (x.1,())).1.2.1)-1)+x.2.1)).tdiv 12)),())).1).getD (I6.wrap (I6.wrap ((I6.wrap (I6.wrap (I6.wrap (I6.wrap (I6.wrap ((bp.f (x.1,())).1.1-1601)*12)+(bp.f (x.1,())).1.2.1)-1)+x.2.1)).tmod 12+1)-1)).toNat 0<(bp.f (x.1,())).1.2.2.1 then (zta (si.f (I6.wrap (1601+I6.wrap ((I6.wrap (I6.wrap (I6.wrap (I6.wrap (I6.wrap ((bp.f (x.1,())).1.1-1601)*12)+(bp.f (x.1,())).1.2.1)-1)+x.2.1)).tdiv 12)),())).1).getD (I6.wrap (I6.wrap ((I6.wrap (I6.wrap (I6.wrap (I6.wrap (I6.wrap ((bp.f (x.1,())).1.1-1601)*12)+(bp.f (x.1,())).1.2.1)-1)+x.2.1)).tmod 12+1)-1)).toNat 0 else (bp.f (x.1,())).1.2.2.1,()),())))))))))
def zx1:ag prog 85 ⟨[.d i64,.d i64],[i64,i64],λxs=>(zvs xs).get,λxs=>[(zvs xs).ok]⟩:=
 cF zwt (Λ:=bK) (fn:=f85) (aY [.d i64,.d i64]) (by kernel_rfl) (λc E _=>bm c 0) (λx=>by kernel_rfl)
def zvw(x:ap [.d aP,.d i64]):Fr (aa [.bool]):=
 Jd (x=([1,2,4,12],2,())) (Jv (J ((zt9.f x).1>=0),()))
def zx8:ag prog 82 ⟨[.d aP,.d i64],[.bool],λxs=>(zvw xs).get,λxs=>[(zvw xs).ok]⟩:=
 cF zwv (Λ:=bK) (fn:=f82) (aY [.d aP,.d i64]) (by kernel_rfl) (λc E _=>bm c 0) (λx=>by kernel_rfl)
def zt1(b:Int):Prop:=b=0\/b=6
def zvc:Ct:=⟨[.d i64,.d i64],[i64,i64],λx=>(if x.2.1=0 then 1 else 182,0,()),λx=>[x.1=1,zt1 x.2.1]⟩
def zzb:ag prog 85 zvc:=conv zx1 _ _ (λ_ _ x _ _ h=>by obtain⟨n,b,⟨⟩⟩:=x;have h:n=1/\zt1 b:=h;obtain⟨rfl,rfl|rfl⟩:=h;exact aw rfl (aN (by decide +kernel) (aN (by decide +kernel) (aw (by decide +kernel) (aw (by decide +kernel) (aw (by decide +kernel) (aw (.inl (by kernel_rfl)) ⟨uT,by decide +kernel⟩))))));exact aw rfl (aN (by decide +kernel) (aN (by decide +kernel) (aw (by decide +kernel) (aw (by decide +kernel) (aw (by decide +kernel) (aw (.inr (by kernel_rfl)) ⟨uT,by decide +kernel⟩)))))))
def zu5:Ct:=⟨[.d aP,.d i64],[.bool],λ_=>(Z,()),λx=>[x=([1,2,4,12],2,())]⟩
def zxn:ag prog 82 zu5:=conv zx8 _ _ (λ_ _ x _ _ h=>by have h:x=([1,2,4,12],2,()):=h;subst h;exact aw rfl ⟨uT,rfl⟩)
section
open Go.Shelf
def zyd:(prog.info? 3).map (λi=>(i.zero,i.size,i.bytes))=U (U (.int .i64 0),1,8):=by kernel_rfl
def zwg(h:bJ w F u64 a v):v=.int .u64 a:=by have b:aK prog w F (λ_ _=>True) (eR u64 a) v:=iH h;exact b.2.1
def zzf{b:Int}(h:jF w F [u64,u64] (a,b,()) v):v=.tuple #[.int .u64 a,.int .u64 b]:=by obtain⟨⟨i⟩,rfl,l,k,c,f,m,e,rfl,g,d⟩:=h;have c:i=_:=c;have d:e=[]:=d;rw[c,d,zwg f,zwg g]
def zy2(w:World)(d:Addr)(f:Nat)(D:w.cell? d=U (.int .i64 1))(G:∀ W,Calls prog 213 #[.int .u64 1,.int .u64 2] W λe w'=>e=.returned (.tuple #[.int .u64 0,.int .u64 2])/\Below W.heap.size W w'):
  Calls prog 150 #[.slice (U d) 1 f,.int .i64 2] w λe w'=>∃ g,e=.returned (.slice (U ⟨g,0,V⟩) 2 2)/\w.heap.size<=g/\w'.heap[g]?= U (.cells #[.int .i64 1,.int .i64 1] 3 (0,0))/\Below w.heap.size w w':=by
 obtain⟨M,C,E,u,F⟩:=ufo zyd;have s:(prog.info? 3).map (·.size)=U 1:=by rw[C];simp[u]
 have z:madeCells (Value.int IntKind.i64 0).cells (Int.toNat 2*1) = #[.int .i64 0,.int .i64 0]:=by kernel_rfl
 have A:∀ W:World,(Instr.makeSlice 48 (.int .i64 2) (.int .i64 2)).run prog W=.ok (.slice (U ⟨W.heap.size,0,V⟩) 2 2) (W.alloc (.cells #[.int .i64 0,.int .i64 0] 3)):=λW=>by have:=Go.run_makeSlice (P:=prog) (w:=W) 48 3 M (.int .i64 0) underlying48 C E .i64 .i64 2 2 (by decide) (by decide) (by rw[u];decide) (by rw[F];decide) (by decide);rw[this,u,z];rfl
 have x:∀ (W:World) h,W.cell? d=U (.int .i64 1)->∀ g,W.heap[g]?= U (.cells #[.int .i64 0,.int .i64 0] 3 (0,0))->(Builtin.copy_ #[48,48] h #[.slice (U ⟨g,0,V⟩) 2 2,.slice (U d) 1 f]).run prog W=.ok (.int .i64 1) (W.setRow g #[.int .i64 1,.int .i64 0]):=λW h H g t=>
  H9 W _ _ h 3 1 g 0 2 2 d 1 f [.int .i64 1] #[.int .i64 0,.int .i64 0] 3 underlying48 s rfl (λj v n=>by
   cases j with
   |zero=>cases n;rw[show d.add 0=d from by cases d;rename_i b o p;cases p<;>simp[Addr.add]];exact H
   |succ j=>cases n) t (by decide) (by decide)
 have y:∀ (W:World) h,∀ g,W.heap[g]?= U (.cells #[.int .i64 1,.int .i64 0] 3 (0,0))->(Builtin.copy_ #[48,48] h #[.slice (U ⟨g,1,V⟩) 1 1,.slice (U ⟨g,0,V⟩) 1 2]).run prog W=.ok (.int .i64 1) (W.setRow g #[.int .i64 1,.int .i64 1]):=λW h g t=>
  H9 W _ _ h 3 1 g 1 1 1 ⟨g,0,V⟩ 1 2 [.int .i64 1] #[.int .i64 1,.int .i64 0] 3 underlying48 s rfl (λj v n=>by
   cases j with
   |zero=>cases n;exact cn t 0
   |succ j=>cases n) t (by decide) (by decide)
 have r:d.block<w.heap.size:=block_lt_of_cell D
 go_enter func150,ntmps150
 go_wp2_with (first
  |(go_at_call 213;refine(G _).mono ?_;rintro e a ⟨rfl,c⟩
    have B:(a.alloc (.cells #[.int .i64 0,.int .i64 0] 3)).cell? d=U (.int .i64 1):=(ubd ((udb _ _ _ (ucb r c.size)).trans (c.block _ r))).trans D;have l:=World.alloc_heap_new a (.cells #[.int .i64 0,.int .i64 0] 3))
  |simp only[A]
  |simp only[x _ _ B _ l])
 have m:=ufe (a.alloc (.cells #[.int .i64 0,.int .i64 0] 3)) a.heap.size _ #[.int .i64 1,.int .i64 0] _ _ l;refine wp_loop_rounds 3 ?_;rw[rounds_succ]
 go_wp2
 go_region_law (refine zB rfl _ _ 48 48 rfl _ _ (by simp[Act.eval,Act.put]) (by simp[Act.eval,Act.put]) (y _ _ _ m) ?_)
 go_wp2
 rw[rounds_succ]
 go_wp2
 go_ret
 have i:Below w.heap.size w (a.alloc (.cells #[.int .i64 0,.int .i64 0] 3)):=c.trans (((ufk _ a).alloc (ufb _) _).mono c.size);have L:=c.size;refine⟨a.heap.size,rfl,L,ufe _ _ _ _ _ _ m,⟨i.os,i.tape,i.output,by simpa using i.size,λk K=>?_⟩⟩;exact(ue0 (((a.alloc (.cells #[.int .i64 0,.int .i64 0] 3)).setRow a.heap.size #[.int .i64 1,.int .i64 0]).drew) a.heap.size k _ (by omega)).trans ((ue0 (a.alloc (.cells #[.int .i64 0,.int .i64 0] 3)) a.heap.size k _ (by omega)).trans (i.block k K))
def zva:Ct:=⟨[.d aP,.d i64],[aP],λ_=>([1,1],()),λx=>[x=([1],2,())]⟩
def zy1:ag prog 150 zva:=by
 refine⟨enters_of func150 (by kernel_rfl) rfl,λw F P T p N c=>?_⟩;have c:P=([1],2,()):=c;subst c;obtain⟨v,O,rfl,f,u⟩:=N;obtain⟨rfl,_⟩:=W5 u;have G:aK prog w F (λ_ _=>True) (eR aP [1]) v:=iH f;obtain⟨y,m,rfl,H⟩:=G.2;obtain⟨Q,R,E,_,_,K⟩:=Ps (w:=w) (F:=F) (l:=[1]) (v:=.slice y 1 m) ⟨y,m,rfl,H⟩;cases E;obtain⟨D,k,rfl,L,r⟩:=K (by decide);have a:=(r 0 1 rfl).1;have S:∀ b,(λ_:Nat=>False) b->b<0:=λ_ h=>h.elim;have A:∀ (W:World) (n:Int),Go.Ab.inR IntKind.u64 n->bJ W (λ_=>False) u64 n (.int .u64 n):=λW n u=>⟨rfl,⟨λh=>(by cases h),λh=>(by obtain⟨_,h⟩:=h;cases h)⟩,rfl,u⟩;refine(zy2 w ⟨D,k,V⟩ m a (λW=>(zyi.2 W (λ_=>False) (1,2,()) [.int .u64 1,.int .u64 2] (λ_ h=>h.elim) ⟨_,_,rfl,A W 1 (by unfold Go.Ab.inR;decide),_,_,rfl,A W 2 (by unfold Go.Ab.inR;decide),rfl⟩ trivial).mono ?_)).mono ?_;rintro e B ⟨v,C,rfl,d,_,_,f⟩;have f:jF B C [u64,u64] (0,2,()) v:=f;exact⟨by rw[zzf f],d⟩;rintro e B ⟨g,rfl,M,s,z⟩;have t:=(uaf.1 s).1;refine⟨_,λq=>F q\/q=g,rfl,z,λ_ h=>.inl h,λb o=>o.elim (λh=>⟨.inl h,ucb (p b h) z.size⟩) (λh=>by subst h;exact⟨.inr M,t⟩),rfl,⟨λh=>(by cases h),λh=>(by obtain⟨_,h⟩:=h;cases h)⟩,U ⟨g,0,V⟩,2,rfl,ufb _,(by decide),λi x a=>⟨⟨g,0,V⟩,rfl,.inr rfl,?_⟩⟩
 match i,a with
 |0,a=>cases a;exact⟨cn s 0,by unfold Go.Ab.inR;decide⟩
 |1,a=>cases a;exact⟨cn s 1,by unfold Go.Ab.inR;decide⟩
 |i+2,a=>cases a
def zwz:Cx:=cx [(150,zva),(149,AB)] []
def zw0:CxOK prog zwz:=aQ aH ⟨zy1,zoh,uT⟩ trivial
def zu6:Ct:=⟨[.d i64,.d i64],[aP],λ_=>([5000,5000],()),λx=>[x=(10000,2,())]⟩
def zxu:ag prog 84 zu6:=
 conv (aT zw0 f84 (ps:=[.d i64,.d i64]) (rs:=[aP]) (fr:=λx=>Jd ((([1]:List Int),x.2.1,())=(([1]:List Int),(2:Int),())) (Jv ((AB.f (x.1,[1,1],())).1,())))) _ _ (λ_ _ x _ _ h=>by have h:x=(10000,2,()):=h;subst h;exact aw rfl ⟨uT,by kernel_rfl⟩)
end
def zu1:Cx:=cx [(82,zu5),(83,qV),(84,zu6),(85,zvc)] []
def zu2:CxOK prog zu1:=aQ aH ⟨zxn,XW,zxu,zzb,uT⟩ trivial
def zt5:ap [.d i64,.d cK,.d i64]:=(10000,(1,101,()),2,())
def zu8:Ct:=⟨[.d i64,.d cK,.d i64],[.sl ea,i64],λ_=>(tI,0,()),λx=>[x=zt5]⟩
def zyu:ag prog 40 zu8:=
 fnw (ps:=[.d i64,.d cK,.d i64]) (rs:=[.sl ea,i64]) zu2 f40 (Λ:=λ_=>SI prog zu1 0 bK (au f40 0) 3) zt5 (tI,0,())
  [(([1,2,4,12]:List Int),(2:Int),())=(([1,2,4,12]:List Int),(2:Int),()),((10000:Int),(2:Int),())=((10000:Int),(2:Int),()),(2:Int)≠0,(1:Int)=1,zt1 0,0<=(0:Int)/\(0:Int)<2,1<=maxLen/\1*24<=140737488355328,
   (2:Int)≠0,(1:Int)=1,zt1 6,0<=(1:Int)/\(1:Int)<2,1+1<=maxLen/\(1+1)*24<=140737488355328]
  (λc E a=>fH a (by kernel_rfl) (b:=au f40 0) (by kernel_rfl) (zti zu2 (bm _ 0)))
  ⟨rfl,rfl,by decide,rfl,.inl rfl,by decide,by decide,by decide,rfl,.inr rfl,by decide,by decide,by decide⟩
def hPr:aD.q:=(1,1,((1,101,()),(0,36500,0,0,()),[(1,10,10,0,10000,())],()),[],())
def tPr:bh.q:=([(1,(10000,0,0,0,()),[],[10000],[10000,10000,10000,10000,10000,10000,10000,10000],0,())],())
def zu9:Ct:=⟨[],[aD,bh],λ_=>(hPr,tPr,()),λ_=>[]⟩
def zyv:ag prog 35 zu9:=
 conv (aT (C:=cx [] []) (aQ (cs:=[]) (ps:=[]) aH trivial trivial) f35 (ps:=[]) (rs:=[aD,bh]) (fr:=λ_=>Jv (hPr,tPr,()))) _ _ (λ_ _ _ _ _ _=>⟨uT,rfl⟩)
def zww:Cx:=cx [(35,zu9),(36,E1),(37,iE),(38,pw),(39,zu7),(40,zu8),(41,zvb)] []
def zwx:CxOK prog zww:=aQ aH ⟨zyv,TZ,GP,RP,zyb,zyu,zy9,uT⟩ trivial
def zui:cj hPr:=⟨by decide,by decide,λc a=>by cases a⟩
def zuj:bf tPr:=by refine⟨by decide,λv a=>?_⟩;simp only[tPr,uej,udj,or_false]at a;subst a;exact⟨by decide,by decide,by decide⟩
def zvd:Ct:=⟨[],[.bool],λ_=>(Z,()),λ_=>[]⟩
def zzm:ag prog 12 zvd:=
 conv (fnw (ps:=[]) (rs:=[.bool]) zwx f12 (Λ:=bK) () (Z,()) [cj hPr,bf tPr,cj hPr,bf tPr,cj hPr,bf tPr,zt5=zt5,((tI,tI,()):ap [.d (.sl ea),.d (.sl ea)])=(tI,tI,())]
  (λc E _=>bm c 0) ⟨zui,zuj,zui,zuj,zui,zuj,rfl,rfl⟩) _ _ (λ_ _ _ _ _ _=>⟨rfl,rfl⟩)
def zwy:Cx:=cx [(12,zvd),(13,E5),(14,t6),(15,wN),(6,xb),(16,AM),(11,xd)] []
def zt8:CxOK prog zwy:=aQ aH ⟨zzm,L5,Pz,Og,Kz,K0,qnc,uT⟩ trivial
abbrev ztz:Pt:=⟨155,0,⟨[(7,.d i64),(3,.d .bool),(6,.d i64)],[.x 1 27 jourT,.r 1 1 0,.x 5 27 jourT,.r 5 5 0]⟩,⟨[(3,.d .bool),(6,.d i64)],[.x 5 27 jourT,.r 5 5 0]⟩,⟨[],[]⟩⟩
def zut(_k:Bool×jourT.q)(b:Prop)(_i:Int)(e:ae.q)(s:jourT.q×Int):Fr (jourT.q×Int):=
 let a:=t6.f (s.1,e,());Jd b (Jd (fo e) (Jd (bf (s.1.1.1,())) (Jb (a.2.1==0) (Jd b (Jv (a.1,e.1))) (Jv s))))
def zw1:ztz.M.X->Fr ztz.Out:=FG (λx=>(x.1.1,(x.1.2.1,x.2.1),(x.2.2.1,x.1.2.2.1))) (λ(k:Bool×jourT.q)=>(List.length (α:=ae.q) k.2.2.1:Int)) (λk=>k.2.2.1) zut (λk s=>((k.1,s.2,()),s.1,()))
def zyg:af prog (.loop (au f4 0)) ztz.M ztz zw1:=
 cX zt8 (λi k s=>((i,k.1,s.2,()),k.2,s.1,())) ae.j
def zv1:=λ(k:Bool×jourT.q) s=>bw (zut k True) 0 k.2.2.1 s
def zym:=λ(k:Bool×jourT.q) s=>bY (zut k True) 0 k.2.2.1 s
abbrev kPe:Type:=Bool×Int×jourT.q×ak.q
abbrev zt0:Pt:=⟨155,2,⟨[(13,.d i64),(3,.d .bool),(11,.d i64),(12,.d i64)],[.x 5 27 jourT,.r 5 5 0,.x 10 32 ak,.r 10 10 0]⟩,⟨[(3,.d .bool),(11,.d i64),(12,.d i64)],[.x 5 27 jourT,.r 5 5 0]⟩,⟨[],[]⟩⟩
def zuu(_k:kPe)(b:Prop)(_i:Int)(e:bn.q)(s:Int):Fr Int:=Jd b (Jv (if s<I6.wrap (e.1.2.2.1.1.2.1-1)then I6.wrap (e.1.2.2.1.1.2.1-1)else s))
def zw2:zt0.M.X->Fr zt0.Out:=FG (λx=>(x.1.1,((x.1.2.1,x.1.2.2.1,x.2.1,x.2.2.1):kPe),x.1.2.2.2.1)) (λk=>(List.length (α:=bn.q) k.2.2.2.2.1:Int)) (λk=>k.2.2.2.2.1) zuu (λk s=>((k.1,k.2.1,s,()),k.2.2.1,()))
def zyh:af prog (.loop (au f4 1)) zt0.M zt0 zw2:=
 cX zt8 (λi (k:kPe) s=>((i,k.1,k.2.1,s,()),k.2.2.1,k.2.2.2,())) bn.j
def zv2:=λ(k:kPe) s=>bw (zuu k True) 0 k.2.2.2.2.1 s
def zyn:=λ(k:kPe) s=>bY (zuu k True) 0 k.2.2.2.2.1 s
def zus(b:bq.q)(d m:Int):Fr (aa [.bool]):=
 Jd ((bif Z then (xd.f (b,3,d,())).1==0 else Y)=Z->(0:Int)<=0/\0<(6:Int)) (Jv (bif bif Z then (xd.f (b,3,d,())).1==0 else Y then (xd.f (b,4,d,())).1==I6.wrap (0-m)else Y,()))
def peE(k:jourT.q)(d:Int):Fr (aa [.bool]):=
 Jd (bf k.1) (Jd (bf k.1) (Jd (bi (dW k d).1) (Jd (dC (aJ (dW k d).1))
  (Jb (bif bif (i5 k d).2.1 != 0 then Z else (dW k d).2 != 0 then Z else (cW (dW k d).1).2.1 != 0) (Jv (bif Z then (i5 k d).2.1 != 0 else Y,()))
   (zus (i5 k d).1 d ((yi (cW (dW k d).1).1).getD (Int.toNat 0) 0))))))
def peD(k:jourT.q)(e d:Int):Fr (aa [.bool]):=
 Jb (bif e != 0 then Z else J (d>292194)) (Jv (bif Z then e==0 else Y,()))
  (Jd (fo (be d d)) (Jd (bf k.1) (Jb ((cN k (be d d)).2 != 0) (Jv (Y,())) (peE (cN k (be d d)).1 d))))
def zum(s:jourT.q×Int):kPe:=(Z,(dW s.1 292194).2,s.1,(dW s.1 292194).1)
def mPe(s:jourT.q×Int):Int:=if s.2<I6.wrap (kg (dW s.1 292194).1+1)then I6.wrap (kg (dW s.1 292194).1+1)else s.2
def peK(s:jourT.q×Int):Fr (aa [.bool]):=
 Jd (bf s.1.1) (cT (InK (List.length (α:=bn.q) (dW s.1 292194).1.2.1:Int) 0 (List.length (α:=bn.q) (dW s.1 292194).1.2.1)) (zyn (zum s) (mPe s)) (zv2 (zum s) (mPe s)) (λd=>peD s.1 (dW s.1 292194).2 d))
def zul(j:jourT.q):Bool×jourT.q:=(Z,j)
def zuk(x:ap [.d jourT]):Fr (aa [.bool]):=
 let a:=((x.1.1,[],()),1);Jb (!(jc x.1 30)) (Jv (Z,())) (cT (InK (List.length (α:=ae.q) x.1.2.1:Int) 0 (List.length (α:=ae.q) x.1.2.1)) (zym (zul x.1) a) (zv1 (zul x.1) a) peK)
def zxw:ag prog 4 (bg [.d jourT] [.bool] zuk):=
 oc zt8 zyg zyh (fn:=f4)
def zxv(b d:Int):fo (be b d):=⟨ufh _,ufh _⟩
def zzc{b:bq.q}{d m:Int}(a:kY b.1 3 d=0)(c:kY b.1 4 d=I6.wrap (0-m)):(zus b d m).ok/\(zus b d m).get=(Z,()):=by refine aw (λ_=>by decide) ⟨uT,?_⟩;show((bif bif Z then (xd.f (b,3,d,())).1==0 else Y then (xd.f (b,4,d,())).1==I6.wrap (0-m)else Y,()):Bool×Unit)=_;rw[qlw,qlw,a,c];simp
def zyp{k:jourT.q}(c:jI 30 k){d:Int}(l:1<=d)(m:d<=292194)(p:∀ f:ae.q,f∈(k.2.1:List ae.q)->f.1<=d)(o:kg (kF 292194 k.2.1 (hZ k.1))<d)(n:∀ a∈bW (kF 292194 k.2.1 (hZ k.1)),a.1.2.2.1.1.2.1<=d+1):
  (peE (k.1,k.2.1++[be d d],()) d).ok/\(peE (k.1,k.2.1++[be d d],()) d).get=(Z,()):=by
 have e:((List.length (α:=ae.q) (k.2.1++[be d d]):Nat):Int)<=2000:=by have:=c.len;rw[ub6,ua7];omega
 have b:dW (k.1,k.2.1++[be d d],()) d=(kF d (k.2.1++[be d d]) (hZ k.1),0):=zg5 e;have i:ix (dW (k.1,k.2.1++[be d d],()) d).1:=by rw[b];exact L6 _ (Fv c.few)
 refine aw c.few (aw c.few (aw i.1 (aw (Bg i) ?_)));rcases zxr c l m p o n with h|⟨r,s,t,u⟩
 have g:((i5 (k.1,k.2.1++[be d d],()) d).2.1 != 0)=true:=by simpa using h
 refine aV (by rw[g];rfl) ⟨uT,?_⟩;show((bif Z then (i5 (k.1,k.2.1++[be d d],()) d).2.1 != 0 else Y,()):Bool×Unit)=_;rw[g];rfl;refine aN (by rw[r,b];dsimp only;rw[s];rfl) ?_;exact zzc t (by rw[b];exact u)
def zyq{s:jourT.q×Int}(h:peI 30 s):(peK s).ok/\(peK s).get=(Z,()):=by
 have r:((List.length (α:=ae.q) s.1.2.1:Nat):Int)<=2000:=by have:=h.j.len;omega
 have d:dW s.1 292194=(kF 292194 s.1.2.1 (hZ s.1.1),0):=zg5 r;have p:ix (dW s.1 292194).1:=by rw[d];exact L6 _ (Fv h.j.few)
 have n:List.length (α:=bn.q) (dW s.1 292194).1.2.1<=1000000000:=uep p.1.2.1 (by decide);obtain⟨l,m⟩:=zxs (dW s.1 292194).1.2.1 (mPe s);refine aw h.j.few (aw ⟨rfl,ufc _,ub4 _,by omega⟩ (aw l ?_));dsimp only;have o:zv2 (zum s) (mPe s)=Fp s:=by refine m.trans ?_;unfold mPe Fp it;rw[d]
 rw[o];obtain⟨e,f,g,k⟩:=zxq h;have b:(dW s.1 292194).2=0:=by rw[d]
 cases c:J (Fp s>292194);have a:Fp s<=292194:=ufm.1 (uch c);have i:=zvn h.j e a f g;refine aN (by rw[b,c];rfl) (aw (zxv _ _) (aw h.j.few (aN (by rw[i];rfl) ?_)));rw[(CG i).2.2.2];exact zyp h.j e a f g k;refine aV (by rw[b,c];rfl) ⟨uT,?_⟩;show((bif Z then (dW s.1 292194).2==0 else Y,()):Bool×Unit)=_;rw[b];rfl
def zw7:Ct:=⟨[.d jourT],[.bool],λ_=>(Z,()),λ_=>[]⟩
def lawPE_ok:ag prog 4 zw7:=
 conv zxw _ _ (λ_ _ x _ _ _=>by
  obtain⟨j,_⟩:=x;show(zuk (j,())).ok/\(zuk (j,())).get=(Z,());cases b : !(jc j 30)
  ·have a:jc j 30=true:=by simpa using b
   have e:((List.length (α:=ae.q) j.2.1:Nat):Int)<=30:=(Bf a).2.1;obtain⟨c,d⟩:=zyr a;refine aN b (aw ⟨rfl,ufc _,ub4 _,ue5 e (by decide)⟩ (aw c ?_));dsimp only;rw[show zv1 (zul j) ((j.1,[],()),1)=_ from d];exact zyq (zys a)
  exact aV b ⟨uT,rfl⟩)
end Go.Proofs.YtdadnmgajcfkfaaGreat
