/-
  Parts of the proof, one behind the other.
-/
import Derived.Test.YtmcjmjbeknbddaaGreatMc
import Derived.IntWalk
import Derived.ScopeJumps
import Derived.RangeFuncNested
import Derived.Lib.Overlaps
import Derived.Lib.AppendZerosOnto
import Derived.Laws.NewBlocks
import Derived.LoopN
import Derived.Test.YtmcjmjbeknbddaaGreatProg
import Derived.WalkKit
set_option linter.all false
set_option maxRecDepth 100000
set_option maxHeartbeats 4000000
open Go Go.RowKit
variable {T α σ ρ β:Type} {P:Program} {ad:Addr} {arr cs cur:Array Value} {f:FuncId} {x a y day:Int} {k:IntKind} {l:List Int} {xs vs news:List Value} {off i n b c d j B m len:Nat} {F F' K:Nat->Prop} {R g R':Nat->Value->Prop} {o:Oper} {p:Prop} {e ety t ty el:TypeId} {v u vx:Value} {w w' W' W:World}
namespace Go.Ab
open Go Go.RowKit
section
variable {P:Program} {B:Nat} {w w':World} {E:Env} {F F':Nat->Prop} {γ γ':Nat->Value} {m:aT}
structure Mt where
 e:TypeId
 T:Ty
 ps:List PT
 rs:List Ty
 f:List T.den->ag ps->List T.den×aa rs
 ok:List T.den->ag ps->List Prop
def Nx (w:World) (mt:Mt) (v:Value) (y:List mt.T.den×aa mt.rs) (e:Ending) (w':World):Prop:=
 ∃ u rows,e = .returned u/\w.grownBy w' v.ownBlock/\w'.ownsRow 0 mt.e mt.T.size v y.1.length rows/\bU w' (λ_=>False) mt.T y.1 rows/\(∀ u∈rows,u.oneCell'=true)/\gT w' (λ_=>False) mt.rs y.2 u
structure SoundMt (P:Program) (f:FuncId) (mt:Mt):Prop where
 lt:mt.e<cj
 flat:mt.T.flat=true
 flats:mt.rs.all Ty.flat=true
 enters:∀ args w,(callFunc f args).run P w = .ok (.enter f args) w
 calls:∀ (w:World) (F:Nat->Prop) (l:List mt.T.den) (xs:ag mt.ps) (v:Value) (vs rows:List Value),(∀ b,F b->b<w.heap.size)->w.ownsRow 0 mt.e mt.T.size v l.length rows->(∀ g,v.ownBlock=some g->¬ F g) ->
  bU w F mt.T l rows->(∀ u∈rows,u.oneCell'=true)->v.oneCell'=true->cJ P w F mt.ps xs vs->av (mt.ok l xs)->Calls P f (v::vs).toArray w (Nx w mt v (mt.f l xs))
def fG (Γ:Gm) (f:FuncId) (mt:Mt) (_d:Nat) (g:FuncId) (args:List AV) (s:St):Option Tr:=
 if g=f then match args with
  |.c (.own id)::rest=>match dK s.mem rest with
   |some (xs,u)=>match ax s.mem u id with
    |some (.arr e t l)=>if h:t=mt.T then if e=mt.e then match jf Γ mt.ps xs with
      |some (x,n)=>some (needL (n++mt.ok (cA h l) x) (.leaf (.val (jg mt.rs (mt.f (cA h l) x).2)) ⟨s.n,s.sl,upd (ax s.mem u) id (.arr mt.e mt.T (mt.f (cA h l) x).1),s.gs⟩))
      |none=>none
     else none else none
    |_=>none
   |none=>none
  |_=>none
 else none
def gu {Γ:Gm} (hΓ:kN P Γ) {mt:Mt} (h:SoundMt P f mt):gQ P (fG Γ f mt):=by
 intro d g args s t ht;unfold fG at ht;split at ht<;>try trivial
 rename_i hg;subst hg;split at ht<;>try trivial
 rename_i id rest;split at ht<;>try trivial
 rename_i xs u hrs;split at ht<;>try trivial
 rename_i e ty l hm1;split at ht<;>try trivial
 rename_i hty;split at ht<;>try trivial
 rename_i hee;split at ht<;>try trivial
 rename_i x n hdec;cases ht;subst hty;subst hee;refine⟨h.enters,λE a w F γ vs Q hi hr hq=>?_⟩;obtain⟨hn,hqv⟩:=jm _ hq;obtain⟨hn1,hn2⟩:=jd.1 hn;cases vs with
 |nil=>exact hr.elim
 |cons v vs=>
  obtain⟨⟨hone,hv⟩,hr⟩:=hr;obtain⟨F1,s1,m1,_,r1⟩:=iy hi.mem (dv hi) (cX.of λ_ _ h=>h) hrs hr;have hps:=mK hΓ hdec hn1 r1;have hv1:v=γ id:=by
   have h2:ap (ax s.mem u) γ id v:=s1.hR id v hv;simpa[ap,hm1] using h2
  obtain⟨rows,o1,o2,o3,o4⟩:=gg.of (m1.ob id _ hm1) h.lt;rw[<- hv1] at o1 o2;have hblk:∀ g,v.ownBlock=some g->E.B<=g/\g<w.heap.size:=λg hg=>o1.lt g hg;have hc:=h.calls w F1 l x v vs rows s1.bd (rD o1 (λ_ _=>ufa _)) o2 o3 o4 hone hps hn2;refine hc.mono λen w2 hp=>?_;obtain⟨u2,rows2,rfl,hgr,p1,p2,p3,p4⟩:=hp;have hkeep:∀ b,b<w.heap.size->v.ownBlock≠some b->w2.heap[b]? = w.heap[b]? := λb hb hne=>hgr.block b hb (λh=>hne h.symm);have hBs:=nM hi;have hR:∀ i v',ap (ax s.mem u) γ i v'->ap (upd (ax s.mem u) id (.arr mt.e mt.T (mt.f l x).1)) γ i v':=λi v' hv'=>by
   unfold ap at hv' |-;by_cases hii:i=id
   ·subst hii;rw[hm1] at hv';simpa[upd] using hv'
   ·simpa[upd,hii] using hv'
  have s2:Step E.B w F1 γ (ax s.mem u) w2 F1 γ (upd (ax s.mem u) id (.arr mt.e mt.T (mt.f l x).1)):=
   ⟨λ_ h=>h,λb hb=>hkeep b (s1.bd b hb) (λh=>o2 b h hb),hR,λb hb=>hkeep b (by omega) (λh=>by have:=(hblk b h).1; omega),
    hgr.os,hgr.tape,hgr.output,hgr.size,λb hb=>ub9 (s1.bd b hb) hgr.size,λb hb=>.inl hb⟩
  have hnm:∀ b,γ id ≠ .map (some b):=hv1 ▸ nq o1;have hoth:∀ i o,i≠id->ax s.mem u i=some o->∀ b,bK w o (γ i) b->w2.heap[b]? = w.heap[b]? := λi o hii ho b hb=>
   hkeep b (gZ (m1.ob i o ho) hb).1 (λhvb=>m1.apart i id o _ b hii ho hm1 hb (.inl (by rw[<- hv1]; exact hvb)))
  have hex:∀ i o,upd (ax s.mem u) id (.arr mt.e mt.T (mt.f l x).1) i=some o->∃ o0,ax s.mem u i=some o0/\∀ b,bK w2 o (γ i) b->bK w o0 (γ i) b:=λi o ho=>by
   by_cases hii:i=id
   ·subst hii;simp only[upd,if_true,ucj] at ho;subst ho;exact⟨_,hm1,λb hb=>(lE h.lt hnm).2 ((lE h.lt hnm).1 hb)⟩
   ·simp only[upd,if_neg hii] at ho;exact⟨o,ho,λb hb=>tU (hoth i o hii ho) hb⟩
  have m2:MemOK P E.B w2 F1 γ (upd (ax s.mem u) id (.arr mt.e mt.T (mt.f l x).1)):=by
   refine⟨λi o ho=>?_,λi j oi oj b hij hoi hoj hb hb'=>?_⟩
   ·by_cases hii:i=id
    ·subst hii;simp only[upd,if_true,ucj] at ho;subst ho;rw[<- hv1];exact .inl ⟨h.lt,rows2,rD p1 (λg hg=>(hblk g hg).1),o2,p2.flat h.flat,p3⟩
    ·simp only[upd,if_neg hii] at ho;refine(m1.ob i o ho).keep (λ_ h=>h) (λb hb=>hkeep b (s1.bd b hb) (λh=>o2 b h hb)) hR λb hb=>?_;exact⟨hoth i o hii ho b hb,(gZ (m1.ob i o ho) hb).2.1⟩
   ·obtain⟨oi0,a1,a2⟩:=hex i oi hoi;obtain⟨oj0,b1,b2⟩:=hex j oj hoj;exact m1.apart i j oi0 oj0 b hij a1 b1 (a2 b hb) (b2 b hb')
  have s3:=s1.trans s2;have hinv:InvG P E ⟨s.n,s.sl,upd (ax s.mem u) id (.arr mt.e mt.T (mt.f l x).1),s.gs⟩ a w2 [] F1 γ:=by
   refine⟨hi.n,hi.df,?_,m2,λt=>(hi.sl t).mono s3.hF s3.hw s3.hR,hi.hg,λt=>s3.repA (hi.gh t)⟩;obtain⟨γ0,h0⟩:=hi.step;exact⟨γ0,h0.trans s3⟩
  exact⟨.val (jg mt.rs (mt.f l x).2),_,F1,γ,hqv,hinv,u2,rfl,tN (p4.flat h.flats)⟩
def DG (n:Nat) (e:TypeId) (T:Ty) (l:List T.den) (args:List AV):St:=
 ⟨n,λi=>(AV.c (.own (ba 0))::args).getD i .dead,λi=>if i=ba 0 then some (.arr e T l) else none,λi=>if i=0 then .c (.own (ba 0)) else .dead⟩
def qS (P:Program) (rv:List ResultVar) (e:TypeId) (T:Ty) (rs:List Ty) (s:St):Option (Fr (List T.den×aa rs)):=
 match s.gs 0 with
 |.c (.own k)=>match s.mem k with
  |some (.arr e' t l)=>if h:t=T then if e'=e then match gv P s rv with
    |some (vs,n)=>match dK s.mem vs with
     |some (xs,_)=>match g9 rs xs with
      |some y=>some (Fr.needL n (.val (cA h l,y)))
      |none=>none
     |none=>none
    |none=>none
   else none else none
  |_=>none
 |_=>none
def iK (P:Program) (rv:List ResultVar) (e:TypeId) (T:Ty) (rs:List Ty):Tr->Option (Fr (List T.den×aa rs))
 |.leaf .ret s=>qS P rv e T rs s
 |.leaf .normal s=>qS P rv e T rs s
 |.leaf _ _=>none
 |.br b x y=>match iK P rv e T rs x,iK P rv e T rs y with
  |some x',some y'=>some (.br b x' y')
  |_,_=>none
 |.need p x=>match iK P rv e T rs x with
  |some x'=>some (.need p x')
  |none=>none
 |.two p x y=>match iK P rv e T rs x,iK P rv e T rs y with
  |some x',some y'=>some (.need (p->x'.ok/\x'.get=y'.get) y')
  |_,_=>none
def tZ {rv:List ResultVar} {T:Ty} {rs:List Ty}:{t:Tr} -> {f:Fr (List T.den×aa rs)}->iK P rv e T rs t=some f->f.ok->t.sat λx s=>(x = .ret\/x = .normal)/\∃ n,qS P rv e T rs s=some (Fr.needL n (.val f.get))/\av n
 |.leaf x s,f,h,hok=>by
  have key:qS P rv e T rs s=some f->∃ n,qS P rv e T rs s=some (Fr.needL n (.val f.get))/\av n:=λh=>by
   have h0:=h;unfold qS at h;split at h<;>try trivial
   split at h<;>try trivial
   split at h<;>try trivial
   split at h<;>try trivial
   split at h<;>try trivial
   split at h<;>try trivial
   split at h<;>try trivial
   cases h;refine⟨_,?_,(uM _ hok).1⟩;rw[uK];exact h0
  cases x with
  |exit i=>simp[iK] at h
  |panic i=>simp[iK] at h
  |val i=>simp[iK] at h
  |jump i=>simp[iK] at h
  |normal=>exact⟨.inr rfl,key h⟩
  |ret=>exact⟨.inl rfl,key h⟩
 |.br b x y,f,h,hok=>by
  simp only[iK] at h;split at h<;>try trivial
  rename_i x' y' hx hy;cases h;refine⟨λhb=>?_,λhb=>?_⟩
  ·have:=tZ hx (hok.1 hb);simpa only[Fr.get,hb,if_true] using this
  ·have:=tZ hy (hok.2 hb);simpa only[Fr.get,hb,ub1,ufl] using this
 |.need p x,f,h,hok=>by
  simp only[iK] at h;split at h<;>try trivial
  rename_i x' hx;cases h;have:=tZ hx hok.2;exact⟨hok.1,this⟩
 |.two p x y,f,h,hok=>by
  simp only[iK] at h;split at h<;>try trivial
  rename_i x' y' hx hy;cases h;have h2:=tZ hy hok.2;refine⟨λhp=>?_,h2⟩;have:=tZ hx (hok.1 hp).1
  rwa [(hok.1 hp).2] at this
def yS (P:Program) (C:Cx) (Λ:Nat->St->Option Tr) (fn:Func) (e:TypeId) (T:Ty) (ps:List PT) (rs:List Ty) (l:List T.den) (xs:ag ps):Option (Fr (List T.den×aa rs)):=
 match fn.body with
 |some c=>if (fn.name == "runtime.NumGoroutine")=false/\ps.length+1<=fn.ntmps then match cr P C 0 Λ c 0 (DG fn.ntmps e T l (eI ps xs)) with
   |some t=>iK P fn.results.toList e T rs t
   |none=>none
  else none
 |none=>none
def iq {C:Cx} (hC:CxOK P C) {Λ:Nat->St->Option Tr} {fn:Func} {T:Ty} {ps:List PT} {rs:List Ty} {fr:List T.den->ag ps->Fr (List T.den×aa rs)} (x0:ag ps)
  (hf:P.funcs[f]? = some fn) (hT:T.flat=true) (hTs:rs.all Ty.flat=true) (hΛ:∀ c E,fn.body=some c->bP P E Λ c 0) (hrun:∀ l xs,yS P C Λ fn e T ps rs l xs=some (fr l xs)) (hlt:e<cj:=by decide) :
  SoundMt P f ⟨e,T,ps,rs,λl xs=>(fr l xs).get,λl xs=>[(fr l xs).ok]⟩:=by
 have h0:=hrun [] x0;unfold yS at h0;split at h0<;>try trivial
 rename_i c hb;split at h0<;>try trivial
 rename_i hc;refine⟨hlt,hT,hTs,enters hf hb hc.1,λw F l xs v vs rows hbd hown hnF hrows hcell hone hr hok=>ue8 hf hb ?_⟩;have hr':=hrun l xs;unfold yS at hr';simp only[hb,hc,ufk,if_true] at hr';split at hr'<;>try trivial
 rename_i t ht;have hlen:vs.length=ps.length:=rV hr;have hFb:∀ b,F b->(b<w.heap.size/\v.ownBlock≠some b):=λb hb=>⟨hbd b hb,λh=>hnF b h hb⟩;have hps:cJ P w (λb=>b<w.heap.size/\v.ownBlock≠some b) ps xs vs:=cJ.mono hFb (λ_ _=>rfl) hr;have hargs:∀ R:Nat->Value->Prop,R (ba 0) v->bj P w (λb=>b<w.heap.size/\v.ownBlock≠some b) R (AV.c (.own (ba 0))::eI ps xs) (v::vs):=λR hR=>⟨⟨hone,hR⟩,mO hps⟩;have hstart:I P ⟨w,λb=>b<w.heap.size/\v.ownBlock≠some b,λ_=>v,[],0,ufa _⟩ (DG fn.ntmps e T l (eI ps xs)) { tmps:=(v::vs).toArray++Array.replicate (fn.ntmps-(v::vs).length) undef,defers:=[] } w:=by
  refine⟨_,λ_=>v,?_,rfl,⟨λ_=>undef,⟨λ_ h=>h,λ_ _=>rfl,λ_ _ h=>h.elim,λb hb=>absurd hb (Nat.not_lt_zero b),rfl,rfl,rfl,ue4 _,λb hb=>hb.1,λb hb=>.inl hb⟩⟩,⟨λid o ho=>?_,λi j oi oj b hij hi hj=>?_⟩,λt=>?_,λt g want v ht=>?_,λt=>?_⟩
  ·show _=fn.ntmps;simp only[ucn,uco,Array.size_replicate,uc6];omega
  ·have ho':(if id=ba 0 then some (Ob.arr e T l) else none)=some o:=ho;split at ho'
   ·cases ho';exact .inl ⟨hlt,rows,hown,λg hg h=>h.2 hg,hrows.flat hT,hcell⟩
   ·cases ho'
  ·have hi':(if i=ba 0 then some (Ob.arr e T l) else none)=some oi:=hi;have hj':(if j=ba 0 then some (Ob.arr e T l) else none)=some oj:=hj;split at hi'
   ·split at hj'
    ·rename_i h1 h2;exact absurd (h1.trans h2.symm) hij
    ·cases hj'
   ·cases hi'
  ·have hg:((v::vs).toArray++Array.replicate (fn.ntmps-(v::vs).length) undef).getD t undef=(v::vs).getD t undef:=by
    simp only[uac,uah];rcases uel t (v::vs).length with hlt|hge
    ·rw[uai (by simpa using hlt)];simp
    ·rw[uad (by simpa using hge),ua3 hge];simp only[uar];split<;>rfl
   show dP P w _ _ _ ((AV.c (.own (ba 0))::eI ps xs).getD t .dead) (((v::vs).toArray++Array.replicate (fn.ntmps-(v::vs).length) undef).getD t undef);rw[hg];exact vG (ny (hargs _ (by simp[ap,DG])) t)
  ·exfalso;have:=ny (hargs (λ_ _=>True) trivial) t;have ht':(AV.c (.own (ba 0))::eI ps xs).getD t .dead = .maybe g want v:=ht;rw[ht'] at this;exact this
  ·show aE P w _ _ (if t=0 then .c (.own (ba 0)) else .dead) v;split
   ·exact⟨hone,by simp[bc,ap,DG]⟩
   ·trivial
 have hwp:=fR hC c 0 (hΛ c _ hb) ht (tZ hr' hok) hstart;have hsz:((v::vs).toArray).size=(v::vs).length:=by simp
 rw[hsz];refine wp_mono hwp ?_;rintro ex a' w' ⟨xe,s,rfl,⟨F',γ',hi⟩,hxe,n,hend,hnn⟩;have hfin:a'.defers=[]/\∃ u,(results fn a'.tmps).run P w' = .ok u w'/\Nx w ⟨e,T,ps,rs,λl xs=>(fr l xs).get,λl xs=>[(fr l xs).ok]⟩ v (fr l xs).get (.returned u) w':=by
  unfold qS at hend;split at hend<;>try trivial
  rename_i k hgs;split at hend<;>try trivial
  rename_i e' t' l' hmk;split at hend<;>try trivial
  rename_i hty;split at hend<;>try trivial
  rename_i hee;split at hend<;>try trivial
  rename_i avs n' hres;split at hend<;>try trivial
  rename_i axs u hrs;split at hend<;>try trivial
  rename_i y hdec;injection hend with hend
  obtain⟨hn',hy⟩:=uL hend hnn;subst hty;subst hee;obtain⟨us,hran,hreps⟩:=nz hi hres hn';obtain⟨F'',hs,hm',_,hxs⟩:=iy hi.mem (dv hi) (cX.of λ_ _ h=>h) hrs hreps;obtain⟨γ0,h1⟩:=hi.step;have hgv:v=γ' k:=by
   have h2:=hi.gh 0;rw[hgs] at h2;have h3:ap s.mem γ' k v:=h2.2;simpa[ap,hmk] using h3
  obtain⟨rows2,q1,q2,q3,q4⟩:=gg.of (hi.mem.ob k _ hmk) hlt;rw[<- hgv] at q1;refine⟨hi.df,_,pz hran,_,rows2,rfl,⟨h1.os,h1.tape,h1.output,h1.size,λb hb hne=>h1.hw b ⟨hb,λh=>hne h.symm⟩⟩,?_,?_,q4,?_⟩
  ·rw[<- hy];exact q1
  ·rw[<- hy];exact q3.flat hT
  ·rw[<- hy];exact(vH (lC hdec hxs)).flat hTs
 rcases hxe with rfl|rfl
 ·exact hfin
 ·exact hfin
def UH {t:Ty} {l:List t.den} (h:bU w F t l xs):∀ x∈l,Wf t x:=λx hx=>by
 obtain⟨i,hi,rfl⟩:=List.mem_iff_getElem.1 hx;exact aA.wf (h i _ (uap hi))
def TP {size:Nat} (h:w.ownsRow B e size v n xs):n<=maxLen:=by
 rcases h.2 with ⟨_,rfl⟩|⟨g,cap,cur,_,_,_,h1,h2,_⟩
 ·exact ufa _
 ·exact uek h1 h2
def gW {mt:Mt} (h:SoundMt P f mt) (g:List mt.T.den->ag mt.ps->List mt.T.den×aa mt.rs) (ok:List mt.T.den->ag mt.ps->List Prop)
  (hg:∀ w F l xs vs,cJ P w F mt.ps xs vs->l.length<=maxLen->(∀ x∈l,Wf mt.T x)->av (ok l xs)->av (mt.ok l xs)/\mt.f l xs=g l xs):SoundMt P f ⟨mt.e,mt.T,mt.ps,mt.rs,g,ok⟩:=by
 refine⟨h.lt,h.flat,h.flats,h.enters,λw F l xs v vs rows hb ho hn hr hc h1 hp hok=>?_⟩;obtain⟨h2,h3⟩:=hg w F l xs vs hp (TP ho) (UH hr) hok;have:=h.calls w F l xs v vs rows hb ho hn hr hc h1 hp h2;rw[h3] at this;exact this
end
def dt (step:T->σ->Fr (σ ⊕ ρ)):List T->σ->σ ⊕ ρ
 |[],s=>.inl s
 |x::r,s=>match (step x s).get with
  |.inl s'=>dt step r s'
  |.inr y=>.inr y
def jo (step:T->σ->Fr (σ ⊕ ρ)):List T->σ->Prop
 |[],_=>True
 |x::r,s=>(step x s).ok/\match (step x s).get with
  |.inl s'=>jo step r s'
  |.inr _=>True
def kJ (step:T->σ->Fr σ):List T->σ->σ
 |[],s=>s
 |x::r,s=>kJ step r (step x s).get
def pg (step:T->σ->Fr σ):List T->σ->Prop
 |[],_=>True
 |x::r,s=>(step x s).ok/\pg step r (step x s).get
def dF:σ ⊕ ρ->Bool
 |.inl _=>true
 |.inr _=>false
def dO (d:σ):σ ⊕ ρ->σ
 |.inl s=>s
 |.inr _=>d
def zej (d:ρ):σ ⊕ ρ->ρ
 |.inl _=>d
 |.inr y=>y
def Rd.up {X Y Z:Type}:Rd Empty Y Z->Rd X Y Z
 |.next x=>nomatch x
 |.out y=>.out y
 |.back z=>.back z
 |.pan p=>.pan p
section
variable {P:Program} {c:Code} {L Eo R:LS} {n id:Nat} {T σ ρ:Type}
structure InL (good:Prop) (u:Int×List T×σ):Prop where
 good:good
 lo:0<=u.1
 hi:u.1<=u.2.1.length
 big:(u.2.1.length:Int)<=9223372036854775807
def FL (step:T->σ->Fr (σ ⊕ ρ)) (un:L.X->Int×List T×σ) (good:L.X->Prop) (ca:σ->Eo.X) (outR:ρ->Rd Empty Eo.X R.X) (d:σ) (d2:ρ) (x:L.X):Fr (Rd L.X Eo.X R.X):=
 Fr.need (InL (good x) (un x)) (Fr.need (jo step ((un x).2.1.drop (un x).1.toNat) (un x).2.2)
  (Fr.br (dF (dt step ((un x).2.1.drop (un x).1.toNat) (un x).2.2)) (Fr.val (Rd.out (ca (dO d (dt step ((un x).2.1.drop (un x).1.toNat) (un x).2.2)))))
   (Fr.val (Rd.up (outR (zej d2 (dt step ((un x).2.1.drop (un x).1.toNat) (un x).2.2)))))))
def zdk {fr:L.X->Fr (Rd L.X Eo.X R.X)} (h:ae P c L ⟨n,id,L,Eo,R⟩ fr) (step:T->σ->Fr (σ ⊕ ρ)) (un:L.X->Int×List T×σ) (good:L.X->Prop) (ca:σ->Eo.X) (outR:ρ->Rd Empty Eo.X R.X) (d:σ) (d2:ρ)
  (hround:∀ x,good x->0<=(un x).1->(un x).1<(un x).2.1.length->((un x).2.1.length:Int)<=9223372036854775807->∀ e,(un x).2.1[(un x).1.toNat]? = some e->∀ Q:Rd L.X Eo.X R.X->Prop,
   (step e (un x).2.2).satP (λ
    |.inl s'=>∀ x',un x'=((un x).1+1,(un x).2.1,s')->good x'->Q (.next x')
    |.inr y=>Q (Rd.up (outR y)))->(fr x).satP Q)
  (hend:∀ x,good x->¬ (un x).1<(un x).2.1.length->∀ Q:Rd L.X Eo.X R.X->Prop,Q (.out (ca (un x).2.2))->(fr x).satP Q) :
  ae P (.loop c) L ⟨n,id,L,Eo,R⟩ (FL step un good ca outR d d2):=by
 refine ae.loop (n:=n) (id:=id) h (inv:=λx=>InL (good x) (un x)) (μ:=λx=>(((un x).2.1.length:Int)-(un x).1).toNat) ?_ (λx Q hq=>hq.1);intro x hx Q hq;obtain⟨_,hok,hq1,hq2⟩:=hq;by_cases hi:(un x).1<(un x).2.1.length
 ·have hlo:=hx.lo;have hbig:=hx.big;have hl:(un x).1.toNat<(un x).2.1.length:=by omega
  have e1:(un x).2.1.drop (un x).1.toNat=(un x).2.1[(un x).1.toNat]::(un x).2.1.drop ((un x).1.toNat+1):=ual hl;have hn:((un x).1+1).toNat=(un x).1.toNat+1:=by omega
  rw[e1] at hok hq1 hq2;generalize he:(un x).2.1[(un x).1.toNat]=e at hok hq1 hq2;have he':(un x).2.1[(un x).1.toNat]? = some e:=by rw[uap hl,he]
  refine hround x hx.good hlo hi hbig e he' _ (nL hok.1 ?_);have hok2:=hok.2;simp only[dt] at hq1 hq2;cases hg:(step e (un x).2.2).get with
  |inl s'=>
   simp only[hg] at hok2 hq1 hq2;intro x' hun hgd;have e2:(un x').1=(un x).1+1:=by rw[hun]
   have e3:(un x').2.1=(un x).2.1:=by rw[hun]
   have e4:(un x').2.2=s':=by rw[hun]
   have hin:InL (good x') (un x'):=⟨hgd,by rw[e2]; omega,by rw[e2,e3]; omega,by rw[e3]; exact hbig⟩;refine⟨hin,by rw[e2,e3]; omega,hin,?_,?_,?_⟩
   ·rw[e2,e3,e4,hn]; exact hok2
   ·rw[e2,e3,e4,hn]; exact hq1
   ·rw[e2,e3,e4,hn]; exact hq2
  |inr y=>
   simp only[hg] at hq1 hq2;have:=hq2 rfl;simp only[zej] at this;cases ho:outR y with
   |next x=>exact nomatch x
   |out y2=>rw[ho] at this; simp only[ho,Rd.up]; exact this
   |back z=>rw[ho] at this; simp only[ho,Rd.up]; exact this
   |pan p=>rw[ho] at this; simp only[ho,Rd.up]; exact this
 ·have hl:(un x).2.1.drop (un x).1.toNat=[]:=ua1 (by have:=hx.lo; omega);rw[hl] at hq1;exact hend x hx.good hi _ (hq1 rfl)
def FF (step:T->σ->Fr σ) (un:L.X->Int×List T×σ) (good:L.X->Prop) (ca:σ->Eo.X) (x:L.X):Fr (Rd L.X Eo.X R.X):=
 Fr.need (InL (good x) (un x)) (Fr.need (pg step ((un x).2.1.drop (un x).1.toNat) (un x).2.2)
  (Fr.val (Rd.out (ca (kJ step ((un x).2.1.drop (un x).1.toNat) (un x).2.2)))))
def zdj {fr:L.X->Fr (Rd L.X Eo.X R.X)} (h:ae P c L ⟨n,id,L,Eo,R⟩ fr) (step:T->σ->Fr σ) (un:L.X->Int×List T×σ) (good:L.X->Prop) (ca:σ->Eo.X)
  (hround:∀ x,good x->0<=(un x).1->(un x).1<(un x).2.1.length->((un x).2.1.length:Int)<=9223372036854775807->∀ e,(un x).2.1[(un x).1.toNat]? = some e->∀ Q:Rd L.X Eo.X R.X->Prop,
   (step e (un x).2.2).satP (λs'=>∀ x',un x'=((un x).1+1,(un x).2.1,s')->good x'->Q (.next x'))->(fr x).satP Q)
  (hend:∀ x,good x->¬ (un x).1<(un x).2.1.length->∀ Q:Rd L.X Eo.X R.X->Prop,Q (.out (ca (un x).2.2))->(fr x).satP Q) :
  ae P (.loop c) L ⟨n,id,L,Eo,R⟩ (FF step un good ca):=by
 refine ae.loop (n:=n) (id:=id) h (inv:=λx=>InL (good x) (un x)) (μ:=λx=>(((un x).2.1.length:Int)-(un x).1).toNat) ?_ (λx Q hq=>hq.1);intro x hx Q hq;obtain⟨_,hok,hq1⟩:=hq;by_cases hi:(un x).1<(un x).2.1.length
 ·have hlo:=hx.lo;have hbig:=hx.big;have hl:(un x).1.toNat<(un x).2.1.length:=by omega
  have e1:(un x).2.1.drop (un x).1.toNat=(un x).2.1[(un x).1.toNat]::(un x).2.1.drop ((un x).1.toNat+1):=ual hl;have hn:((un x).1+1).toNat=(un x).1.toNat+1:=by omega
  rw[e1] at hok hq1;generalize he:(un x).2.1[(un x).1.toNat]=e at hok hq1;have he':(un x).2.1[(un x).1.toNat]? = some e:=by rw[uap hl,he]
  refine hround x hx.good hlo hi hbig e he' _ (nL hok.1 ?_);intro x' hun hgd;have e2:(un x').1=(un x).1+1:=by rw[hun]
  have e3:(un x').2.1=(un x).2.1:=by rw[hun]
  have e4:(un x').2.2=(step e (un x).2.2).get:=by rw[hun]
  have hin:InL (good x') (un x'):=⟨hgd,by rw[e2]; omega,by rw[e2,e3]; omega,by rw[e3]; exact hbig⟩;refine⟨hin,by rw[e2,e3]; omega,hin,?_,?_⟩
  ·rw[e2,e3,e4,hn]; exact hok.2
  ·rw[e2,e3,e4,hn]; exact hq1
 ·have hl:(un x).2.1.drop (un x).1.toNat=[]:=ua1 (by have:=hx.lo; omega);rw[hl] at hq1;exact hend x hx.good hi _ hq1
def Fr.mapR (f:α->β):Fr α->Fr β
 |.val x=>.val (f x)
 |.br b x y=>.br b (x.mapR f) (y.mapR f)
 |.need p x=>.need p (x.mapR f)
def su {f:α->β} {Q:β->Prop}:{t:Fr α}->t.satP (λx=>Q (f x))->(t.mapR f).satP Q
 |.val _,h=>h
 |.br _ _ _,h=>⟨λhb=>su (h.1 hb),λhb=>su (h.2 hb)⟩
 |.need _ _,h=>⟨h.1,su h.2⟩
inductive Nd|o|n (m:Nd)|z (m:Nd)|g (c v:Bool) (m:Nd)|h (c v:Bool) (m:Nd)|r (m:Nd)|d (m m2:Nd)
def Nd.ins (b z:Prop):Nd->Fr α->Fr α
 |.n m,t=>.need b (m.ins b z t)
 |.z m,t=>.need z (m.ins b z t)
 |.g c v m,t=>.need (c=v->b) (m.ins b z t)
 |.h c v m,t=>.need (c=v->z) (m.ins b z t)
 |.r m,.need p t=>.need p (m.ins b z t)
 |.d m m2,.br c x y=>.br c (m.ins b z x) (m2.ins b z y)
 |_,t=>t
def Nd.ins_sat {b z:Prop} {Q:α->Prop} (hb:b) (hz:z):(m:Nd)->(t:Fr α)->t.satP Q->(m.ins b z t).satP Q
 |.n m,_,q=>⟨hb,m.ins_sat hb hz _ q⟩
 |.z m,_,q=>⟨hz,m.ins_sat hb hz _ q⟩
 |.g _ _ m,_,q=>⟨λ_=>hb,m.ins_sat hb hz _ q⟩
 |.h _ _ m,_,q=>⟨λ_=>hz,m.ins_sat hb hz _ q⟩
 |.r m,.need _ _,q=>⟨q.1,m.ins_sat hb hz _ q.2⟩
 |.r _,.br _ _ _,q=>q
 |.r _,.val _,q=>q
 |.d m m2,.br _ _ _,q=>⟨λe=>m.ins_sat hb hz _ (q.1 e),λe=>m2.ins_sat hb hz _ (q.2 e)⟩
 |.d _ _,.need _ _,q=>q
 |.d _ _,.val _,q=>q
 |.o,_,q=>q
inductive AllQ (K:α->Prop):Fr α->Prop
 |val (x:α):K x->AllQ K (.val x)
 |br (c:Bool) (x y:Fr α):AllQ K x->AllQ K y->AllQ K (.br c x y)
 |need (p:Prop) (x:Fr α):AllQ K x->AllQ K (.need p x)
def AllQ.sat {K Q:α->Prop}:{t:Fr α}->AllQ K t->t.satP Q->t.satP (λr=>K r/\Q r)
 |.val _,.val _ h,q=>⟨h,q⟩
 |.br _ _ _,.br _ _ _ h1 h2,q=>⟨λe=>h1.sat (q.1 e),λe=>h2.sat (q.2 e)⟩
 |.need _ _,.need _ _ h,q=>⟨q.1,h.sat q.2⟩
def Wq (un:L.X->Int×List T×σ) (good:L.X->Prop) (up:L.X->σ->L.X) (x:L.X) (s:σ):Prop:=un (up x s)=(I6.wrap ((un x).1+1),(un x).2.1,s)/\good (up x s)
def L5 (un:L.X->Int×List T×σ) (good:L.X->Prop) (up:L.X->σ->L.X) (x:L.X):σ ⊕ ρ->Prop
 |.inl s=>Wq un good up x s
 |.inr _=>True
def JK (up:σ->L.X) (outR:ρ->Rd Empty Eo.X R.X):σ ⊕ ρ->Rd L.X Eo.X R.X
 |.inl s=>.next (up s)
 |.inr y=>Rd.up (outR y)
def WC {C:Cx} (hC:CxOK P C) {Λ:Nat->St->Option Tr} (hΛ:∀ E,bP P E Λ c 0) (step:T->σ->Fr (σ ⊕ ρ)) (un:L.X->Int×List T×σ) (good:L.X->Prop) (ca:σ->Eo.X) (outR:ρ->Rd Empty Eo.X R.X) (d:σ) (d2:ρ) (nd:T->σ->Nd) (nn:L.X->Int) (el:L.X->T) (b z:L.X->Prop) (up:L.X->σ->L.X)
  (hel:∀ x,good x->0<=(un x).1->(un x).1<(un x).2.1.length->nn x=((un x).2.1.length:Int)/\(un x).2.1[(un x).1.toNat]? = some (el x)/\b x/\z x)
  (hnn:∀ x,good x->¬ (un x).1<(un x).2.1.length->¬ (un x).1<nn x)
  (hr:∀ x,nB P C 0 Λ c L ⟨n,id,L,Eo,R⟩ x=some (Fr.br (decide ((un x).1<nn x)) (((nd (el x) (un x).2.2).ins (b x) (z x) (step (el x) (un x).2.2)).mapR (JK (up x) outR)) (Fr.val (Rd.out (ca (un x).2.2)))))
  (hup:∀ x,good x->AllQ (L5 (ρ:=ρ) un good up x) (step (el x) (un x).2.2):=by intro _ h; repeat' first|exact And.intro rfl h|exact trivial|constructor)
  (hM:L.low=true:=by rfl) (hE:Eo.low=true:=by rfl) (hR:R.low=true:=by rfl) :
  ae P (.loop c) L ⟨n,id,L,Eo,R⟩ (FL step un good ca outR d d2):=by
 refine zdk (ae.of_run hC (bs:=0) (Λ:=Λ) hM hE hR hΛ hr) step un good ca outR d d2 ?_ ?_
 ·intro x hg h0 h1 hb e he Q h;obtain⟨e1,e2,e3,e4⟩:=hel x hg h0 h1;have e5:el x=e:=udz (e2.symm.trans he);subst e5;refine⟨λ_=>su (Nd.ins_sat e3 e4 _ _ (Fr.satP_mono (λr hr=>?_) ((hup x hg).sat h))),λhc=>absurd (e1 ▸ h1) (ucf hc)⟩;cases r with
  |inl s=>exact hr.2 _ (hr.1.1.trans (by rw[IntWalk.i64_in _ (by omega)])) hr.1.2
  |inr y=>exact hr.2
 ·intro x hg h1 Q h;exact⟨λhc=>absurd (ucv hc) (hnn x hg h1),λ_=>h⟩
def qf {C:Cx} (hC:CxOK P C) {Λ:Nat->St->Option Tr} {step:T->σ->Fr (σ ⊕ ρ)} {un:L.X->Int×List T×σ} {good:L.X->Prop} {ca:σ->Eo.X} {outR:ρ->Rd Empty Eo.X R.X} {d:σ} {d2:ρ} (nd:T->σ->Nd) (dT:T) (nn:L.X->Int) (up:L.X->σ->L.X) (hn:∀ x,good x->nn x=((un x).2.1.length:Int))
  (hΛ:∀ E,bP P E Λ c 0:=by exact λ_=>aY _ 0)
  (hr:∀ x,nB P C 0 Λ c L ⟨n,id,L,Eo,R⟩ x=some (Fr.br (decide ((un x).1<nn x)) (((nd ((un x).2.1.getD (un x).1.toNat dT) (un x).2.2).ins (0<=(un x).1/\(un x).1<((un x).2.1.length:Int)) True (step ((un x).2.1.getD (un x).1.toNat dT) (un x).2.2)).mapR (JK (up x) outR)) (Fr.val (Rd.out (ca (un x).2.2)))):=by intro x; kernel_rfl)
  (hup:∀ x,good x->AllQ (L5 (ρ:=ρ) un good up x) (step ((un x).2.1.getD (un x).1.toNat dT) (un x).2.2):=by intro _ h; repeat' first|exact And.intro rfl h|exact trivial|constructor)
  (hM:L.low=true:=by rfl) (hE:Eo.low=true:=by rfl) (hR:R.low=true:=by rfl) :
  ae P (.loop c) L ⟨n,id,L,Eo,R⟩ (FL step un good ca outR d d2):=
 WC hC hΛ step un good ca outR d d2 nd nn _ _ _ up (λx hg h0 h1=>⟨hn x hg,by
  rw[uap (by omega),uah,uap (by omega)]; rfl,⟨h0,h1⟩,uT⟩) (λx hg h=>by rw[hn x hg]; exact h) hr hup hM hE hR
def zdl {C:Cx} (hC:CxOK P C) {Λ:Nat->St->Option Tr} {T2:Type} {step:T×T2->σ->Fr (σ ⊕ ρ)} {un:L.X->Int×List (T×T2)×σ} {good:L.X->Prop} {ca:σ->Eo.X} {outR:ρ->Rd Empty Eo.X R.X} {d:σ} {d2:ρ} (nd:T×T2->σ->Nd) (dT:T) (dT2:T2) (l1:L.X->List T) (l2:L.X->List T2) (nn:L.X->Int) (up:L.X->σ->L.X) (hn:∀ x,good x->nn x=((l1 x).length:Int)/\(l1 x).length=(l2 x).length)
  (hΛ:∀ E,bP P E Λ c 0:=by exact λ_=>aY _ 0)
  (hr:∀ x,nB P C 0 Λ c L ⟨n,id,L,Eo,R⟩ x=some (Fr.br (decide ((un x).1<nn x)) (((nd ((l1 x).getD (un x).1.toNat dT,(l2 x).getD (un x).1.toNat dT2) (un x).2.2).ins (0<=(un x).1/\(un x).1<((l1 x).length:Int)) (0<=(un x).1/\(un x).1<((l2 x).length:Int)) (step ((l1 x).getD (un x).1.toNat dT,(l2 x).getD (un x).1.toNat dT2) (un x).2.2)).mapR (JK (up x) outR)) (Fr.val (Rd.out (ca (un x).2.2)))):=by intro x; kernel_rfl)
  (hl:∀ x,(un x).2.1=(l1 x).zip (l2 x):=by intro _; rfl)
  (hup:∀ x,good x->AllQ (L5 (ρ:=ρ) un good up x) (step ((l1 x).getD (un x).1.toNat dT,(l2 x).getD (un x).1.toNat dT2) (un x).2.2):=by intro _ h; repeat' first|exact And.intro rfl h|exact trivial|constructor)
  (hM:L.low=true:=by rfl) (hE:Eo.low=true:=by rfl) (hR:R.low=true:=by rfl) :
  ae P (.loop c) L ⟨n,id,L,Eo,R⟩ (FL step un good ca outR d d2):=
 WC hC hΛ step un good ca outR d d2 nd nn _ _ _ up (λx hg h0 h1=>by
  obtain⟨a1,a2⟩:=hn x hg;rw[hl x,udu] at h1 |-;have hi:(un x).1.toNat<(l1 x).length:=by omega
  have hj:(un x).1.toNat<(l2 x).length:=by omega
  refine⟨by rw[a1]; omega,?_,⟨h0,by omega⟩,⟨h0,by omega⟩⟩;rw[uah,uah,uap hi,uap hj,uap (by rw[udu]; omega),List.getElem_zip];rfl) (λx hg h=>by
  obtain⟨a1,a2⟩:=hn x hg;rw[hl x,udu] at h;omega) hr hup hM hE hR
def LF {C:Cx} (hC:CxOK P C) {Λ:Nat->St->Option Tr} {step:T->σ->Fr σ} {un:L.X->Int×List T×σ} {good:L.X->Prop} {ca:σ->Eo.X} (nd:T->σ->Nd) (dT:T) (nn:L.X->Int) (up:L.X->σ->L.X) (hn:∀ x,good x->nn x=((un x).2.1.length:Int))
  (hΛ:∀ E,bP P E Λ c 0:=by exact λ_=>aY _ 0)
  (hr:∀ x,nB P C 0 Λ c L ⟨n,id,L,Eo,R⟩ x=some (Fr.br (decide ((un x).1<nn x)) (((nd ((un x).2.1.getD (un x).1.toNat dT) (un x).2.2).ins (0<=(un x).1/\(un x).1<((un x).2.1.length:Int)) True (step ((un x).2.1.getD (un x).1.toNat dT) (un x).2.2)).mapR (λs=>Rd.next (up x s))) (Fr.val (Rd.out (ca (un x).2.2)))):=by intro x; kernel_rfl)
  (hup:∀ x,good x->AllQ (Wq un good up x) (step ((un x).2.1.getD (un x).1.toNat dT) (un x).2.2):=by intro _ h; repeat' first|exact And.intro rfl h|exact trivial|constructor)
  (hM:L.low=true:=by rfl) (hE:Eo.low=true:=by rfl) (hR:R.low=true:=by rfl) :
  ae P (.loop c) L ⟨n,id,L,Eo,R⟩ (FF step un good ca):=by
 refine zdj (ae.of_run hC (bs:=0) (Λ:=Λ) hM hE hR hΛ hr) step un good ca ?_ ?_
 ·intro x hg h0 h1 hb e he Q h;have e5:(un x).2.1.getD (un x).1.toNat dT=e:=by rw[uah,he]; rfl
  rw[e5];refine⟨λ_=>su (Nd.ins_sat ⟨h0,h1⟩ trivial _ _ (Fr.satP_mono (λs hr=>?_) (AllQ.sat (e5 ▸ hup x hg) h))),λhc=>absurd (hn x hg ▸ h1) (ucf hc)⟩;exact hr.2 _ (hr.1.1.trans (by rw[IntWalk.i64_in _ (by omega)])) hr.1.2
 ·intro x hg h1 Q h;exact⟨λhc=>absurd (ucv hc) (by rw[hn x hg]; exact h1),λ_=>h⟩
def ph {step:T->σ->Fr (σ ⊕ ρ)} (h:∀ e s,(step e s).ok):(l:List T)->(s:σ)->jo step l s
 |[],_=>trivial
 |e::r,s=>by
  refine⟨h e s,?_⟩;split
  ·exact ph h r _
  ·trivial
end
section
variable {P:Program} {c:Code} {L Eo R:LS} {n id:Nat} {T σ ρ:Type}
end
section
variable {α:Type} {key:α->Int}
def bY (key:α->Int) (l:List α):Prop:=l.Pairwise λx y=>key x<=key y
def bh (key:α->Int) (l s:List α):Prop:=∀ k,s.filter (λx=>key x==k)=l.filter (λx=>key x==k)
def bh.refl (l:List α):bh key l l:=λ_=>rfl
def bh.trans {a b c:List α} (h:bh key a b) (k:bh key b c):bh key a c:=λn=>(k n).trans (h n)
def bh.symm {a b:List α} (h:bh key a b):bh key b a:=λn=>(h n).symm
def bh.app {a b c d:List α} (h:bh key a b) (k:bh key c d):bh key (a++c) (b++d):=λn=>by simp[h n,k n]
def bh.mem {l s:List α} (h:bh key l s) {x:α}:x∈s↔x∈l:=by
 have:=ufm (x ∈ ·) (h (key x));simpa using this
def bh.swap {a b:List α} (h:∀ x∈a,∀ y∈b,key x≠key y):bh key (a++b) (b++a):=λn=>by
 simp only[uch];by_cases ha:∃ x∈a,key x=n
 ·obtain⟨x,hx,hk⟩:=ha;have hb:b.filter (λx=>key x==n)=[]:=by
   rw[List.filter_eq_nil_iff];intro y hy;have:=h x hx y hy;simp;omega
  rw[hb];simp
 ·have ha':a.filter (λx=>key x==n)=[]:=by
   rw[List.filter_eq_nil_iff];intro y hy hk;exact ha ⟨y,hy,by simpa using hk⟩
  rw[ha'];simp
def WH:{s t:List α}->bY key s->bY key t->bh key s t->s=t
 |[],t,_,_,h=>by
  cases t with
  |nil=>rfl
  |cons y t=>have:=(h.mem (x:=y)).1 (by simp); simp at this
 |x::s,[],_,_,h=>by have:=(h.mem (x:=x)).2 (by simp); simp at this
 |x::s,y::t,hs,ht,h=>by
  have hs':=ub8.1 hs;have ht':=ub8.1 ht;have hxy:key x<=key y:=by
   rcases uee.1 ((h.mem (x:=y)).1 (by simp)) with e|e
   ·exact Int.le_of_eq (by rw[e])
   ·exact hs'.1 y e
  have hyx:key y<=key x:=by
   rcases uee.1 ((h.mem (x:=x)).2 (by simp)) with e|e
   ·exact Int.le_of_eq (by rw[e])
   ·exact ht'.1 x e
  have hk:key x=key y:=by omega
  have h0:=h (key x);simp only[List.filter_cons,hk,beq_self_eq_true,if_true,udm] at h0;obtain⟨rfl,h0⟩:=h0;have:s=t:=WH hs'.2 ht'.2 λn=>by
   have:=h n;simp only[List.filter_cons] at this;split at this
   ·simpa using this
   ·exact this
  rw[this]
def rl (lt:α->α->Bool) (x:α):List α->List α
 |[]=>[x]
 |y::r=>if lt y x then y::rl lt x r else x::y::r
def cM (lt:α->α->Bool):List α->List α
 |[]=>[]
 |x::r=>rl lt x (cM lt r)
def RI {lt:α->α->Bool} {x:α}:(l:List α)->(rl lt x l).Perm (x::l)
 |[]=>List.Perm.refl _
 |y::r=>by
  simp only[rl];split
  ·exact(List.Perm.cons y (RI r)).trans (List.Perm.swap x y r)
  ·exact List.Perm.refl _
def KS {lt:α->α->Bool}:(l:List α)->(cM lt l).Perm l
 |[]=>List.Perm.refl _
 |x::r=>(RI _).trans (List.Perm.cons x (KS r))
def mj {lt:α->α->Bool} (l:List α):(cM lt l).length=l.length:=(KS l).length_eq
def yZ {lt:α->α->Bool} {l:List α} {x:α}:x∈cM lt l↔x∈l:=(KS l).mem_iff
def dd (lt:α->α->Bool) (key:α->Int) (l:List α):Prop:=∀ x∈l,∀ y∈l,lt x y=decide (key x<key y)
def dd.sub {lt:α->α->Bool} {l s:List α} (h:dd lt key l) (hs:∀ x∈s,x∈l):dd lt key s:=λx hx y hy=>h x (hs x hx) y (hs y hy)
def RJ {lt:α->α->Bool} {x:α}:{l:List α}->dd lt key (x::l)->bY key l->bY key (rl lt x l)/\bh key (x::l) (rl lt x l)
 |[],_,_=>⟨uax _ _,bh.refl _⟩
 |y::r,h,hs=>by
  have hs':=ub8.1 hs;have hl:=h y (by simp) x (by simp);simp only[rl];split
  ·rename_i hyx;rw[hyx] at hl;have hlt:key y<key x:=by simpa using hl.symm
   obtain⟨h1,h2⟩:=RJ (x:=x) (h.sub (by intro z hz; simp at hz |-; rcases hz with rfl|hz<;>simp[*])) hs'.2;refine⟨ub8.2 ⟨λz hz=>?_,h1⟩,?_⟩
   ·rcases uee.1 ((h2.mem).1 hz) with rfl|hz
    ·omega
    ·exact hs'.1 z hz
   ·have h3:bh key ([x]++[y]) ([y]++[x]):=bh.swap λa ha b hb=>by simp at ha hb; subst ha; subst hb; omega
    have h4:=h3.app (bh.refl r);have h5:=(bh.refl [y]).app h2;exact h4.trans h5
  ·rename_i hyx;have hf:lt y x=false:=by simpa using hyx
   rw[hf] at hl;have hle:key x<=key y:=by simpa using hl.symm
   exact⟨ub8.2 ⟨λz hz=>by
    rcases uee.1 hz with rfl|hz
    ·exact hle
    ·exact uez hle (hs'.1 z hz),hs⟩,bh.refl _⟩
def nC {lt:α->α->Bool}:{l:List α}->dd lt key l->bY key (cM lt l)/\bh key l (cM lt l)
 |[],_=>⟨List.Pairwise.nil,bh.refl _⟩
 |x::r,h=>by
  obtain⟨h1,h2⟩:=nC (l:=r) (h.sub (by intro z hz; simp[hz]));obtain⟨h3,h4⟩:=RJ (x:=x) (h.sub (by
   intro z hz;rcases uee.1 hz with rfl|hz
   ·simp
   ·simp[yZ.1 hz])) h1
  exact⟨h3,bh.trans (bh.app (bh.refl [x]) h2) h4⟩
def mQ {lt:α->α->Bool} {l s:List α} (h:dd lt key l) (hs:bY key s) (hk:bh key l s):s=cM lt l:=by
 obtain⟨h1,h2⟩:=nC h;exact WH hs h1 (hk.symm.trans h2)
def bA (lt:α->α->Bool) (a b:Nat) (l:List α):List α:=l.take a++(cM lt ((l.take b).drop a)++l.drop b)
def rE {lt:α->α->Bool} {a:Nat} {p s q:List α} (ha:p.length=a) (hb:(p++s).length=b):bA lt a b (p++(s++q))=p++(cM lt s++q):=by
 subst ha hb;have h1:(p++(s++q)).take (p++s).length=p++s:=by rw[<- ucp]; exact udv rfl
 have h2:(p++(s++q)).drop (p++s).length=q:=by rw[<- ucp]; exact udw rfl
 unfold bA;rw[h1,h2,udv rfl,udw rfl]
def KT {l:List α} {a:Nat} (hab:a<=b) (hb:b<=l.length):∃ p s q,l=p++(s++q)/\p.length=a/\s.length=b-a/\q.length=l.length-b:=
 ⟨l.take a,(l.take b).drop a,l.drop b,by
  have h1:(l.take b).take a=l.take a:=by rw[ud4,udl hab]
  rw[<- ucp,<- h1,ua9,ua9],by simp; omega,by simp; omega,by simp⟩
def fx (l:List α) (d:α) (i j:Nat):List α:=(l.set i (l.getD j d)).set j (l.getD i d)
end
section
variable {α:Type} {key:α->Int} {d:α}
def Ce {p s q:List α} (h:i<s.length):(p++(s++q)).getD (p.length+i) d=s.getD i d:=by
 simp[uae,uaj h]
def VB {p r q:List α} {x y:α} (hi:i=p.length) (hj:j=p.length+1+r.length):fx (p++(x::(r++(y::q)))) d i j=p++(y::(r++(x::q))):=by
 subst hi hj;unfold fx;have h1:(p++(x::(r++(y::q)))).getD (p.length+1+r.length) d=y:=by
  rw[show p++(x::(r++(y::q)))=(p++[x]++r)++(y::q) by simp];simp only[uah];rw[uae (by simp; omega)];simp[show p.length+1+r.length-(p.length+(r.length+1))=0 by omega]
 have h2:(p++(x::(r++(y::q)))).getD p.length d=x:=by simp
 rw[h1,h2];have h3:(p++(x::(r++(y::q)))).set p.length y=p++(y::(r++(y::q))):=by simp
 rw[h3];rw[show p++(y::(r++(y::q)))=(p++[y]++r)++(y::q) by simp,List.set_append_right _ _ (by simp; omega)];simp[show p.length+1+r.length-(p.length+(r.length+1))=0 by omega]
def VD {p q:List α} {x y:α} (hi:i=p.length):fx (p++(x::(y::q))) d i (i+1)=p++(y::(x::q)):=
 VB (r:=[]) hi (by simp[hi])
def zbe {l:List α} (h:i≠j):fx l d j i=fx l d i j:=by
 unfold fx;rw[List.set_comm _ _ (by omega)]
def VF {p q:List α} {x y:α} (hi:i=p.length):fx (p++(x::(y::q))) d (i+1) i=p++(y::(x::q)):=by
 rw[zbe (by omega),VD hi]
def fp (lt:α->α->Bool) (d:α) (a:Nat):Nat->List α->List α
 |0,l=>l
 |j+1,l=>if a<j+1 then bif lt (l.getD (j+1) d) (l.getD j d) then fp lt d a j (fx l d (j+1) j) else l else l
def lI (lt:α->α->Bool) (d:α) (a:Nat):Nat->Nat->List α->List α
 |0,_,l=>l
 |n+1,i,l=>lI lt d a n (i+1) (fp lt d a i l)
def Vm (s:List α):s=[] \/ ∃ t y,s=t++[y]:=by
 cases h:s.reverse with
 |nil=>exact .inl (by simpa using h)
 |cons y t=>exact .inr ⟨t.reverse,y,by have:=ufm List.reverse h; simpa using this⟩
def RK {lt:α->α->Bool} {p:List α} {x:α}:(n:Nat)->(s q:List α)->s.length=n->dd lt key (s++[x])->bY key s ->
  ∃ t,fp lt d p.length (p.length+n) (p++(s++(x::q)))=p++(t++q)/\bY key t/\bh key (s++[x]) t
 |0,s,q,hn,_,_=>by
  obtain rfl:=uay.1 hn;refine⟨[x],?_,uax _ _,bh.refl _⟩;cases hp:p.length with
  |zero=>simp[fp]
  |succ j=>simp[fp]
 |n+1,s,q,hn,hl,hs=>by
  rcases Vm s with rfl|⟨s',y,rfl⟩
  ·simp at hn
  ·have hn':s'.length=n:=by simpa using hn
   have hs':=ubn.1 hs;have e1:p++((s'++[y])++(x::q))=(p++s')++(y::(x::q)):=by simp
   have hk:=hl x (by simp) y (by simp);have g1:(p++((s'++[y])++(x::q))).getD (p.length+n+1) d=x:=by
    rw[e1];simp only[uah];rw[uae (by simp; omega)];simp[hn']
   have g2:(p++((s'++[y])++(x::q))).getD (p.length+n) d=y:=by
    rw[e1];simp only[uah];simp[hn']
   rw[show p.length+(n+1)=(p.length+n)+1 by omega];simp only[fp,g1,g2];rw[if_pos (by omega),hk];by_cases hlt:key x<key y
   ·simp only[hlt,cond_true];rw[e1,VF (by simp[hn'])];obtain⟨t,h1,h2,h3⟩:=RK (x:=x) n s' (y::q) hn' (hl.sub (by intro z hz; simp at hz |-; rcases hz with h|h<;>simp[h])) hs'.1;have e2:(p++s')++(x::(y::q))=p++(s'++(x::(y::q))):=by simp
    rw[e2,h1];refine⟨t++[y],by simp,?_,?_⟩
    ·refine ubn.2 ⟨h2,uax _ _,λa ha b hb=>?_⟩;simp at hb;subst hb;rcases udo.1 (h3.mem.1 ha) with h|h
     ·exact hs'.2.2 a h _ (by simp)
     ·simp at h;subst h;omega
    ·have h4:bh key ((s'++[y])++[x]) (s'++[x]++[y]):=by
      rw[ucp,ucp];exact(bh.refl s').app (bh.swap λa ha b hb=>by simp at ha hb; subst ha hb; omega)
     exact h4.trans (h3.app (bh.refl [y]))
   ·simp only[hlt,cond_false];refine⟨s'++[y]++[x],by simp,?_,bh.refl _⟩;refine ubn.2 ⟨hs,uax _ _,λa ha b hb=>?_⟩;simp at hb;subst hb;rcases udo.1 ha with h|h
    ·have:=hs'.2.2 a h y (by simp);omega
    ·simp at h;subst h;omega
def RM {lt:α->α->Bool} {p q:List α}:(u s:List α)->dd lt key (s++u)->bY key s->∃ t,lI lt d p.length u.length (p.length+s.length) (p++(s++(u++q)))=p++(t++q)/\bY key t/\bh key (s++u) t
 |[],s,_,hs=>⟨s,by simp[lI],hs,by simpa using bh.refl s⟩
 |x::u,s,hl,hs=>by
  obtain⟨t,h1,h2,h3⟩:=RK (x:=x) s.length s (u++q) rfl (hl.sub (by intro z hz; simp at hz |-; rcases hz with h|h<;>simp[h])) hs;have hlen:t.length=s.length+1:=by
   have:=ufm List.length h1;have hd:∀ (n:Nat) (l:List α),(fp lt d p.length n l).length=l.length:=by
    intro n
    induction n with
    |zero=>intro l; rfl
    |succ n ih=>
     intro l;simp only[fp];split
     ·cases lt (l.getD (n+1) d) (l.getD n d)
      ·rfl
      ·simp[ih,fx]
     ·rfl
   rw[hd] at this;simp at this;omega
  obtain⟨t',k1,k2,k3⟩:=RM u t (hl.sub (by
   intro z hz;rcases udo.1 hz with h|h
   ·have:=h3.mem.1 h;simp at this |-;rcases this with h|h<;>simp[h]
   ·simp[h])) h2
  refine⟨t',?_,k2,?_⟩
  ·simp only[uc6,lI,uc1];rw[h1,show p.length+s.length+1=p.length+t.length by omega];exact k1
  ·have:s++x::u=(s++[x])++u:=by simp
   rw[this];exact(h3.app (bh.refl u)).trans k3
def qn1 {lt:α->α->Bool} {a:Nat} {l:List α} (hab:a<=b) (hb:b<=l.length) (hl:dd lt key l):lI lt d a (b-(a+1)) (a+1) l=bA lt a b l:=by
 obtain⟨p,s,q,rfl,hp,hs,_⟩:=KT hab hb;subst hp;cases s with
 |nil=>
  have:b=p.length:=by simp at hs; omega
  subst this;rw[rE rfl (by simp)];simp[lI,cM]
 |cons x u=>
  simp at hs;have hb':b=p.length+(1+u.length):=by omega
  subst hb';rw[rE rfl (by simp; omega)];have hl':=hl.sub λz hz=>ua5 _ (ubi _ hz);obtain⟨t,h1,h2,h3⟩:=RM (d:=d) u [x] (by simpa using hl') (uax _ _);have e:=mQ hl' h2 (by simpa using h3);subst e;rw[<- h1];simp[show p.length+(1+u.length)-(p.length+1)=u.length by omega]
def nG (d:α):Nat->Nat->List α->List α
 |0,_,l=>l
 |n+1,k,l=>nG d n (k+1) (fx l d k (k+1))
def mM (d:α):Nat->Nat->List α->List α
 |0,_,l=>l
 |n+1,k,l=>mM d n (k-1) (fx l d k (k-1))
def Wr {x:α}:(s p q:List α)->nG d s.length p.length (p++(x::(s++q)))=p++(s++(x::q))
 |[],p,q=>by simp[nG]
 |y::s,p,q=>by
  simp only[uc6,nG,uc1];rw[VD rfl];have:=Wr (x:=x) s (p++[y]) q;simpa using this
def Pu {x:α}:(n:Nat)->(s p q:List α)->s.length=n->mM d n (p.length+n) (p++(s++(x::q)))=p++(x::(s++q))
 |0,s,p,q,h=>by
  obtain rfl:=uay.1 h;simp[mM]
 |n+1,s,p,q,h=>by
  rcases Vm s with rfl|⟨s',y,rfl⟩
  ·simp at h
  ·have hn:s'.length=n:=by simpa using h
   rw[show p.length+(n+1)=(p.length+n)+1 by omega];simp only[mM,uby];have e1:p++((s'++[y])++(x::q))=(p++s')++(y::(x::q)):=by simp
   rw[e1,VF (by simp[hn])];have:=Pu (x:=x) n s' p (y::q) hn;simpa using this
def e9 (d:α):Nat->Nat->Nat->List α->List α
 |0,_,_,l=>l
 |n+1,a,b,l=>e9 d n (a+1) (b+1) (fx l d a b)
def Ej:(x z y p q:List α)->x.length=z.length->∀ {b:Nat},b=p.length+x.length+y.length->e9 d x.length p.length b (p++(x++(y++(z++q))))=p++(z++(y++(x++q)))
 |[],z,y,p,q,h,b,hb=>by
  obtain rfl:=uay.1 h.symm;simp[e9]
 |u::x,[],y,p,q,h,b,hb=>by simp at h
 |u::x,v::z,y,p,q,h,b,hb=>by
  simp only[uc6,e9,uc1];have e1:p++(u::(x++(y++(v::(z++q)))))=p++(u::((x++y)++(v::(z++q)))):=by simp
  rw[e1,VB rfl (by simp at hb |-; omega)];have:=Ej x z (y++[u]) (p++[v]) q (by simpa using h) (b:=b+1) (by simp at hb |-; omega);simpa using this
def dH (d:α) (m:Nat):Nat->Nat->Nat->List α->Nat×List α
 |0,i,_,l=>(i,l)
 |f+1,i,j,l=>if i=j then (i,l) else if i>j then dH d m f (i-j) j (e9 d j (m-i) m l) else dH d m f i (j-i) (e9 d i (m-i) (m+j-i) l)
def pC (d:α) (a m b:Nat) (l:List α):List α:=let r:=dH d m (b-a) (m-a) (b-m) l; e9 d r.1 (m-r.1) m r.2
def K3 {m:Nat}:(f:Nat)->(x y p q:List α)->x.length+y.length<=f->0<x.length->0<y.length->m=p.length+x.length ->
  e9 d (dH d m f x.length y.length (p++(x++(y++q)))).1 (m-(dH d m f x.length y.length (p++(x++(y++q)))).1) m (dH d m f x.length y.length (p++(x++(y++q)))).2=p++(y++(x++q))
 |0,x,y,p,q,h,h1,_,_=>by omega
 |f+1,x,y,p,q,h,h1,h2,hm=>by
  simp only[dH];split
  ·rename_i he;subst hm;have:=Ej (d:=d) x y [] p q he (b:=p.length+x.length) (by simp);simpa using this
  ·split
   ·rename_i hne hgt;obtain⟨x1,x2,rfl,hx1⟩:∃ x1 x2,x=x1++x2/\x1.length=y.length:=⟨x.take y.length,x.drop y.length,by simp,by simp; omega⟩;simp only[ub4] at hm h hgt h1 |-;have e:=Ej (d:=d) x1 y x2 p q hx1 (b:=m) (by omega);have e0:m-(x1.length+x2.length)=p.length:=by omega
    rw[e0,<- hx1];rw[show p++(x1++x2++(y++q))=p++(x1++(x2++(y++q))) by simp,e];have:=K3 (m:=m) f x2 x1 (p++y) q (by omega) (by omega) (by omega) (by simp; omega);rw[show x1.length+x2.length-x1.length=x2.length by omega];simpa using this
   ·rename_i hne hgt;obtain⟨y1,y2,rfl,hy2⟩:∃ y1 y2,y=y1++y2/\y2.length=x.length:=⟨y.take (y.length-x.length),y.drop (y.length-x.length),by simp,by simp; omega⟩;simp only[ub4] at hm h hgt h2 hne |-;have e:=Ej (d:=d) x y2 y1 p q hy2.symm (b:=m+(y1.length+y2.length)-x.length) (by omega);have e0:m-x.length=p.length:=by omega
    rw[e0];rw[show p++(x++(y1++y2++q))=p++(x++(y1++(y2++q))) by simp,e];have:=K3 (m:=m) f y2 y1 p (x++q) (by omega) (by omega) (by omega) (by omega);rw[show y1.length+y2.length-x.length=y1.length by omega,<- hy2];simpa using this
def UA {a:Nat} {x y p q:List α} (h1:0<x.length) (h2:0<y.length) (ha:a=p.length) (hm:m=a+x.length) (hb:b=m+y.length):pC d a m b (p++(x++(y++q)))=p++(y++(x++q)):=by
 have:=K3 (d:=d) (m:=m) (b-a) x y p q (by omega) h1 h2 (by omega);unfold pC;rw[show m-a=x.length by omega,show b-m=y.length by omega];exact this
def cp (Q:Nat->Bool):Nat->Nat->Nat->Nat
 |0,i,_=>i
 |f+1,i,j=>if i<j then bif Q ((i+j)/2) then cp Q f ((i+j)/2+1) j else cp Q f i ((i+j)/2) else i
def wM {Q:Nat->Bool}:(f i j:Nat)->j-i<=f->i<=j->(∀ u v,i<=u->u<=v->v<j->Q v=true->Q u=true) ->
  i<=cp Q f i j/\cp Q f i j<=j/\(∀ k,i<=k->k<cp Q f i j->Q k=true)/\(∀ k,cp Q f i j<=k->k<j->Q k=false)
 |0,i,j,h,hij,_=>by
  simp only[cp];exact⟨ue4 _,hij,λk h1 h2=>by omega,λk h1 h2=>by omega⟩
 |f+1,i,j,h,hij,hmono=>by
  simp only[cp];by_cases hlt:i<j
  ·rw[if_pos hlt];cases hq:Q ((i+j)/2) with
   |true=>
    simp only[cond_true];obtain⟨a1,a2,a3,a4⟩:=wM (Q:=Q) f ((i+j)/2+1) j (by omega) (by omega) (λu v hu huv hv=>hmono u v (by omega) huv hv);refine⟨by omega,a2,λk h1 h2=>?_,a4⟩;by_cases hk:k<=(i+j)/2
    ·exact hmono k _ h1 hk (by omega) hq
    ·exact a3 k (by omega) h2
   |false=>
    simp only[cond_false];obtain⟨a1,a2,a3,a4⟩:=wM (Q:=Q) f i ((i+j)/2) (by omega) (by omega) (λu v hu huv hv=>hmono u v hu huv (by omega));refine⟨a1,by omega,a3,λk h1 h2=>?_⟩;by_cases hk:k<(i+j)/2
    ·exact a4 k h1 hk
    ·cases hqk:Q k with
     |false=>rfl
     |true=>rw[hmono _ k (by omega) (by omega) h2 hqk] at hq; cases hq
  ·rw[if_neg hlt];exact⟨ue4 _,hij,λk h1 h2=>by omega,λk h1 h2=>by omega⟩
end
section
variable {α:Type} {key:α->Int} {d:α}
def bf (a b:Nat) (l:List α):List α:=(l.take b).drop a
def rZ {p s q:List α} {a:Nat} (ha:p.length=a) (hb:a+s.length=b):bf a b (p++(s++q))=s:=by
 subst ha hb;unfold bf;have h1:(p++(s++q)).take (p.length+s.length)=p++s:=by rw[<- ucp]; exact udv (by simp)
 rw[h1,udw rfl]
def Vf {l:List α} {a:Nat} (h1:a<=m) (h2:m<=b) (h3:b<=l.length):∃ p q,l=p++(bf a m l++(bf m b l++q))/\p.length=a/\(bf a m l).length=m-a/\(bf m b l).length=b-m/\q.length=l.length-b:=by
 obtain⟨p,s,q,rfl,hp,hs,hq⟩:=KT (uek h1 h2) h3;obtain⟨x,y,rfl,hx⟩:∃ x y,s=x++y/\x.length=m-a:=⟨s.take (m-a),s.drop (m-a),by simp,by simp; omega⟩;have hy:y.length=b-m:=by simp at hs; omega
 have e1:bf a m (p++(x++y++q))=x:=by
  rw[ucp];exact rZ hp (by omega)
 have e2:bf m b (p++(x++y++q))=y:=by
  rw[show p++(x++y++q)=(p++x)++(y++q) by simp];exact rZ (by simp; omega) (by omega)
 rw[e1,e2];exact⟨p,q,by simp,hp,hx,hy,by omega⟩
def rF {lt:α->α->Bool} {a:Nat} {l:List α} (h1:a<=b) (h2:b<=l.length):(bA lt a b l).length=l.length:=by
 unfold bA;simp[mj];omega
def Vn {lt:α->α->Bool} {l:List α} (h:dd lt key l) (hs:bY key l):cM lt l=l:=(mQ h hs (bh.refl l)).symm
def Ka {lt:α->α->Bool} {a:Nat} {l:List α} (hab:a<=b) (hb:b<=l.length) (hl:dd lt key l):bh key l (bA lt a b l):=by
 obtain⟨p,s,q,rfl,hp,hs,_⟩:=KT hab hb;rw[rE hp (by simp; omega)];have h:=(nC (l:=s) (hl.sub λz hz=>ua5 _ (ubi _ hz))).2;exact(bh.refl p).app (h.app (bh.refl q))
def zem (lt:α->α->Bool) (d:α) (a m b:Nat) (l:List α):Nat:=
 cp (λc=>!lt (l.getD ((a+b)/2+m-1-c) d) (l.getD c d)) ((if (a+b)/2<m then (a+b)/2 else m)-(if (a+b)/2<m then (a+b)/2+m-b else a)) (if (a+b)/2<m then (a+b)/2+m-b else a) (if (a+b)/2<m then (a+b)/2 else m)
def cT (d:α) (m st en:Nat) (l:List α):List α:=if st<m/\m<en then pC d st m en l else l
def pO (lt:α->α->Bool) (d:α) (a m b:Nat) (l:List α):List α:=
 if m-a=1 then nG d (cp (λh=>lt (l.getD h d) (l.getD a d)) (b-m) m b-1-a) a l
 else if b-m=1 then mM d (m-cp (λh=>!lt (l.getD m d) (l.getD h d)) (m-a) a m) m l
 else
  let st:=zem lt d a m b l
  let aX:=(a+b)/2
  let en:=aX+m-st
  let l1:=cT d m st en l
  let l2:=if a<st/\st<aX then bA lt a aX l1 else l1
  if aX<en/\en<b then bA lt aX b l2 else l2
def oW {l:List α} (hs:bY key l) (hij:i<=j) (hj:j<l.length):key (l.getD i d)<=key (l.getD j d):=by
 rcases uel i j with h|h
 ·have:=List.pairwise_iff_getElem.1 hs i j (by omega) hj h;simpa[uah,uap hj,uap (show i<l.length by omega)] using this
 ·have:i=j:=by omega
  subst this;exact ue5 _
def fo {l:List α} (h:i<l.length):l.getD i d∈l:=by
 simp[uah,uap h]
def oJ {l:List α} {x:α} (h:x∈l):∃ i,i<l.length/\l.getD i d=x:=by
 obtain⟨i,hi,rfl⟩:=List.getElem_of_mem h;exact⟨i,hi,by simp[uah,uap hi]⟩
def VK {lt:α->α->Bool} {a:Nat} {p A B q:List α} (hp:p.length=a) (hA:A.length=m-a) (hB:B.length=b-m) (h1:a<m) (h2:m<b)
  (hl:dd lt key (A++B)) (sA:bY key A) (sB:bY key B) :
  ∃ A1 A2 B1 B2,A=A1++A2/\B=B1++B2/\a+A1.length=zem lt d a m b (p++(A++(B++q)))/\m+B1.length+zem lt d a m b (p++(A++(B++q)))=(a+b)/2+m /\
   (∀ x∈A1,∀ y∈B2,key x<=key y)/\(∀ y∈B1,∀ x∈A2,key y<key x):=by
 have gA:∀ i,i<A.length->(p++(A++(B++q))).getD (a+i) d=A.getD i d:=λi hi=>by rw[<- hp]; exact Ce hi
 have gB:∀ i,i<B.length->(p++(A++(B++q))).getD (m+i) d=B.getD i d:=λi hi=>by
  rw[show p++(A++(B++q))=(p++A)++(B++q) by simp,show m=(p++A).length by simp; omega];exact Ce hi
 generalize hL:p++(A++(B++q))=L at gA gB |-;have hQ:∀ c,a<=c->c<m->m<=(a+b)/2+m-1-c->(a+b)/2+m-1-c<b ->
   (!lt (L.getD ((a+b)/2+m-1-c) d) (L.getD c d))=decide (key (A.getD (c-a) d)<=key (B.getD ((a+b)/2+m-1-c-m) d)):=λc c1 c2 c3 c4=>by
  have e1:=gA (c-a) (by omega);have e2:=gB ((a+b)/2+m-1-c-m) (by omega);rw[show a+(c-a)=c by omega] at e1;rw[show m+((a+b)/2+m-1-c-m)=(a+b)/2+m-1-c by omega] at e2;rw[e1,e2,hl _ (ua5 _ (fo (by omega))) _ (ubi _ (fo (by omega)))];rw[udt];simp
 generalize hs0:(if (a+b)/2<m then (a+b)/2+m-b else a)=s0;generalize hr0:(if (a+b)/2<m then (a+b)/2 else m)=r0;have b1:a<=s0/\s0<=r0/\r0<=m/\r0<=(a+b)/2/\(a+b)/2+m<=b+s0/\(s0=a\/s0+b=(a+b)/2+m)/\(r0=m\/r0=(a+b)/2):=by
  subst hs0 hr0;split<;>omega
 obtain⟨c1,c2,c3,c4,c5,c6,c7⟩:=b1;obtain⟨r1,r2,r3,r4⟩:=wM (Q:=λc=>!lt (L.getD ((a+b)/2+m-1-c) d) (L.getD c d)) (r0-s0) s0 r0 (ue4 _) c2 (λu v hu huv hv h=>by
  rw[hQ v (by omega) (by omega) (by omega) (by omega)] at h;rw[hQ u (by omega) (by omega) (by omega) (by omega)];simp only[ucs] at h |-;have k1:=oW (d:=d) sA (i:=u-a) (j:=v-a) (by omega) (by omega);have k2:=oW (d:=d) sB (i:=(a+b)/2+m-1-v-m) (j:=(a+b)/2+m-1-u-m) (by omega) (by omega);omega)
 have hS:zem lt d a m b L=cp (λc=>!lt (L.getD ((a+b)/2+m-1-c) d) (L.getD c d)) (r0-s0) s0 r0:=by
  unfold zem;rw[hs0,hr0]
 rw[hS];generalize cp (λc=>!lt (L.getD ((a+b)/2+m-1-c) d) (L.getD c d)) (r0-s0) s0 r0=st at r1 r2 r3 r4 |-;refine⟨A.take (st-a),A.drop (st-a),B.take ((a+b)/2-st),B.drop ((a+b)/2-st),by simp,by simp,?_,?_,?_,?_⟩
 ·simp; omega
 ·simp; omega
 ·intro x hx y hy;obtain⟨i,hi,rfl⟩:=oJ (d:=d) hx;obtain⟨j,hj,rfl⟩:=oJ (d:=d) hy;simp at hi hj;have e1:(A.take (st-a)).getD i d=A.getD i d:=by simp[uah,show i<st-a by omega]
  have e2:(B.drop ((a+b)/2-st)).getD j d=B.getD ((a+b)/2-st+j) d:=by simp[uah]
  rw[e1,e2];have hq:=r3 (st-1) (by omega) (by omega);rw[hQ (st-1) (by omega) (by omega) (by omega) (by omega)] at hq;simp only[ucs] at hq;have k1:=oW (d:=d) sA (i:=i) (j:=st-1-a) (by omega) (by omega);have k2:=oW (d:=d) sB (i:=(a+b)/2+m-1-(st-1)-m) (j:=(a+b)/2-st+j) (by omega) (by omega);omega
 ·intro y hy x hx;obtain⟨i,hi,rfl⟩:=oJ (d:=d) hx;obtain⟨j,hj,rfl⟩:=oJ (d:=d) hy;simp at hi hj;have e1:(A.drop (st-a)).getD i d=A.getD (st-a+i) d:=by simp[uah]
  have e2:(B.take ((a+b)/2-st)).getD j d=B.getD j d:=by simp[uah,show j<(a+b)/2-st by omega]
  rw[e1,e2];have hq:=r4 st (ue4 _) (by omega);rw[hQ st (by omega) (by omega) (by omega) (by omega)] at hq;simp only[uau] at hq;have k1:=oW (d:=d) sA (i:=st-a) (j:=st-a+i) (by omega) (by omega);have k2:=oW (d:=d) sB (i:=j) (j:=(a+b)/2+m-1-st-m) (by omega) (by omega);omega
def zae {lt:α->α->Bool} {A1 A2 B1 B2:List α} (hl:dd lt key ((A1++A2)++(B1++B2))) (sA:bY key (A1++A2)) (sB:bY key (B1++B2)) (h1:∀ x∈A1,∀ y∈B2,key x<=key y) (h2:∀ y∈B1,∀ x∈A2,key y<key x) :
  cM lt (A1++B1)++cM lt (A2++B2)=cM lt ((A1++A2)++(B1++B2)):=by
 have l1:dd lt key (A1++B1):=hl.sub λz hz=>by simp at hz |-; rcases hz with h|h<;>simp[h]
 have l2:dd lt key (A2++B2):=hl.sub λz hz=>by simp at hz |-; rcases hz with h|h<;>simp[h]
 obtain⟨s1,k1⟩:=nC l1;obtain⟨s2,k2⟩:=nC l2;have pA:=ubn.1 sA;have pB:=ubn.1 sB;refine mQ hl (ubn.2 ⟨s1,s2,λx hx y hy=>?_⟩) ?_
 ·rw[yZ] at hx hy;rcases udo.1 hx with hx|hx<;>rcases udo.1 hy with hy|hy
  ·exact pA.2.2 x hx y hy
  ·exact h1 x hx y hy
  ·exact uep (h2 x hx y hy)
  ·exact pB.2.2 x hx y hy
 ·have e1:bh key (A1++(A2++B1)++B2) (A1++(B1++A2)++B2):=((bh.refl A1).app (bh.swap λx hx y hy=>by have:=h2 y hy x hx; omega)).app (bh.refl B2);have e2:=k1.app k2;have e1':bh key ((A1++A2)++(B1++B2)) ((A1++B1)++(A2++B2)):=by simpa using e1
  exact e1'.trans e2
def zbi {lt:α->α->Bool} {a:Nat} {p A B q:List α} (hp:p.length=a) (hA:A.length=m-a) (hB:B.length=b-m) (h1:a<m) (h2:m<b)
  (hl:dd lt key (A++B)) (sA:bY key A) (sB:bY key B):pO lt d a m b (p++(A++(B++q)))=p++(cM lt (A++B)++q):=by
 unfold pO;split
 ·
  rename_i hm;cases A with
  |nil=>simp at hA; omega
  |cons x A=>
   obtain rfl:A=[]:=by simp at hA; exact uay.1 (by omega)
   have gx:(p++([x]++(B++q))).getD a d=x:=by subst hp; simp[uah]
   have gB:∀ i,i<B.length->(p++([x]++(B++q))).getD (m+i) d=B.getD i d:=λi hi=>by
    rw[show p++([x]++(B++q))=(p++[x])++(B++q) by simp,show m=(p++[x]).length by simp; omega];exact Ce hi
   have hQ:∀ k,m<=k->k<b->lt ((p++([x]++(B++q))).getD k d) ((p++([x]++(B++q))).getD a d)=decide (key (B.getD (k-m) d)<key x):=λk k1 k2=>by
    have:=gB (k-m) (by omega);rw[show m+(k-m)=k by omega] at this;rw[this,gx];exact hl _ (ua5 _ (fo (by omega))) _ (by simp)
   obtain⟨r1,r2,r3,r4⟩:=wM (Q:=λh=>lt ((p++([x]++(B++q))).getD h d) ((p++([x]++(B++q))).getD a d)) (b-m) m b (ue4 _) (by omega) (λu v hu huv hv h=>by
    rw[hQ v (by omega) hv] at h;rw[hQ u hu (by omega)];simp only[ucs] at h |-;have:=oW (d:=d) sB (i:=u-m) (j:=v-m) (by omega) (by omega);omega)
   generalize cp (λh=>lt ((p++([x]++(B++q))).getD h d) ((p++([x]++(B++q))).getD a d)) (b-m) m b=r at r1 r2 r3 r4 |-;obtain⟨B1,B2,rfl,hB1⟩:∃ B1 B2,B=B1++B2/\B1.length=r-m:=⟨B.take (r-m),B.drop (r-m),by simp,by simp; omega⟩;have hB':B1.length+B2.length=b-m:=by simpa using hB
   have f1:∀ y∈B1,key y<key x:=λy hy=>by
    obtain⟨j,hj,rfl⟩:=oJ (d:=d) hy;have:=r3 (m+j) (by omega) (by omega);rw[hQ (m+j) (by omega) (by omega)] at this;simp only[ucs,uaw] at this
    rwa [show(B1++B2).getD j d=B1.getD j d by simp[uah,uaj hj]] at this
   have f2:∀ y∈B2,key x<=key y:=λy hy=>by
    obtain⟨j,hj,rfl⟩:=oJ (d:=d) hy;have:=r4 (r+j) (by omega) (by omega);rw[hQ (r+j) (by omega) (by omega)] at this;simp only[uau] at this;rw[show(B1++B2).getD (r+j-m) d=B2.getD j d by
     simp only[uah];rw[uae (by omega),show r+j-m-B1.length=j by omega]] at this
    omega
   rw[show r-1-a=B1.length by omega];have hup:=Wr (d:=d) (x:=x) B1 p (B2++q);rw[hp] at hup;have e0:p++([x]++(B1++B2++q))=p++(x::(B1++(B2++q))):=by simp
   rw[e0,hup];have pB:=ubn.1 sB;have hS:B1++(x::B2)=cM lt ([x]++(B1++B2)):=by
    refine mQ hl (ubn.2 ⟨pB.1,ub8.2 ⟨λy hy=>f2 y hy,pB.2.1⟩,λy hy z hz=>?_⟩) ?_
    ·rcases uee.1 hz with rfl|hz
     ·exact uep (f1 y hy)
     ·exact pB.2.2 y hy z hz
    ·have e1:bh key (([x]++B1)++B2) ((B1++[x])++B2):=(bh.swap λu hu y hy=>by simp at hu; subst hu; have:=f1 y hy; omega).app (bh.refl B2);simpa using e1
   rw[<- hS];simp
 ·split
  ·
   rename_i _ hm;cases B with
   |nil=>simp at hB; omega
   |cons x B=>
    obtain rfl:B=[]:=by simp at hB; exact uay.1 (by omega)
    have gx:(p++(A++([x]++q))).getD m d=x:=by
     rw[show p++(A++([x]++q))=(p++A)++(x::q) by simp,show m=(p++A).length by simp; omega];simp only[uah];rw[uae (ue4 _)];simp
    have gA:∀ i,i<A.length->(p++(A++([x]++q))).getD (a+i) d=A.getD i d:=λi hi=>by rw[<- hp]; exact Ce hi
    have hQ:∀ k,a<=k->k<m->(!lt ((p++(A++([x]++q))).getD m d) ((p++(A++([x]++q))).getD k d))=decide (key (A.getD (k-a) d)<=key x):=λk k1 k2=>by
     have:=gA (k-a) (by omega);rw[show a+(k-a)=k by omega] at this;rw[this,gx,hl _ (ua5 _ (by simp)) _ (ubi _ (fo (by omega))),udt];simp
    obtain⟨r1,r2,r3,r4⟩:=wM (Q:=λh=>!lt ((p++(A++([x]++q))).getD m d) ((p++(A++([x]++q))).getD h d)) (m-a) a m (ue4 _) (by omega) (λu v hu huv hv h=>by
     rw[hQ v (by omega) hv] at h;rw[hQ u hu (by omega)];simp only[ucs] at h |-;have:=oW (d:=d) sA (i:=u-a) (j:=v-a) (by omega) (by omega);omega)
    generalize cp (λh=>!lt ((p++(A++([x]++q))).getD m d) ((p++(A++([x]++q))).getD h d)) (m-a) a m=r at r1 r2 r3 r4 |-;obtain⟨A1,A2,rfl,hA1⟩:∃ A1 A2,A=A1++A2/\A1.length=r-a:=⟨A.take (r-a),A.drop (r-a),by simp,by simp; omega⟩;have hA':A1.length+A2.length=m-a:=by simpa using hA
    have f1:∀ y∈A1,key y<=key x:=λy hy=>by
     obtain⟨j,hj,rfl⟩:=oJ (d:=d) hy;have:=r3 (a+j) (by omega) (by omega);rw[hQ (a+j) (by omega) (by omega)] at this;simp only[ucs,uaw] at this
     rwa [show(A1++A2).getD j d=A1.getD j d by simp[uah,uaj hj]] at this
    have f2:∀ y∈A2,key x<key y:=λy hy=>by
     obtain⟨j,hj,rfl⟩:=oJ (d:=d) hy;have:=r4 (r+j) (by omega) (by omega);rw[hQ (r+j) (by omega) (by omega)] at this;simp only[uau] at this;rw[show(A1++A2).getD (r+j-a) d=A2.getD j d by
      simp only[uah];rw[uae (by omega),show r+j-a-A1.length=j by omega]] at this
     omega
    have hdn:=Pu (d:=d) (x:=x) A2.length A2 (p++A1) q rfl;have e0:p++(A1++A2++([x]++q))=(p++A1)++(A2++(x::q)):=by simp
    have e1:m=(p++A1).length+A2.length:=by simp; omega
    rw[e0,show m-r=A2.length by omega];rw[<- e1] at hdn;rw[hdn];have pA:=ubn.1 sA;have hS:A1++(x::A2)=cM lt ((A1++A2)++[x]):=by
     refine mQ hl (ubn.2 ⟨pA.1,ub8.2 ⟨λy hy=>uep (f2 y hy),pA.2.1⟩,λy hy z hz=>?_⟩) ?_
     ·rcases uee.1 hz with rfl|hz
      ·exact f1 y hy
      ·exact pA.2.2 y hy z hz
     ·have e1:bh key (A1++(A2++[x])) (A1++([x]++A2)):=(bh.refl A1).app (bh.swap λu hu y hy=>by simp at hy; subst hy; have:=f2 u hu; omega);simpa using e1
    rw[<- hS];simp
  ·
   obtain⟨A1,A2,B1,B2,rfl,rfl,e1,e2,f1,f2⟩:=VK (d:=d) (q:=q) hp hA hB h1 h2 hl sA sB;simp only;generalize zem lt d a m b (p++(A1++A2++(B1++B2++q)))=st at e1 e2 |-;simp only[ub4] at hA hB;have hen:(a+b)/2+m-st=m+B1.length:=by omega
   rw[hen];have hR:cT d m st (m+B1.length) (p++(A1++A2++(B1++B2++q)))=p++(A1++B1++(A2++B2++q)):=by
    unfold cT;split
    ·rename_i hc;have:=UA (d:=d) (a:=st) (m:=m) (b:=m+B1.length) (x:=A2) (y:=B1) (p:=p++A1) (q:=B2++q) (by omega) (by omega) (by simp; omega) (by omega) rfl;simpa using this
    ·rename_i hc;by_cases hb1:B1=[]
     ·subst hb1; simp
     ·have:=ubx.2 hb1;have:A2=[]:=uay.1 (by omega);subst this; simp
   rw[hR];have l1:dd lt key (A1++B1):=hl.sub λz hz=>by simp at hz |-; rcases hz with h|h<;>simp[h]
   have l2:dd lt key (A2++B2):=hl.sub λz hz=>by simp at hz |-; rcases hz with h|h<;>simp[h]
   have pA:=ubn.1 sA;have pB:=ubn.1 sB;have hmid:(a+b)/2=a+(A1.length+B1.length):=by omega
   have hL:(if a<st/\st<(a+b)/2 then bA lt a ((a+b)/2) (p++(A1++B1++(A2++B2++q))) else p++(A1++B1++(A2++B2++q)))=p++(cM lt (A1++B1)++(A2++B2++q)):=by
    split
    ·exact rE hp (by simp; omega)
    ·rename_i hc;have:cM lt (A1++B1)=A1++B1:=by
      refine Vn l1 ?_;by_cases ha1:A1=[]
      ·subst ha1; simpa[bY] using pB.1
      ·have:=ubx.2 ha1;have:B1=[]:=uay.1 (by omega);subst this;simpa[bY] using pA.1
     rw[this]
   rw[hL];have hRt:(if (a+b)/2<m+B1.length/\m+B1.length<b then bA lt ((a+b)/2) b (p++(cM lt (A1++B1)++(A2++B2++q))) else p++(cM lt (A1++B1)++(A2++B2++q)))=p++(cM lt (A1++B1)++(cM lt (A2++B2)++q)):=by
    split
    ·have:=rE (lt:=lt) (a:=(a+b)/2) (b:=b) (p:=p++cM lt (A1++B1)) (s:=A2++B2) (q:=q) (by simp[mj]; omega) (by simp[mj]; omega);simpa using this
    ·rename_i hc;have:cM lt (A2++B2)=A2++B2:=by
      refine Vn l2 ?_;by_cases ha1:A2=[]
      ·subst ha1; simpa[bY] using pB.2.1
      ·have:=ubx.2 ha1;have:B2=[]:=uay.1 (by omega);subst this;simpa[bY] using pA.2.1
     rw[this]
   rw[hRt,<- zae hl sA sB f1 f2];simp
end
section
variable {α:Type} {key:α->Int}
def Vc {lt:α->α->Bool} {a a' b':Nat} {l:List α} (h1:b'<=a) (h2:a<=l.length):bf a' b' (bA lt a b l)=bf a' b' l:=by
 unfold bf bA;rw[List.take_append_of_le_length (by simp; omega),ud4,udl h1]
def Vd {a:Nat} {l:List α}:(bf a b l).length=min b l.length-a:=by simp[bf]
def Ve {lt:α->α->Bool} {a:Nat} {l:List α} (h1:a<=b) (h2:b<=l.length):bf a b (bA lt a b l)=cM lt (bf a b l):=by
 unfold bA;exact rZ (by simp; omega) (by rw[mj]; simp; omega)
def Pw {lt:α->α->Bool} {a:Nat} {l:List α} (h1:a<=b) (h2:b<=l.length) (h3:b<=c):(bA lt a b l).drop c=l.drop c:=by
 unfold bA;rw[<- ucp,List.drop_append,ua1 (by simp[mj]; omega)];simp[mj];congr 1;omega
def DB {a:Nat} {l s:List α} (h:l.drop c=s.drop c) (hc:c<=a):bf a b l=bf a b s:=by
 unfold bf;rw[List.drop_take,List.drop_take];have:∀ t:List α,t.drop a=(t.drop c).drop (a-c):=λt=>by rw[List.drop_drop]; congr 1; omega
 rw[this l,this s,h]
def wt (key:α->Int) (w:Nat) (l:List α):Prop:=∀ k,bY key (bf (k*w) (k*w+w) l)
def dV (lt:α->α->Bool) (w n:Nat):Nat->Nat->List α->Nat×List α
 |0,a,l=>(a,l)
 |f+1,a,l=>if a+w<=n then dV lt w n f (a+w) (bA lt a (a+w) l) else (a,l)
structure BlkW (key:α->Int) (w n:Nat) (l:List α) (r:Nat×List α):Prop where
 mul:∃ c,r.1=c*w
 le:r.1<=n
 lt:n<r.1+w
 len:r.2.length=n
 same:bh key l r.2
 drop:r.2.drop r.1=l.drop r.1
 done:∀ k,k*w+w<=r.1->bY key (bf (k*w) (k*w+w) r.2)
def wK {lt:α->α->Bool} {w:Nat} (hw:0<w):(f a:Nat)->(l:List α)->n<f+a->a<=n->l.length=n->(∃ c,a=c*w)->dd lt key l->(∀ k,k*w+w<=a->bY key (bf (k*w) (k*w+w) l)) ->
  BlkW key w n l (dV lt w n f a l)
 |0,a,l,h,ha,_,_,_,_=>by omega
 |f+1,a,l,h,ha,hn,⟨c,hc⟩,hl,hd=>by
  simp only[dV];split
  ·rename_i hle;have hsame:=Ka (key:=key) (lt:=lt) (a:=a) (b:=a+w) (by omega) (by omega) hl;have hseg:bY key (bf a (a+w) (bA lt a (a+w) l)):=by
    rw[Ve (by omega) (by omega)];refine(nC (hl.sub λz hz=>?_)).1;exact ubo (ubp hz)
   have r:=wK hw f (a+w) (bA lt a (a+w) l) (by omega) hle (by rw[rF (by omega) (by omega)]; exact hn) ⟨c+1,by rw[hc,ues]⟩ (hl.sub λz hz=>hsame.mem.1 hz) (λk hk=>by
    rcases ucr k c with h|h|h
    ·have h1:(k+1)*w<=c*w:=ubc _ h;rw[ues] at h1;rw[Vc (by omega) (by omega)];exact hd k (by omega)
    ·subst h;rw[<- hc];exact hseg
    ·have h1:(c+1)*w<=k*w:=ubc _ h;rw[ues] at h1;omega)
   refine⟨r.mul,r.le,r.lt,r.len,hsame.trans r.same,?_,r.done⟩;rw[r.drop];obtain⟨c',hc'⟩:=r.mul;have:a+w<=(dV lt w n f (a+w) (bA lt a (a+w) l)).1:=by
    have:∀ (f a:Nat) (l:List α),a<=(dV lt w n f a l).1:=by
     intro f
     induction f with
     |zero=>intro a l; exact ue4 _
     |succ f ih=>
      intro a l;simp only[dV];split
      ·exact uek (by omega) (ih _ _)
      ·exact ue4 _
    exact this _ _ _
   exact Pw (by omega) (by omega) this
  ·exact⟨⟨c,hc⟩,ha,by omega,hn,bh.refl _,rfl,λk hk=>hd k hk⟩
def BlkW.last {lt:α->α->Bool} {w:Nat} {l:List α} {r:Nat×List α} (h:BlkW key w n l r) (hl:dd lt key l):wt key w (bA lt r.1 n r.2)/\bh key l (bA lt r.1 n r.2)/\(bA lt r.1 n r.2).length=n:=by
 have hlen:=h.len;have hl2:=hl.sub λz hz=>h.same.mem.1 hz;refine⟨λk=>?_,h.same.trans (Ka h.le (by omega) hl2),by rw[rF h.le (by omega)]; exact hlen⟩;obtain⟨c,hc⟩:=h.mul;have hle:=h.le;have hlt:=h.lt;rcases ucr k c with hk|hk|hk
 ·have h1:(k+1)*w<=c*w:=ubc _ hk;rw[ues] at h1;rw[Vc (by omega) (by omega)];exact h.done k (by omega)
 ·subst hk;rw[<- hc];have:bf r.1 (r.1+w) (bA lt r.1 n r.2)=bf r.1 n (bA lt r.1 n r.2):=by
   have e:=rF (lt:=lt) h.le (Nat.le_of_eq hlen.symm);unfold bf;rw[ua2 (by omega),ua2 (by omega)]
  rw[this,Ve h.le (by omega)];exact(nC (hl2.sub λz hz=>ubo (ubp hz))).1
 ·have h1:(c+1)*w<=k*w:=ubc _ hk;rw[ues] at h1;have:bf (k*w) (k*w+w) (bA lt r.1 n r.2)=[]:=by
   have e:=rF (lt:=lt) h.le (Nat.le_of_eq hlen.symm);apply uab;rw[Vd];omega
  rw[this];exact List.Pairwise.nil
def kU (lt:α->α->Bool) (w n:Nat) (l:List α):List α:=
 let r:=dV lt (2*w) n (n+1) 0 l
 if r.1+w<n then bA lt r.1 n r.2 else r.2
def TW {lt:α->α->Bool} {w:Nat} {l:List α} (hw:0<w) (hn:l.length=n) (hl:dd lt key l) (hb:wt key w l) :
  wt key (2*w) (kU lt w n l)/\bh key l (kU lt w n l)/\(kU lt w n l).length=n:=by
 have r:=wK (w:=2*w) (by omega) (n+1) 0 l (by omega) (by omega) hn ⟨0,by simp⟩ hl (λk hk=>by omega);unfold kU;generalize dV lt (2*w) n (n+1) 0 l=r0 at r |-;simp only;split
 ·exact r.last hl
 ·rename_i hc;refine⟨λk=>?_,r.same,r.len⟩;obtain⟨c,hcc⟩:=r.mul;have hlen:=r.len;rcases ucr k c with hk|hk|hk
  ·have h1:(k+1)*(2*w)<=c*(2*w):=ubc _ hk;rw[ues] at h1;exact r.done k (by omega)
  ·subst hk;have h1:k*(2*w)=(2*k)*w:=by rw[uer 2 k,uej]
   have h2:bf (k*(2*w)) (k*(2*w)+2*w) r0.2=bf ((2*k)*w) ((2*k)*w+w) r0.2:=by
    rw[<- h1];unfold bf;rw[ua2 (by omega),ua2 (by omega)]
   rw[h2,DB r.drop (by omega)];exact hb (2*k)
  ·have h1:(c+1)*(2*w)<=k*(2*w):=ubc _ hk;rw[ues] at h1;have:bf (k*(2*w)) (k*(2*w)+2*w) r0.2=[]:=by
    apply uab;rw[Vd];omega
   rw[this];exact List.Pairwise.nil
def eK (lt:α->α->Bool) (n:Nat):Nat->Nat->List α->List α
 |0,_,l=>l
 |f+1,w,l=>if w<n then eK lt n f (2*w) (kU lt w n l) else l
def TX {lt:α->α->Bool}:(f w:Nat)->(l:List α)->0<w->n<=f+w->l.length=n->dd lt key l->wt key w l->eK lt n f w l=cM lt l
 |0,w,l,hw,hf,hn,hl,hb=>by
  simp only[eK];refine mQ hl ?_ (bh.refl l);have:=hb 0;unfold bf at this;simpa[ua2 (show l.length<=w by omega)] using this
 |f+1,w,l,hw,hf,hn,hl,hb=>by
  simp only[eK];split
  ·obtain⟨h1,h2,h3⟩:=TW hw hn hl hb;rw[TX f (2*w) _ (by omega) (by omega) h3 (hl.sub λz hz=>h2.mem.1 hz) h1];obtain⟨k1,k2⟩:=nC (hl.sub λz hz=>h2.mem.1 hz);exact mQ hl k1 (h2.trans k2)
  ·refine mQ hl ?_ (bh.refl l);have:=hb 0;unfold bf at this;simpa[ua2 (show l.length<=w by omega)] using this
def KV (lt:α->α->Bool) (l:List α):List α:=
 let r:=dV lt 20 l.length (l.length+1) 0 l
 eK lt l.length l.length 20 (bA lt r.1 l.length r.2)
def zap {lt:α->α->Bool} {l:List α} (hl:dd lt key l):KV lt l=cM lt l:=by
 have r:=wK (w:=20) (by omega) (l.length+1) 0 l (by omega) (by omega) rfl ⟨0,by simp⟩ hl (λk hk=>by omega);unfold KV;obtain⟨h1,h2,h3⟩:=r.last hl;rw[TX _ 20 _ (by omega) (by omega) h3 (hl.sub λz hz=>h2.mem.1 hz) h1];obtain⟨k1,k2⟩:=nC (hl.sub λz hz=>h2.mem.1 hz);exact mQ hl k1 (h2.trans k2)
end
def Tr.jn (l:Nat):Tr->Tr
 |.leaf (.jump i) s=>if i=l then .leaf .normal s else .need False (.leaf .ret s)
 |.leaf .normal s=>.need False (.leaf .ret s)
 |.leaf e s=>.leaf e s
 |.br b x y=>.br b (x.jn l) (y.jn l)
 |.need p x=>.need p (x.jn l)
 |.two p x y=>.two p (x.jn l) (y.jn l)
def wn {l:Nat} {Q:XE->St->Prop}:{t:Tr}->(t.jn l).sat Q->t.sat λe s=>match e with
  |.jump i=>i=l/\Q .normal s
  |.normal=>False
  |e=>Q e s
 |.leaf e s,hq=>by
  cases e with
  |normal=>exact hq.1
  |exit i=>exact hq
  |ret=>exact hq
  |panic p=>exact hq
  |val v=>exact hq
  |jump i=>
   simp only[Tr.jn] at hq;split at hq
   ·rename_i h;exact⟨h,hq⟩
   ·exact hq.1.elim
 |.br b x y,hq=>⟨λhb=>wn (hq.1 hb),λhb=>wn (hq.2 hb)⟩
 |.need p x,hq=>⟨hq.1,wn hq.2⟩
 |.two p x y,hq=>⟨λhb=>wn (hq.1 hb),wn hq.2⟩
def WR (P:Program) (E:Env) (l:Nat) (p:Pt) (Q:p.Out->Prop) (e:Exit) (a:Act) (w:World):Prop:=
 ∃ r,Q r/\match r with
  |.next m=>e = .goto l/\I P E (p.M.tpl p.n m) a w
  |.out y=>e = .exit p.id/\I P E (p.E.tpl p.n y) a w
  |.back z=>e = .ret/\I P E (p.R.tpl p.n z) a w
  |.pan v=>e = .panic [{ v:=v.val,recovered:=false }]/\∃ s,s.n=p.n/\I P E s a w
def gi (P:Program) (l:Nat) (c:Code) (L:LS) (p:Pt) (f:L.X->Fr p.Out):Prop:=
 ∀ (E:Env) (a:Act) (w:World) (x:L.X) (Q:p.Out->Prop),I P E (L.tpl p.n x) a w->(f x).satP Q->c.wp P (WR P E l p Q) a w
def US (P:Program) (C:Cx) (bs:Nat) (Λ:Nat->St->Option Tr) (l:Nat) (c:Code) (L:LS) (p:Pt) (x:L.X):Option (Fr p.Out):=
 match cr P C bs Λ c 0 (L.tpl p.n x) with
 |some t=>p.lp.rdOf C.Γ (t.jn l)
 |none=>none
def lr (P:Program) (E:Env) (c:Code) (run:St->Option Tr):Prop:=
 ∀ s t,run s=some t->∀ Q:XE->St->Prop,t.sat Q->∀ (a:Act) (w:World),I P E s a w->c.wp P (eq P E Q) a w
def sq (r1 r2:St->Option Tr) (s:St):Option Tr:=
 match r1 s with
 |some t=>t.bind r2
 |none=>none
def KC (P:Program) (run:St->Option Tr) (fn:Func) (ps:List PT) (rs:List Ty) (xs:ag ps):Option (Fr (aa rs)):=
 if (fn.name == "runtime.NumGoroutine")=false/\ps.length<=fn.ntmps then match run (sj fn.ntmps (eI ps xs)) with
  |some t=>ib P fn.results.toList rs t
  |none=>none
 else none
section
variable {P:Program} {E:Env}
def gi.of_run {C:Cx} (hC:CxOK P C) {bs l:Nat} {Λ:Nat->St->Option Tr} {c:Code} {L:LS} {p:Pt} (hM:p.M.low=true) (hE:p.E.low=true) (hR:p.R.low=true) (hΛ:∀ E,bP P E Λ c 0) {f:L.X->Fr p.Out}
  (hr:∀ x,US P C bs Λ l c L p x=some (f x)):gi P l c L p f:=by
 intro E a w x Q hi hq;have hrx:=hr x;unfold US at hrx;split at hrx<;>try trivial
 rename_i t ht;have hsat:=wn (p.lp.rd_sat hrx hq);refine wp_mono (fR hC c 0 (hΛ E) ht hsat hi) ?_;rintro e a' w' ⟨xe,s',rfl,his,hqs⟩;cases xe with
 |normal=>exact hqs.elim
 |exit i=>
  obtain⟨rfl,hn',y,n',hy,hn,hqy⟩:=hqs;have:=jG hC.ct hE his hy hn;rw[hn'] at this;exact⟨.out y,hqy,rfl,this⟩
 |ret=>
  obtain⟨hn',y,n',hy,hn,hqy⟩:=hqs;have:=jG hC.ct hR his hy hn;rw[hn'] at this;exact⟨.back y,hqy,rfl,this⟩
 |panic v=>exact⟨.pan v,hqs.2,rfl,s',hqs.1,his⟩
 |val _=>exact hqs.elim
 |jump _=>
  obtain⟨rfl,hn',y,n',hy,hn,hqy⟩:=hqs;have:=jG hC.ct hM his hy hn;rw[hn'] at this;exact⟨.next y,hqy,rfl,this⟩
def gi.scope {c rest:Code} {L N Eo R:LS} {id l:Nat} {f:L.X->Fr (Rd L.X Eo.X R.X)} (hf:findLabel c l=some rest) (h1:gi P l c L ⟨n,id,L,Eo,R⟩ f) (h2:gi P l rest L ⟨n,id,L,Eo,R⟩ f)
  {F:L.X->Fr (Rd N.X Eo.X R.X)} {inv:L.X->Prop} {μ:L.X->Nat}
  (hlaw:∀ x,inv x->∀ Q:Rd N.X Eo.X R.X->Prop,(F x).satP Q->(f x).satP λ
   |.next x'=>inv x'/\μ x'<μ x/\(F x').satP Q
   |.out y=>Q (.out y)
   |.back z=>Q (.back z)
   |.pan p=>Q (.pan p)) (hinv:∀ x Q,(F x).satP Q->inv x):ae P (.scope c) L ⟨n,id,N,Eo,R⟩ F:=by
 intro E a w x Q hi hq;have key:∀ x a w (c':Code) (J:Nat->Act->World->Prop),(∀ a w (x':L.X),inv x'->μ x'<μ x->I P E (L.tpl n x') a w->(F x').satP Q->∃ m,m<μ x/\J m a w)->gi P l c' L ⟨n,id,L,Eo,R⟩ f->inv x->I P E (L.tpl n x) a w->(F x).satP Q ->
   c'.wp P (Exit.jump l (λa w=>∃ m,m<μ x/\J m a w) (zI P E ⟨n,id,N,Eo,R⟩ Q)) a w:=by
  intro x a w c' J hJ h hx hix hFx;refine wp_mono (h E a w x _ hix (hlaw x hx Q hFx)) ?_;rintro e a' w' ⟨r,hr,hm⟩;cases r with
  |next x'=>
   obtain⟨rfl,hi'⟩:=hm;exact⟨rfl,hJ a' w' x' hr.1 hr.2.1 hi' hr.2.2⟩
  |out y=>
   obtain⟨rfl,hi'⟩:=hm;exact⟨.out y,hr,rfl,hi'⟩
  |back z=>
   obtain⟨rfl,hi'⟩:=hm;exact⟨.back z,hr,rfl,hi'⟩
  |pan v=>
   obtain⟨rfl,hi'⟩:=hm;exact⟨.pan v,hr,rfl,hi'⟩
 have hmono:∀ {J J':Act->World->Prop} {c':Code} {a:Act} {w:World},(∀ a w,J a w->J' a w)->c'.wp P (Exit.jump l J (zI P E ⟨n,id,N,Eo,R⟩ Q)) a w->c'.wp P (Exit.jump l J' (zI P E ⟨n,id,N,Eo,R⟩ Q)) a w:=by
  intro J J' c' a w hJ h;refine wp_mono h λe a' w' he=>?_;cases e with
  |goto l'=>exact⟨he.1,hJ _ _ he.2⟩
  |_=>exact he
 refine wp_scope_jumps l (λa w=>∃ m,∃ x,inv x/\μ x=m/\I P E (L.tpl n x) a w/\(F x).satP Q) (λa w=>u9 λm=>∃ x,inv x/\μ x=m/\I P E (L.tpl n x) a w/\(F x).satP Q) hf ?_ ?_
 ·exact hmono (λa w ⟨m,_,h⟩=>⟨m,h⟩) (key x a w c (λm a w=>∃ x,inv x/\μ x=m/\I P E (L.tpl n x) a w/\(F x).satP Q) (λa w x' q1 q2 q3 q4=>⟨μ x',q2,x',q1,rfl,q3,q4⟩) h1 (hinv x Q hq) hi hq)
 ·rintro a w ⟨m,hm⟩;obtain⟨⟨x',q1,q2,q3,q4⟩,_⟩:=uA (p:=λm=>∃ x,inv x/\μ x=m/\I P E (L.tpl n x) a w/\(F x).satP Q) ⟨m,hm⟩;refine hmono (λa1 w1 ⟨m1,r1,r2⟩=>⟨⟨m1,r2⟩,?_⟩) (key x' a w rest (λm a w=>∃ x,inv x/\μ x=m/\I P E (L.tpl n x) a w/\(F x).satP Q) (λa w x' q1 q2 q3 q4=>⟨μ x',q2,x',q1,rfl,q3,q4⟩) h2 q1 q3 q4);rw[<- q2];exact ucb ((uA ⟨m1,r2⟩).2 m1 r2) r1
def ae.run {C:Cx} (hC:CxOK P C) {c:Code} {L:LS} {p:Pt} {F:L.X->Fr p.Out} (hL:L.low=true) (h:ae P c L p F):lr P E c (p.han C.Γ L F):=by
 intro s t hs Q hq a w hi;unfold Pt.han at hs;split at hs<;>try trivial
 rename_i hsn;split at hs<;>try trivial
 rename_i x n hx;cases hs;obtain⟨hq1,hq2⟩:=jm _ hq;have hi':=jG hC.ct hL hi hx hq1;rw[hsn] at hi';refine wp_mono (h E a w x _ hi' (p.toTr_sat hq2)) ?_;rintro e a' w' ⟨r,hr,hm⟩;cases r with
 |next m=>
  obtain⟨rfl,hi'⟩:=hm;exact⟨.normal,_,rfl,hi',hr⟩
 |out y=>
  obtain⟨rfl,hi'⟩:=hm;exact⟨.exit p.id,_,rfl,hi',hr⟩
 |back z=>
  obtain⟨rfl,hi'⟩:=hm;exact⟨.ret,_,rfl,hi',hr⟩
 |pan v=>
  obtain⟨rfl,s',hn',hi'⟩:=hm;have hdead:I P E ⟨p.n,λ_=>.dead,λ_=>none,λ_=>.dead⟩ a' w':=by
   have:=jG hC.ct (L:=⟨[],[]⟩) rfl hi' rfl trivial;rw[hn'] at this;obtain⟨F',γ',h⟩:=this;exact⟨F',γ',h.n,h.df,h.step,h.mem,λt=>uT,λt g want v ht=>(nomatch ht),λt=>uT⟩
  exact⟨.panic v,_,rfl,hdead,hr⟩
def tI {C:Cx} (hC:CxOK P C) {bs:Nat} {Λ:Nat->St->Option Tr} {c:Code} (hΛ:bP P E Λ c 0):lr P E c (cr P C bs Λ c 0):=
 λ_ _ h _ hq _ _ hi=>fR hC c 0 hΛ h hq hi
def z8 {x y:Code} {r1 r2:St->Option Tr} (h1:lr P E x r1) (h2:lr P E y r2):lr P E (.seq x y) (sq r1 r2):=by
 intro s t h Q hq a w hi;unfold sq at h;split at h<;>try trivial
 rename_i t1 ht1;refine wp_seq (wp_mono (h1 s t1 ht1 _ (sx h hq) a w hi) ?_);rintro e a' w' ⟨xe,s',rfl,hi',hq'⟩;cases xe with
 |normal=>
  obtain⟨u,hu,hqu⟩:=hq';exact h2 _ u hu Q hqu a' w' hi'
 |exit i=>exact⟨.exit i,s',rfl,hi',hq'⟩
 |ret=>exact⟨.ret,s',rfl,hi',hq'⟩
 |panic p=>exact⟨.panic p,s',rfl,hi',hq'⟩
 |val v=>exact⟨.val v,s',rfl,hi',hq'⟩
 |jump l=>exact⟨.jump l,s',rfl,hi',hq'⟩
def QM {fn:Func} {c:Code} {run:St->Option Tr} {ps:List PT} {rs:List Ty} {fr:ag ps->Fr (aa rs)} (x0:ag ps)
  (hf:P.funcs[f]? = some fn) (hb:fn.body=some c) (hrn:∀ E,lr P E c run) (hrun:∀ xs,KC P run fn ps rs xs=some (fr xs)):af P f ⟨ps,rs,λxs=>(fr xs).get,λxs=>[(fr xs).ok]⟩:=by
 have h0:=hrun x0;unfold KC at h0;split at h0<;>try trivial
 rename_i hc;obtain⟨hname,hn⟩:=hc;refine⟨enters hf hb hname,λw F xs vs hbd hr hok=>ue8 hf hb ?_⟩;have hr':=hrun xs;unfold KC at hr';rw[if_pos ⟨hname,hn⟩] at hr';split at hr'<;>try trivial
 rename_i t ht;have hlen:vs.length=ps.length:=by
  have:∀ {ps:List PT} {xs:ag ps} {vs:List Value},cJ P w F ps xs vs->vs.length=ps.length:=by
   intro ps
   induction ps with
   |nil=>intro xs vs h; cases h; rfl
   |cons p r ih=>
    intro xs vs h;obtain⟨v,vs',rfl,_,h3⟩:=h;simp[ih h3]
  exact this hr
 have hstart:=vV (D:=[]) (n:=fn.ntmps) hbd (λR=>mO hr) (by omega);have hwp:=hrn _ _ t ht _ (qX hr' hok) _ _ hstart;have hsz:(vs.toArray).size=vs.length:=by simp
 refine wp_mono hwp ?_;rintro e a' w' ⟨xe,s0,rfl,⟨F0,γ',hi0⟩,hxe,s,hs0,n,hend,hnn⟩;obtain⟨F',hi⟩:∃ F',InvG P _ s a' w' [] F' γ':=by
  rcases hs0 with rfl|rfl
  ·exact⟨F0,hi0⟩
  ·exact Cd _ hi0
 have hfin:a'.defers=[]/\∃ v,(results fn a'.tmps).run P w' = .ok v w'/\fJ w F rs (fr xs).get (.returned v) w':=by
  unfold dh at hend;split at hend<;>try trivial
  rename_i avs n' hres;split at hend<;>try trivial
  rename_i axs u hrs;split at hend<;>try trivial
  rename_i y hdec;injection hend with hend
  obtain⟨hn',hy⟩:=uL hend hnn;subst hy;obtain⟨us,hran,hreps⟩:=nz hi hres hn';obtain⟨F'',hs,hm',_,hxs⟩:=iy hi.mem (dv hi) (cX.of λ_ _ h=>h) hrs hreps;obtain⟨γ0,h0⟩:=hi.step;have hst:=h0.trans hs;refine⟨hi.df,_,pz hran,_,F'',rfl,⟨hst.os,hst.tape,hst.output,hst.size,hst.old⟩,hst.hF,λb hb=>⟨hst.new b hb,hst.bd b hb⟩,vH (lC hdec hxs)⟩
 rcases hxe with rfl|rfl
 ·exact hfin
 ·exact hfin
end
def qub (pc:Pc):Ct:=⟨pc.ps,pc.rs,pc.f,λx=>(pc.bad x=false)::pc.ok x⟩
def gP (C:Cx) (f:FuncId):Option Ct:=match C.Γ f with
 |some ct=>some ct
 |none=>(C.Pi f).map qub
structure Pan where
 bad:Bool
 pv:PV
 good:List Prop
def jO (C:Cx) (o:Oper) (sl:Nat->AV):Option Pan:=
 match o.guard,o.op,o.op.operands.toList.map (gC sl) with
 |none,.call ⟨.value _,_,_⟩,.c (.fn f caps)::args=>match C.Pi f with
  |some pc=>match dK (λ_=>none) (args++caps.map .c) with
   |some (xs,[])=>match jf C.Γ pc.ps xs with
    |some (x,n)=>some ⟨pc.bad x,pc.pv x,n++pc.ok x⟩
    |none=>none
   |_=>none
  |none=>none
 |_,_,_=>none
def kX (P:Program) (C:Cx) (b:Nat) (ops:List Oper):List Oper->St->Option (List (Ef×Option Pan)×St)
 |[],s=>some ([],s)
 |o::r,s=>match dY P (gP C) b ops o s.sl s.mem with
  |some e=>match kX P C b ops r (e.go s) with
   |some (es,s')=>some ((e,jO C o s.sl)::es,s')
   |none=>none
  |none=>none
def IG (pv:PV):Ef×Option Pan->List Prop
 |(e,none)=>e.need
 |(e,some p)=>[p.bad=false->av e.need,p.bad=true->av p.good/\p.pv=pv]
def Lu (d:St) (all:List (Ef×Option Pan)) (good:Tr):List Pan->Tr
 |[]=>good
 |p::r=>.br p.bad (needL (all.flatMap (IG p.pv)) (.leaf (.panic p.pv) d)) (Lu d all good r)
def E0 (ops:List Oper) (es:List (Ef×Option Pan)):Bool:=
 let ms:=fW [] ops
 (List.range es.length).all λk=>match es[k]?,ms[k]? with
  |some (f,_),some mask=>f.wr.isEmpty || (List.range es.length).all λi=>match es[i]? with
   |some (_,some _)=>mask.testBit i
   |_=>true
  |_,_=>false
def tL (ops:List Oper) (es:List (Ef×Option Pan)):List Tmp:=
 let ms:=fW [] ops
 (List.range es.length).filterMap λk=>match es[k]?,ms[k]? with
  |some (f,_),some mask=>if (List.range es.length).all (λi=>match es[i]? with
   |some (_,some _)=>mask.testBit i
   |_=>true) then none else f.dst
  |_,_=>none
def yf (D:List Tmp) (sl:Nat->AV) (t:Tmp):AV:=if D.contains t then .dead else iF sl t
def Kn (P:Program) (C:Cx) (b:Nat) (ops:List Oper) (s:St):Option Tr:=
 if pM s.n 0 [] ops then match kX P C b ops ops s with
  |some (es,s')=>if r9 ops (es.map (·.1))=true/\E0 ops es=true then
    some (Lu ⟨s.n,yf (tL ops es) s.sl,s.mem,s.gs⟩ es (JH (es.map (·.1)) (.leaf .normal (fk s'))) (es.filterMap (·.2)))
   else none
  |none=>none
 else none
section
variable {P:Program} {w w':World} {E:Env} {F F':Nat->Prop} {b:Nat} {γ γ' γ0:Nat->Value} {ops:Array Oper} {es:List (Ef×Option Pan)} {C:Cx}
def qme (hC:CxOK P C):∀ f ct,gP C f=some ct->af P f ct:=by
 intro f ct h;unfold gP at h;split at h
 ·rename_i ct' hct;cases h;exact hC.ct.1 f _ hct
 ·cases hp:C.Pi f with
  |none=>rw[hp] at h; cases h
  |some pc=>
   rw[hp] at h;cases h;obtain⟨h1,h2⟩:=hC.pc f pc hp;refine⟨h1,λw F xs vs hb hr hok=>?_⟩;obtain⟨hbad,hok⟩:pc.bad xs=false/\av (pc.ok xs):=je.1 hok;refine(h2 w F xs vs hb hr hok).mono λe w' h=>?_;rcases h with h|h
   ·exact h.2
   ·rw[hbad] at h;cases h.1
def qv6 {sl sl':Nat->AV} (h:∀ t∈wh o.op,sl' t=sl t):jO C o sl'=jO C o sl:=by
 unfold jO;rw[PM h]
def TV {sl:Nat->AV} (h:o.guard≠none):jO C o sl=none:=by
 unfold jO;split
 ·rename_i hg _ _;exact absurd hg h
 ·rfl
def qgh {Γ:Gm} {opl:List Oper} {sl:Nat->AV} {m:aT} {e:Ef} (he:dY P Γ b opl o sl m=some e) (hg:o.guard=none):e.rd=wh o.op:=by
 unfold dY at he;rw[hg] at he;simp only at he;split at he<;>try trivial
 cases he;rfl
def TU {Γ:Gm} {opl:List Oper} {e f:Ef} {s:St} (hf:dY P Γ b opl o s.sl s.mem=some f) (hd:∀ t,e.dst=some t->t ∉ f.rd):jO C o (e.go s).sl=jO C o s.sl:=by
 cases hg:o.guard with
 |some g=>rw[TV (by rw[hg]; simp),TV (by rw[hg]; simp)]
 |none=>
  refine qv6 λt ht=>?_;show e8 s.sl e.dst e.v t=s.sl t;rw[<- qgh hf hg] at ht;cases hx:e.dst with
  |none=>rfl
  |some x=>
   have hne:t≠x:=λhtx=>hd x hx (htx ▸ ht);exact if_neg hne
def sZ (P:Program) (C:Cx) (b:Nat) (ops:Array Oper) (es:List (Ef×Option Pan)) (s':St):List Nat->St->Prop
 |[],s=>s=s'
 |i::r,s=>∃ o e p,ops[i]? = some o/\es[i]? = some (e,p)/\dY P (gP C) b ops.toList o s.sl s.mem=some e/\jO C o s.sl=p/\sZ P C b ops es s' r (e.go s)
def UV {s':St}:(l:List Oper)->(k:Nat)->(s:St)->(fs:List (Ef×Option Pan))->kX P C b ops.toList l s=some (fs,s')->(∀ i o,l[i]? = some o->ops[k+i]? = some o) ->
  (∀ i e,fs[i]? = some e->es[k+i]? = some e)->sZ P C b ops es s' (List.range' k l.length) s
 |[],k,s,fs,h,_,_=>by
  simp only[kX,ucj,uec] at h;exact h.2
 |o::r,k,s,fs,h,ho,he=>by
  simp only[kX] at h;split at h<;>try trivial
  rename_i e heff;split at h<;>try trivial
  rename_i es' s2 hr;cases h;refine⟨o,e,_,by simpa using ho 0 o rfl,by simpa using he 0 _ rfl,heff,rfl,?_⟩;refine UV r (k+1) _ es' hr (λi o' hi=>?_) (λi e' hi=>?_)
  ·have:=ho (i+1) o' (by simpa using hi)
   rwa [show k+1+i=k+(i+1) by omega]
  ·have:=he (i+1) e' (by simpa using hi)
   rwa [show k+1+i=k+(i+1) by omega]
def UR {opl:List Oper}:(l:List Oper)->(s:St)->(fs:List (Ef×Option Pan))->(s':St)->kX P C b opl l s=some (fs,s')->s'.n=s.n
 |[],s,fs,s',h=>by
  simp only[kX,ucj,uec] at h;rw[h.2]
 |o::r,s,fs,s',h=>by
  simp only[kX] at h;split at h<;>try trivial
  split at h<;>try trivial
  rename_i es' s2 hr;cases h;exact(UR r _ es' _ hr).trans rfl
def UQ {opl:List Oper}:(l:List Oper)->(s:St)->(fs:List (Ef×Option Pan))->(s':St)->kX P C b opl l s=some (fs,s')->fs.length=l.length
 |[],s,fs,s',h=>by
  simp only[kX,ucj,uec] at h;rw[<- h.1];rfl
 |o::r,s,fs,s',h=>by
  simp only[kX] at h;split at h<;>try trivial
  split at h<;>try trivial
  rename_i es' s2 hr;cases h;simp[UQ r _ es' _ hr]
def QK {s':St}:(rem:List Nat)->(s:St)->sZ P C b ops es s' rem s->rem.Pairwise (· < ·)->j∈rem ->
  (∀ i∈rem,i<j->∀ e f,es[i]? = some e->es[j]? = some f->jI e.1 f.1=true) ->
  ∃ o f p,ops[j]? = some o/\es[j]? = some (f,p)/\dY P (gP C) b ops.toList o s.sl s.mem=some f/\jO C o s.sl=p/\sZ P C b ops es s' (rem.erase j) (f.go s)
 |[],_,_,_,hj,_=>by simp at hj
 |i::r,s,hr,hp,hj,hi=>by
  obtain⟨o,e,p,ho,he,heff,hpan,hr'⟩:=hr;by_cases hij:i=j
  ·subst hij;refine⟨o,e,p,ho,he,heff,hpan,?_⟩;rw[ubj];exact hr'
  ·have hjr:j∈r:=by
    rcases uee.1 hj with h|h
    ·exact absurd h.symm hij
    ·exact h
   have hlt:=(ub8.1 hp).1 j hjr;obtain⟨oj,f,pj,hoj,hfj,hf,hpj,hrr⟩:=QK r (e.go s) hr' (ub8.1 hp).2 hjr (λk hk hkj=>hi k (ubh _ hk) hkj);have hind:=hi i (by simp) hlt _ _ he hfj;have hsp:=Cn hind;have hfs:=P0 hind hf;refine⟨oj,f,pj,hoj,hfj,hfs,(TU hfs (λt ht=>(hsp.1 t ht).1)).symm.trans hpj,?_⟩;rw[List.erase_cons_tail (by simpa using hij)];refine⟨o,e,p,ho,he,P1 hind heff,(TU heff (λt ht=>hsp.2.1 t ht)).trans hpan,?_⟩;rw[<- QS hind];exact hrr
def qv7 (hC:CxOK P C) {st:St} {a:Act} {W:List Tmp} {p:Pan} (hi:InvG P E st a w W F γ) (h:jO C o st.sl=some p) (hb:p.bad=true) (hn:av p.good) (K:Act->World->Prop) (Q:Exit->Act->World->Prop)
  (hq:∀ w',I P E (fk st) a w'->Q (.panic [{ v:=p.pv.val,recovered:=false }]) a w'):o.guard=none/\o.wp P a w K Q:=by
 unfold jO at h;split at h<;>try trivial
 rename_i f0 cargs ts f caps args hg ho hvs;refine⟨hg,?_⟩;split at h<;>try trivial
 rename_i pc hpc;split at h<;>try trivial
 rename_i xs hrs;split at h<;>try trivial
 rename_i x n hdec;cases h;obtain⟨hn1,hn2⟩:=jd.1 hn;have hev:=oH hi.sl o.op.operands.toList;rw[hvs] at hev;have hops:o.op.operands.toList.map a.eval=a.eval f0::(cargs.map a.eval).toList:=by simp[ho,Op.operands,Call.operands]
 rw[hops] at hev;obtain⟨⟨_,hfv⟩,hargs⟩:=hev;obtain⟨cv,e1,e2,e3⟩:=hfv;have hcaps:=OA e2 e3;have hrun:(∀ args w,(callFunc f args).run P w = .ok (.enter f args) w)->(execOp a.eval o).run P w = .ok (.enter f (cargs.map a.eval++cv)) w:=λhen=>by
  unfold execOp;rw[ho];simp[resolve,e1,Deferred.ofValue,invoke,hen]
 have du:((cargs.map a.eval).toList++cv.toList).toArray=cargs.map a.eval++cv:=by simp
 have hall:(args++caps.map AV.c).all fX=true:=by
  have:∀ (l:List AV),(∃ xs u',dK (λ_=>none) l=some (xs,u'))->l.all fX=true:=by
   intro l
   induction l with
   |nil=>intros; rfl
   |cons y l ih=>
    rintro⟨xs,u',hx⟩;simp only[dK] at hx;split at hx<;>try trivial
    rename_i h1 h2;simp only[uef,uc9];refine⟨?_,ih ⟨_,_,h2⟩⟩;cases y<;>first|rfl|(simp[pD] at h1)
  exact this _ ⟨_,_,hrs⟩
 have hargs':bj P w F (ap st.mem γ) (args++caps.map AV.c) ((cargs.map a.eval).toList++cv.toList):=by
  refine Dz (rW hargs ?_) hcaps;rw[udj,uc9] at hall;exact hall.1
 obtain⟨F1,s1,m1,_,r1⟩:=iy hi.mem (dv hi) (cX.of λ_ _ h=>by cases h) hrs hargs';have hps:=mK hC.ct hdec hn1 r1;obtain⟨hen,hcalls⟩:=hC.pc f pc hpc;have hc:=hcalls w F1 x _ s1.bd hps hn2;unfold Oper.wp;rw[hrun hen];rw[du] at hc;have hb':pc.bad x=true:=hb;refine hc.mono λe w2 hp=>?_;rcases hp with ⟨hbad,_⟩|⟨hbad,rfl,hbel⟩
 ·rw[hb'] at hbad;cases hbad
 ·refine hq w2 ⟨F1,γ,?_⟩;obtain⟨s2,m2⟩:=Step.below m1 (nM hi) s1.bd hbel (λ_ h=>h) (λb hb=>⟨.inl hb,ub9 (s1.bd b hb) hbel.size⟩);have s3:=s1.trans s2;obtain⟨γ0,h0⟩:=hi.step;exact oV ⟨hi.n,hi.df,⟨γ0,h0.trans s3⟩,m2,λt=>(hi.sl t).mono s3.hF s3.hw s3.hR,hi.hg,λt=>s3.repA (hi.gh t)⟩
def qog {st:St} {a:Act} {D:List Tmp} {s0:St} (h:InvG P E (fk st) a w [] F γ) (hs:∀ t,t ∉ D->st.sl t=s0.sl t):InvG P E ⟨st.n,yf D s0.sl,st.mem,st.gs⟩ a w [] F γ:=by
 refine⟨h.n,h.df,h.step,h.mem,λt=>?_,λt g want v ht=>?_,h.gh⟩
 ·show dP P w F _ _ (if D.contains t then AV.dead else iF s0.sl t) _;split
  ·trivial
  ·rename_i hd;have hd':=λhm=>hd (by simpa using hm);have e:iF s0.sl t=iF st.sl t:=by
    unfold iF;rw[hs t hd']
   rw[e];exact h.sl t
 ·have ht':(if D.contains t then AV.dead else iF s0.sl t) = .maybe g want v:=ht;split at ht'
  ·cases ht'
  ·rename_i hd;have hd':=λhm=>hd (by simpa using hm);have e:iF s0.sl t=iF st.sl t:=by
    unfold iF;rw[hs t hd']
   rw[e] at ht';exact h.hg t g want v ht'
def zU (pv:PV) (x:Ef×Option Pan):Prop:=match x.2 with
 |none=>av x.1.need
 |some p=>(p.bad=false->av x.1.need)/\(p.bad=true->av p.good/\p.pv=pv)
def qmt {pv:PV} {x:Ef×Option Pan} (h:av (IG pv x)):zU pv x:=by
 obtain⟨e,p⟩:=x;cases p with
 |none=>exact h
 |some p=>exact⟨h.1,h.2⟩
def sY (P:Program) (E:Env) (C:Cx) (b:Nat) (ops:Array Oper) (es:List (Ef×Option Pan)) (D:List Tmp) (s0 s':St) (rem:List Nat) (a:Act) (w:World):Prop:=
 ∃ st W F γ,InvG P E st a w W F γ/\(∀ t,t∈W↔∃ k o,ops[k]? = some o/\k ∉ rem/\o.dst=some t)/\sZ P C b ops es s' rem st/\st.n=s'.n/\st.gs=s0.gs /\
  (∀ (k:Nat) e p,es[k]? = some (e,some p)->k ∉ rem->p.bad=false)/\((∃ k:Nat,∃ e p,k∈rem/\es[k]? = some (e,some p))->st.mem=s0.mem/\∀ t,t ∉ D->st.sl t=s0.sl t)
def qw7 (hC:CxOK P C) {D:List Tmp} {s0 s':St} {rem:List Nat} {a:Act} (hi:sY P E C b ops es D s0 s' rem a w) (hj:j∈rem) (hp:rem.Pairwise (· < ·))
  (hfront:∀ i∈rem,i<j->∀ e f,es[i]? = some e->es[j]? = some f->jI e.1 f.1=true) (hguard:∀ o j' want,ops[j]? = some o->o.guard=some (j',want)->j' ∉ rem) (hst:StatOK s'.n ops)
  {pv:PV} (hgood:∀ (i:Nat) x,es[i]? = some x->zU pv x) (hwr:∀ f p,es[j]? = some (f,p)->(f.wr ≠ [] \/ ∃ t,f.dst=some t/\t ∉ D)->∀ (k:Nat) e q,es[k]? = some (e,some q)->k ∉ rem) (hn0:s0.n=s'.n)
  (K:Act->World->Prop) (Q:Exit->Act->World->Prop) (hK:∀ a' w',sY P E C b ops es D s0 s' (rem.erase j) a' w'->K a' w')
  (hQ:(∃ k:Nat,∃ e p,es[k]? = some (e,some p)/\p.bad=true)->∀ a' w',I P E ⟨s0.n,yf D s0.sl,s0.mem,s0.gs⟩ a' w'->Q (.panic [{ v:=pv.val,recovered:=false }]) a' w'):wpOp P ops Q j K a w:=by
 obtain⟨st,W,F,γ,hinv,hW,hruns,hn,hgs,hdone,hmem⟩:=hi;obtain⟨o,f,p,ho,hf,heff,hpan,hr⟩:=QK rem st hruns hp hj hfront;have hnd:=yq hp;have hmemE:∀ k,k ∉ rem.erase j↔k=j\/k ∉ rem:=λk=>by
  rw[hnd.mem_erase_iff];constructor
  ·intro h;by_cases hk:k=j
   ·exact .inl hk
   ·exact .inr λh'=>h ⟨hk,h'⟩
  ·rintro(h|h) ⟨h1,h2⟩
   ·exact h1 h
   ·exact h h2
 unfold wpOp;rw[ho];simp only;have hg:=hgood j _ hf;by_cases hbad:∃ q,p=some q/\q.bad=true
 ·obtain⟨q,rfl,hq⟩:=hbad;obtain⟨hgq,hpv⟩:=hg.2 hq;have hm0:=hmem ⟨j,f,q,hj,hf⟩;have key:=qv7 hC (K:=K) (Q:=Q) hinv hpan hq hgq (λw' hiw=>by
   rw[hpv];refine hQ ⟨j,f,q,hf,hq⟩ a w' ?_;obtain⟨F1,γ1,hiw⟩:=hiw;rw[hn0,<- hn,<- hm0.1,<- hgs];exact⟨F1,γ1,qog hiw hm0.2⟩)
  have hw:Region.wanted o (yielded ops a.tmps)=true:=by simp[Region.wanted,key.1]
  rw[if_pos hw];exact .inl key.2
 ·have hneed:av f.need:=by
   cases p with
   |none=>exact hg
   |some q=>
    refine hg.1 ?_;cases hq:q.bad with
    |false=>rfl
    |true=>exact absurd ⟨q,rfl,hq⟩ hbad
  have key:=JQ (Γ:=⟨gP C,λ_=>none⟩) ⟨qme hC,λ_ _ h=>(nomatch h)⟩ hinv heff hneed (λx hx=>⟨by rw[hn]; exact hst.lt j o x ho hx,λhxW=>by
    obtain⟨k,ok,hok,hk,hd⟩:=(hW x).1 hxW;have:=hst.once j k o ok x ho hok hx hd;subst this;exact hk hj⟩)
   (λj' want g hg hd=>by
    have h1:=hguard o j' want ho hg;cases ho':ops[j']? with
    |none=>rw[ho'] at hd; cases hd
    |some o'=>
     rw[ho'] at hd;exact(hW g).2 ⟨j',o',ho',h1,hd⟩)
   K Q (λa' w' F' γ' hinv'=>hK a' w' ⟨f.go st,_,F',γ',hinv',λt=>?_,hr,hn,hgs,λk e q hk hkr=>?_,λhex=>?_⟩)
  ·split
   ·rename_i hw;rw[if_pos hw] at key;exact .inl key
   ·rename_i hw;rw[if_neg hw] at key;exact key
  ·rw[udo,hW];constructor
   ·rintro(h|⟨k,ok,h1,h2,h3⟩)
    ·exact⟨j,o,ho,(hmemE j).2 (.inl rfl),by simpa using h⟩
    ·exact⟨k,ok,h1,(hmemE k).2 (.inr h2),h3⟩
   ·rintro⟨k,ok,h1,h2,h3⟩;rcases(hmemE k).1 h2 with rfl|h
    ·rw[ho] at h1;cases h1;exact .inl (by simp[h3])
    ·exact .inr ⟨k,ok,h1,h,h3⟩
  ·rcases(hmemE k).1 hkr with rfl|h
   ·rw[hf] at hk;cases hk;cases hq:q.bad with
    |false=>rfl
    |true=>exact absurd ⟨q,rfl,hq⟩ hbad
   ·exact hdone k e q hk h
  ·obtain⟨k,e,q,hk,hke⟩:=hex;have hkr:=ua7 hk;have hm0:=hmem ⟨k,e,q,hkr,hke⟩;refine⟨?_,λt ht=>?_⟩
   ·show ax st.mem f.wr=s0.mem;have hnil:f.wr=[]:=by
     apply Classical.byContradiction;intro hne;exact hwr f p hf (.inl hne) k e q hke hkr
    rw[hnil];exact hm0.1
   ·show e8 st.sl f.dst f.v t=s0.sl t;rw[<- hm0.2 t ht];cases hx:f.dst with
    |none=>rfl
    |some x=>
     have hne:t≠x:=λhtx=>by
      subst htx;exact hwr f p hf (.inr ⟨t,hx,ht⟩) k e q hke hkr
     exact if_neg hne
def zde (h:E0 ops.toList es=true) {f:Ef} {p:Option Pan} (hj:es[j]? = some (f,p)) (hne:f.wr ≠ []) {k:Nat} {e:Ef} {q:Pan} (hk:es[k]? = some (e,some q)):((fW [] ops.toList).getD j 0).testBit k=true:=by
 unfold E0 at h;rw[uc5] at h;have hjl:=(uak.1 hj).1;have hkl:=(uak.1 hk).1;have h1:=h j (ud5.2 hjl);rw[hj] at h1;split at h1
 ·rename_i f' p' mask hf' hm;cases hf';rw[udp] at h1;rcases h1 with h1|h1
  ·exact absurd (by simpa using h1) hne
  ·rw[uc5] at h1;have h2:=h1 k (ud5.2 hkl);rw[hk] at h2;rw[uah,hm];exact h2
 ·cases h1
def qge {f:Ef} {p:Option Pan} {t:Tmp} (hj:es[j]? = some (f,p)) (hd:f.dst=some t) (ht:t ∉ tL ops.toList es) {mask:Nat} (hm:(fW [] ops.toList)[j]? = some mask) {k:Nat} {e:Ef} {q:Pan} (hk:es[k]? = some (e,some q)):mask.testBit k=true:=by
 apply Classical.byContradiction;intro hn;apply ht;have hjl:=(uak.1 hj).1;have hkl:=(uak.1 hk).1;refine ub7.2 ⟨j,ud5.2 hjl,?_⟩;rw[hj,hm];show(if _ then none else f.dst)=some t;rw[if_neg,hd];intro hall;rw[uc5] at hall;have:=hall k (ud5.2 hkl);rw[hk] at this;exact hn this
def Ut (hC:CxOK P C) {D:List Tmp} (hD:D=tL ops.toList es) {s0 s':St} (hst:StatOK s'.n ops) (hord:r9 ops.toList (es.map (·.1))=true) (hwro:E0 ops.toList es=true) {pv:PV} (hgood:∀ (i:Nat) x,es[i]? = some x->zU pv x) (hn0:s0.n=s'.n) (Q:Exit->Act->World->Prop)
  (hQ:∀ a w,sY P E C b ops es D s0 s' [] a w->Q .normal a w)
  (hQp:(∃ k:Nat,∃ e p,es[k]? = some (e,some p)/\p.bad=true)->∀ a' w',I P E ⟨s0.n,yf D s0.sl,s0.mem,s0.gs⟩ a' w'->Q (.panic [{ v:=pv.val,recovered:=false }]) a' w') :
  (fuel:Nat)->∀ (rem:List Nat) (listed:Array Bool) (a:Act) (w:World),rem.length<=fuel->rem.Pairwise (· < ·)->listed.size=ops.size->(∀ i,i<ops.size->(listed.getD i true=false↔i∈rem))->(∀ i∈rem,i<ops.size) ->
   (∀ k,k<ops.size->k ∉ rem->∀ i,((fW [] ops.toList).getD k 0).testBit i=true->i ∉ rem)->sY P E C b ops es D s0 s' rem a w->wpAny P .any ops Q fuel listed a w
 |fuel,[],listed,a,w,_,_,hsz,hl,_,_,hi=>by
  have hnil:Region.ready .any ops listed=[]:=by
   apply List.eq_nil_iff_forall_not_mem.2;intro i hmem;obtain⟨h1,o,ho,_⟩:=ufi.1 hmem;have hlt:=(uaf.1 ho).1;simpa using (hl i hlt).1 h1
  cases fuel with
  |zero=>exact⟨hnil,hQ a w hi⟩
  |succ fuel=>exact⟨λ_=>hQ a w hi,λi hmem=>by rw[hnil] at hmem; simp at hmem⟩
 |0,i::r,_,_,_,hlen,_,_,_,_,_,_=>by simp at hlen
 |fuel+1,i::r,listed,a,w,hlen,hp,hsz,hl,hlt,hmask,hi=>by
  have hready:i∈Region.ready .any ops listed:=by
   have hio:=hlt i (by simp);refine ufi.2 ⟨(hl i hio).2 (by simp),ops[i],by simp,λe he hb=>?_⟩;have hback:=hst.back i ops[i] (by simp) e he hb;have hnot:e.on ∉ i::r:=λhh=>by
    rcases uee.1 hh with h|h
    ·omega
    ·have:=(ub8.1 hp).1 _ h;omega
   have h1:=λh=>hnot ((hl e.on (by omega)).1 h);have hsz':e.on<listed.size:=by omega
   simp only[uac,uam hsz'] at h1 |-;simpa using h1
  refine⟨λhnil=>by rw[hnil] at hready; simp at hready,λj hj=>?_⟩;obtain⟨hj1,o,ho,hjall⟩:=ufi.1 hj;have hjlt:=(uaf.1 ho).1;have hjrem:=(hl j hjlt).1 hj1;have hlisted:∀ b,listed.getD b false=true->b<ops.size/\b ∉ i::r:=λb hb=>by
   have hbs:b<listed.size:=by
    rcases uel b listed.size with h|h
    ·exact h
    ·simp[ua0 h] at hb
   refine⟨by omega,λhmem=>?_⟩;have:=(hl b (by omega)).2 hmem;simp only[uac,uam hbs,uda] at hb this;rw[hb] at this;cases this
  obtain⟨m,hm1,hm2⟩:=(JA ops.toList []).2 j o (by simpa using ho);simp at hm1;have hmj:∀ b,((fW [] ops.toList).getD j 0).testBit b=true->b ∉ i::r:=λb hb=>by
   rw[uah,hm1] at hb;obtain⟨e,he,hb',hor⟩:=hm2 b hb;obtain⟨h1,h2⟩:=hlisted e.on (hjall e he hb');rcases hor with rfl|h
   ·exact h2
   ·exact hmask e.on h1 h2 b h
  have hnd:=yq hp;refine qw7 hC hi hjrem hp (λk hk hkj e f he hf=>?_) (λo' j' want ho' hg hmem=>?_) hst hgood (λf p hf hne k e q hk=>?_) hn0 _ Q (λa' w' h'=>?_) hQp
  ·have he':(es.map (·.1))[k]? = some e.1:=by rw[ucm,he]; rfl
   have hf':(es.map (·.1))[j]? = some f.1:=by rw[ucm,hf]; rfl
   exact(TA hord he' hf' hkj).resolve_left λh=>hmj k h hk
  ·obtain⟨_,e,he,heq,hb⟩:=hst.guard j o' j' want ho' hg;rw[ho] at ho';cases ho';have:=(hlisted e.on (hjall e he hb)).2;rw[heq] at this;exact this hmem
  ·rcases hne with hne|⟨t,hdt,htD⟩
   ·exact hmj k (zde hwro hf hne hk)
   ·refine hmj k ?_;rw[uah,hm1];exact qge hf hdt (hD ▸ htD) hm1 hk
  ·refine Ut hC hD hst hord hwro hgood hn0 Q hQ hQp fuel _ (listed.setIfInBounds j true) a' w' ?_ (TS hp j) (by simpa using hsz) (λk hk=>?_) (λk hk=>hlt k (ua7 hk)) (λk hk hkr b hb=>?_) h'
   ·rw[List.length_erase_of_mem hjrem];omega
   ·rw[hnd.mem_erase_iff];by_cases hkj:j=k
    ·subst hkj;simp[hsz]
    ·simp only[uac,uaa hkj];rw[<- uac,hl k hk];constructor
     ·exact λh=>⟨Ne.symm hkj,h⟩
     ·exact λh=>h.2
   ·rw[hnd.mem_erase_iff] at hkr |-;rintro⟨h1,h2⟩;by_cases hkj:k=j
    ·subst hkj;exact hmj b hb h2
    ·exact hmask k hk (λhh=>hkr ⟨hkj,hh⟩) b hb h2
def Wg {d:St} {all:List (Ef×Option Pan)} {good:Tr} {Q:XE->St->Prop}:{ps:List Pan}->(Lu d all good ps).sat Q->(∃ p∈ps,p.bad=true/\av (all.flatMap (IG p.pv))/\Q (.panic p.pv) d)\/((∀ p∈ps,p.bad=false)/\good.sat Q)
 |[],h=>.inr ⟨λp hp=>by simp at hp,h⟩
 |p::r,h=>by
  cases hb:p.bad with
  |true=>
   obtain⟨h1,h2⟩:=jm _ (h.1 hb);exact .inl ⟨p,by simp,hb,h1,h2⟩
  |false=>
   rcases Wg (h.2 hb) with ⟨q,h1,h2⟩|⟨h1,h2⟩
   ·exact .inl ⟨q,ubh _ h1,h2⟩
   ·refine .inr ⟨λq hq=>?_,h2⟩;rcases uee.1 hq with rfl|hq
    ·exact hb
    ·exact h1 q hq
def OO {A:Type} {f:A->List Prop}:{l:List A}->av (l.flatMap f)->∀ x∈l,av (f x)
 |[],_,x,hx=>by simp at hx
 |y::r,h,x,hx=>by
  obtain⟨h1,h2⟩:=jd.1 h;rcases uee.1 hx with rfl|hx
  ·exact h1
  ·exact OO h2 x hx
def qw8 (hC:CxOK P C) {id:Nat}:lr P E (.region id ops true) (Kn P C b ops.toList):=by
 intro s t h Q hq a w hi;unfold Kn at h;split at h<;>try trivial
 rename_i hstat;split at h<;>try trivial
 rename_i es s' hrun;split at h<;>try trivial
 rename_i hord;cases h;have hn:=UR _ _ _ _ hrun;have hst:StatOK s'.n ops:=by rw[hn]; exact DH hstat
 have hruns:sZ P C b ops es s' (List.range' 0 ops.size) s:=by
  have:=UV ops.toList 0 s es hrun (λi o hi=>by simpa using hi) (λi e hi=>by simpa using hi);simpa using this
 have hlen:es.length=ops.size:=by
  have:=UQ _ _ _ _ hrun;simpa using this
 obtain⟨F,γ,hi⟩:=hi;have hstart:∀ w',InvG P E s a w' [] F γ->sY P E C b ops es (tL ops.toList es) s s' (List.range' 0 ops.size) a w':=λw' hi'=>by
  refine⟨s,[],F,γ,hi',λt=>?_,hruns,hn.symm,rfl,λk e p hk hnot=>?_,λ_=>⟨rfl,λ_ _=>rfl⟩⟩
  ·constructor
   ·intro hh; simp at hh
   ·rintro⟨k,o,hk,hnot,_⟩;exfalso;apply hnot;rw[ucu];have:=(uaf.1 hk).1;omega
  ·exfalso;apply hnot;rw[ucu];have:=(uak.1 hk).1;omega
 have key:∀ pv:PV,(∀ (i:Nat) x,es[i]? = some x->zU pv x)->(∀ a' w',sY P E C b ops es (tL ops.toList es) s s' [] a' w'->eq P E Q .normal a' w') ->
   ((∃ k:Nat,∃ e p,es[k]? = some (e,some p)/\p.bad=true)->∀ a' w',I P E ⟨s.n,yf (tL ops.toList es) s.sl,s.mem,s.gs⟩ a' w'->eq P E Q (.panic [{ v:=pv.val,recovered:=false }]) a' w')->(Code.region id ops true).wp P (eq P E Q) a w:=by
  intro pv hg hend hpan;refine wp_region_any hC.mo ?_;refine Ut hC rfl hst hord.1 hord.2 hg hn.symm _ hend hpan ops.size (List.range' 0 ops.size) _ a _ (by simp) uav (by simp) (λi hi'=>?_) (λi hi'=>?_) (λk hk hnot=>?_) (hstart _ (RQ hi))
  ·simp only[ucu,uac,uar,hi',if_true,uda,true_iff];omega
  ·rw[ucu] at hi';omega
  ·exfalso;apply hnot;rw[ucu];omega
 rcases Wg hq with ⟨p,hp,hb,hall,hQ⟩|⟨hno,hgood⟩
 ·refine key p.pv (λi x hx=>qmt (OO hall x (ube hx))) ?_ (λ_ a' w' hiw=>⟨.panic p.pv,_,rfl,hiw,hQ⟩);rintro a' w' ⟨st,W,F',γ',hinv,_,_,_,_,hdone,_⟩;obtain⟨x,hx,hxp⟩:=ub7.1 hp;obtain⟨i,hi⟩:=ubq hx;obtain⟨e,q⟩:=x;subst hxp;have:=hdone i e p hi (by simp);rw[hb] at this;cases this
 ·obtain⟨hneed,hq'⟩:=JI _ hgood;have hbadF:∀ (k:Nat) e p,es[k]? = some (e,some p)->p.bad=false:=λk e p hk=>hno p (ub7.2 ⟨(e,some p),ube hk,rfl⟩);refine key ⟨0,.i64,0⟩ (λi x hx=>?_) ?_ ?_
  ·obtain⟨e,p⟩:=x;have hne:=hneed e (ue1.2 ⟨(e,p),ube hx,rfl⟩);cases p with
   |none=>exact hne
   |some q=>exact⟨λ_=>hne,λhb=>by rw[hbadF i e q hx] at hb; cases hb⟩
  ·rintro a' w' ⟨st,W,F',γ',hinv,_,hr,_⟩;have hr':=hr;subst hr';exact⟨.normal,_,rfl,⟨F',γ',oV hinv⟩,hq'⟩
  ·rintro⟨k,e,p,hk,hb⟩;rw[hbadF k e p hk] at hb;cases hb
end
def Pn:List Oper->Option (FuncId×Tmp)
 |[⟨none,.defer ⟨.value (.func f),args,_⟩,_,_,_,none⟩]=>match args.toList with
  |[.tmp tp]=>some (f,tp)
  |_=>none
 |_=>none
def K9 (P:Program) (C:Cx) (run:St->Option Tr) (T:TypeId) (k:IntKind) (fn:Func) (A:Code) (tp:Tmp) (ps:List PT) (rs:List Ty) (xs:ag ps):Option (Fr (aa rs)):=
 if (fn.name == "runtime.NumGoroutine")=false/\ps.length<=fn.ntmps then match cr P C 0 bw A 0 (sj fn.ntmps (eI ps xs)) with
  |some (.leaf .normal s1)=>match s1.sl tp with
   |.c (.ptr id 0)=>match run ⟨s1.n,s1.sl,s1.mem,λt=>if t=0 then .c (.ptr id 0) else .dead⟩ with
    |some t=>ia P T k fn.results.toList rs t
    |none=>none
   |_=>none
  |_=>none
 else none
section
variable {P:Program} {w w':World} {E:Env} {F F':Nat->Prop} {γ γ':Nat->Value}
def qgc {C:Cx} (hC:CxOK P C) {run:St->Option Tr} {g:FuncId} {T:TypeId} {fn:Func} {A c:Code} {rid:Nat} {ops:Array Oper} {tp:Tmp} {ps:List PT} {rs:List Ty} {fr:ag ps->Fr (aa rs)} (x0:ag ps)
  (hf:P.funcs[f]? = some fn) (hb:fn.body=some (.seq A (.seq (.region rid ops false) c))) (hd:Pn ops.toList=some (g,tp)) (hT:TolOK P g T k) (hR:∀ E,lr P E c run)
  (hrun:∀ xs,K9 P C run T k fn A tp ps rs xs=some (fr xs)):af P f ⟨ps,rs,λxs=>(fr xs).get,λxs=>[(fr xs).ok]⟩:=by
 have h0:=hrun x0
 unfold K9 at h0
 split at h0<;>try (cases h0; done)
 rename_i hc
 refine⟨enters hf hb hc.1,λw F xs vs hbd hr hok=>ucc hf hb ?_⟩
 have hr':=hrun xs
 unfold K9 at hr'
 simp only[hc,ufk,if_true] at hr'
 split at hr'<;>try (cases hr'; done)
 rename_i s1 ht1
 split at hr'<;>try (cases hr'; done)
 rename_i id hsl
 split at hr'<;>try (cases hr'; done)
 rename_i t ht2
 have hlen:vs.length=ps.length:=rV hr
 have hstart:=vV (D:=[]) (n:=fn.ntmps) hbd (λR=>mO hr) (by have:=hc.2; omega)
 have hsz:(vs.toArray).size=vs.length:=by simp
 refine wp_seq (wp_mono (fR hC A 0 (aY A 0) ht1 (Q:=λe s=>e = .normal/\s=s1) ⟨rfl,rfl⟩ hstart) ?_)
 rintro e a1 w1 ⟨xe,s,rfl,⟨F1,γ1,hi⟩,rfl,rfl⟩
 have hv0:=rm hi tp
 rw[hsl] at hv0
 obtain⟨_,b0,hR0,hv0⟩:=hv0
 refine wp_seq (ufj ?_)
 unfold Pn at hd
 split at hd<;>try (cases hd; done)
 rename_i f0 args ats ty pos aft hops
 split at hd<;>try (cases hd; done)
 rename_i tp0 hargs
 simp at hd
 obtain⟨rfl,rfl⟩:=hd
 obtain⟨ol⟩:=ops
 subst hops
 have hargs':args = #[.tmp tp0]:=by
  obtain⟨l⟩:=args
  simp only at hargs
  rw[hargs]
 subst hargs'
 have hev:a1.eval (.tmp tp0) = .pointer (some ⟨b0,0,none⟩):=hv0
 have hexec:(execOp a1.eval ⟨none,.defer ⟨.value (.func f0),#[.tmp tp0],ats⟩,ty,pos,aft,none⟩).run P w1 = .ok (.defer { target:=.fn (.func f0) #[],args:=#[.pointer (some ⟨b0,0,none⟩)] }) w1:=by
  have hef:a1.eval (.func f0) = .func (.func f0) #[] #[]:=rfl
  simp[execOp,resolve,hev,hef,Deferred.ofValue]
 have hrange:List.range (#[(⟨none,.defer ⟨.value (.func f0),#[.tmp tp0],ats⟩,ty,pos,aft,none⟩:Oper)]:Array Oper).size=[0]:=rfl
 unfold wpOps
 simp
 have hw:Region.wanted (⟨none,.defer ⟨.value (.func f0),#[.tmp tp0],ats⟩,ty,pos,aft,none⟩:Oper) (yielded #[(⟨none,.defer ⟨.value (.func f0),#[.tmp tp0],ats⟩,ty,pos,aft,none⟩:Oper)] a1.tmps)=true:=rfl
 refine .inl ?_
 unfold Oper.wp
 rw[hexec]
 have hi':InvG P ⟨w,F,λ_=>.pointer (some ⟨b0,0,none⟩),[{ target:=.fn (.func f0) #[],args:=#[.pointer (some ⟨b0,0,none⟩)] }],w.heap.size,ue4 _⟩ ⟨s.n,s.sl,s.mem,λt=>if t=0 then .c (.ptr id 0) else .dead⟩ { a1 with defers:={ target:=.fn (.func f0) #[],args:=#[.pointer (some ⟨b0,0,none⟩)] }::a1.defers } w1 [] F1 γ1:=by
  refine⟨hi.n,?_,hi.step,hi.mem,hi.sl,hi.hg,λt=>?_⟩
  ·show _::a1.defers=[_]
   rw[hi.df]
  ·show aE P w1 F1 _ (if t=0 then .c (.ptr id 0) else .dead) _
   split
   ·exact⟨rfl,b0,hR0,rfl⟩
   ·trivial
 have hwp:=hR ⟨w,F,λ_=>.pointer (some ⟨b0,0,none⟩),[{ target:=.fn (.func f0) #[],args:=#[.pointer (some ⟨b0,0,none⟩)] }],w.heap.size,ue4 _⟩ _ _ ht2 _ (qW hr' hok) _ _ ⟨F1,γ1,hi'⟩
 refine wp_mono hwp ?_
 rintro e a2 w2 ⟨xe,s2,rfl,⟨F2,γ2,hi2⟩,hx⟩
 have hinv:∀ W,(invoke (.fn (.func f0) #[]) #[.pointer (some ⟨b0,0,none⟩)]).run P W = .ok (.enter f0 #[.pointer (some ⟨b0,0,none⟩)]) W:=λW=>by
  have:=hT.enter #[.pointer (some ⟨b0,0,none⟩)] W
  simp[invoke,this]
 have hfin:(∃ n,dh P fn.results.toList rs s2=some (Fr.needL n (.val (fr xs).get))/\av n)->Leaves P fn a2.tmps (fJ w F rs (fr xs).get) a2.defers .returning w2:=by
  rintro⟨n,hend,hn⟩
  rw[hi2.df]
  refine ue9 (by simp) (hinv w2) ((hT.idle _ w2).mono ?_)
  rintro e u' w' ⟨⟨v,rfl⟩,rfl,rfl⟩
  exact tP hi2 rfl hend hn
 cases xe with
 |normal=>exact hfin hx
 |ret=>exact hfin hx
 |exit _=>exact hx.elim
 |val _=>exact hx.elim
 |jump _=>exact hx.elim
 |panic p=>
  obtain⟨s',n,hs',hin,hend,hn⟩:=hx
  obtain⟨hty,hk,hlow,b,tyb,old,hG,hheap,hi3⟩:=VY hi2 hs' hin
  have hG':=hG
  simp at hG'
  subst hG'
  show Leaves P fn a2.tmps _ a2.defers (.panicking [{ v:=p.val,recovered:=false }]) w2
  rw[WG (by rw[hty]; exact hlow),hi2.df,hty,hk]
  refine ue9 (by simp) (hinv w2) ((hT.told b0 tyb old p.n w2 hheap).mono ?_)
  rintro e u' w' ⟨⟨v,rfl⟩,rfl,rfl⟩
  exact tP hi3 rfl hend hn
end
section
variable {P:Program} {E:Env}
def zdi {c rest:Code} {L0 L N Eo R:LS} {id l:Nat} {f0:L0.X->Fr (Rd L.X Eo.X R.X)} {f:L.X->Fr (Rd L.X Eo.X R.X)} (hf:findLabel c l=some rest) (h1:gi P l c L0 ⟨n,id,L,Eo,R⟩ f0) (h2:gi P l rest L ⟨n,id,L,Eo,R⟩ f)
  {F0:L0.X->Fr (Rd N.X Eo.X R.X)} {F:L.X->Fr (Rd N.X Eo.X R.X)} {inv:L.X->Prop} {μ:L.X->Nat}
  (hlaw0:∀ x,∀ Q:Rd N.X Eo.X R.X->Prop,(F0 x).satP Q->(f0 x).satP λ
   |.next x'=>inv x'/\(F x').satP Q
   |.out y=>Q (.out y)
   |.back z=>Q (.back z)
   |.pan p=>Q (.pan p))
  (hlaw:∀ x,inv x->∀ Q:Rd N.X Eo.X R.X->Prop,(F x).satP Q->(f x).satP λ
   |.next x'=>inv x'/\μ x'<μ x/\(F x').satP Q
   |.out y=>Q (.out y)
   |.back z=>Q (.back z)
   |.pan p=>Q (.pan p)):ae P (.scope c) L0 ⟨n,id,N,Eo,R⟩ F0:=by
 intro E a w x Q hi hq;refine wp_scope_jumps l (λa w=>∃ m,∃ x,inv x/\μ x=m/\I P E (L.tpl n x) a w/\(F x).satP Q) (λa w=>u9 λm=>∃ x,inv x/\μ x=m/\I P E (L.tpl n x) a w/\(F x).satP Q) hf ?_ ?_
 ·refine wp_mono (h1 E a w x _ hi (hlaw0 x Q hq)) ?_;rintro e a' w' ⟨r,hr,hm⟩;cases r with
  |next x'=>
   obtain⟨rfl,hi'⟩:=hm;exact⟨rfl,⟨μ x',x',hr.1,rfl,hi',hr.2⟩⟩
  |out y=>
   obtain⟨rfl,hi'⟩:=hm;exact⟨.out y,hr,rfl,hi'⟩
  |back z=>
   obtain⟨rfl,hi'⟩:=hm;exact⟨.back z,hr,rfl,hi'⟩
  |pan v=>
   obtain⟨rfl,hi'⟩:=hm;exact⟨.pan v,hr,rfl,hi'⟩
 ·rintro a w ⟨m,hm⟩;obtain⟨⟨x',q1,q2,q3,q4⟩,_⟩:=uA (p:=λm=>∃ x,inv x/\μ x=m/\I P E (L.tpl n x) a w/\(F x).satP Q) ⟨m,hm⟩;refine wp_mono (h2 E a w x' _ q3 (hlaw x' q1 Q q4)) ?_;rintro e a1 w1 ⟨r,hr,hm1⟩;cases r with
  |next y=>
   obtain⟨rfl,hi'⟩:=hm1;refine⟨rfl,⟨μ y,y,hr.1,rfl,hi',hr.2.2⟩,?_⟩;rw[<- q2];exact ucb ((uA ⟨μ y,y,hr.1,rfl,hi',hr.2.2⟩).2 (μ y) ⟨y,hr.1,rfl,hi',hr.2.2⟩) hr.2.1
  |out y=>
   obtain⟨rfl,hi'⟩:=hm1;exact⟨.out y,hr,rfl,hi'⟩
  |back z=>
   obtain⟨rfl,hi'⟩:=hm1;exact⟨.back z,hr,rfl,hi'⟩
  |pan v=>
   obtain⟨rfl,hi'⟩:=hm1;exact⟨.pan v,hr,rfl,hi'⟩
end
structure GrowOK (P:Program) (f:FuncId) (e:TypeId) (T:Ty) (bytes:Nat):Prop where
 enters:∀ args w,(callFunc f args).run P w = .ok (.enter f args) w
 calls:∀ (w:World) (n:Nat),n<=maxLen->n*bytes<=140737488355328->Calls P f #[.slice none 0 0,.int .i64 n] w λen w'=>
  ∃ v,en = .returned v/\w.grownBy w' none/\w'.ownsRow w.heap.size e T.size v 0 []
def II (f:FuncId) (e:TypeId) (T:Ty) (bytes:Nat) (d:Nat) (g:FuncId) (args:List AV) (s:St):Option Tr:=
 if g=f/\e<cj then match args,s.mem d with
  |[.c .nil,.c (.int .i64 n)],none=>some (needL [0<=n/\n<=maxLen/\n*bytes<=140737488355328] (.leaf (.val (.c (.own d))) ⟨s.n,s.sl,upd s.mem d (.arr e T []),s.gs⟩))
  |_,_=>none
 else none
def nY (w:World) (o:Obj) (i:Nat) (h:i<w.heap.size):(w.alloc o).heap[i]? = w.heap[i]? := by
 first
  |exact heap_alloc_old w o h
  |exact heap_alloc_old w o i h
def qv1 {B':Nat} {size:Nat} (h:w.ownsRow B e size v n xs) (hb:B'<=B):w.ownsRow B' e size v n xs:=
 rD h λg hg=>uek hb (h.lt g hg).1
def qmz {T:Ty} {bytes:Nat} (h:GrowOK P f e T bytes):gQ P (II f e T bytes):=by
 intro d g args s t ht;unfold II at ht;split at ht<;>try trivial
 rename_i hg;obtain⟨rfl,hlt⟩:=hg;split at ht<;>try trivial
 rename_i n hmd;cases ht;refine⟨h.enters,λE a w F γ vs Q hi hr hq=>?_⟩;obtain⟨⟨h0,h1,h2⟩,hqv⟩:=hq
 match vs,hr with
 |[v1,v2],⟨⟨_,hv1⟩,⟨_,hv2,_⟩,_⟩=>
  have e1:=hv1;have e2:=hv2;subst e1;subst e2;obtain⟨m,rfl⟩:∃ m:Nat,n=m:=⟨n.toNat,by omega⟩;have h4:m*bytes<=140737488355328:=by omega
  refine(h.calls w m (by omega) h4).mono λen w2 hp=>?_;obtain⟨v,rfl,hgr,hown⟩:=hp;have hBs:=nM hi;have hlow:=qv1 hown hBs;obtain⟨s1,m1⟩:=uN (l:=([]:List T.den)) hi.mem (dv hi) hBs hmd hgr hlow (λg hg=>(hown.lt g hg).1) (λi x hx=>by simp at hx) hlt;have hinv:InvG P E ⟨s.n,s.sl,upd s.mem d (.arr e T []),s.gs⟩ a w2 [] F (cU γ d v):=by
   refine⟨hi.n,hi.df,?_,m1,λt=>(hi.sl t).mono s1.hF s1.hw s1.hR,hi.hg,λt=>s1.repA (hi.gh t)⟩;obtain⟨γ0,h0⟩:=hi.step;exact⟨γ0,h0.trans s1⟩
  exact⟨.val (.c (.own d)),_,F,_,hqv,hinv,v,rfl,lP (kT hown)⟩
section
variable {F:Fence} {n:Nat} {P:Program} {w:World}
def Ac (F:Fence) (n:Nat) (P:Program) (gf:Nat) (lb:Array Value) (encs:α->Array Value) (E:α->World->World->Prop) (Kp:World->World->Prop) (S:List α->Prop) (N:Nat) (w0:World):Prop:=
 ∀ (l:Nat) (J:List α->World->Prop) (W:World),Below w0.heap.size w0 W->AbidesFrom W.heap.size J ->
  (∀ pre x W0 W1,J pre W0->Below W0.heap.size W0 W1->E x W0 W1->pre.length<N->YieldAt F (n-1) P l (encs x) W1 λe W'=>e = .returned (.bool true)/\J (pre++[x]) W'/\Kp W1 W') ->
  J [] W->CallsIn F n P gf (#[.func (.yield l) #[] #[]]++lb) W λe W'=>(∃ v,e = .returned v)/\∃ xs,S xs/\J xs W'
def qx0 (b:Nat) (Kp:World->World->Prop) (I:List α->World->Prop) (xs:List α) (W:World) (e:Exit) (_:Act) (W':World):Prop:=
 e = .normal/\KeepsFrom b W W'/\Kp W W'/\I xs W'
def zdc {g:Operand} {ps:Array Tmp} {assign body:Code} {Q:Exit->Act->World->Prop} {a:Act}
  (hro:F.round=none) (h1:1<=n) {gf:Nat} {lb:Array Value} (hg:a.eval g = .func (.func gf) #[] lb) (hFg:F.fn gf) (eg:∀ args w,(callFunc gf args).run P w = .ok (.enter gf args) w)
  {encs:α->Array Value} {E:α->World->World->Prop} {Kp:World->World->Prop} {S:List α->Prop} {N:Nat} (hseq:Ac F (n-1) P gf lb encs E Kp S N w)
  (hKt:∀ {A B C:World},Kp A B->Kp B C->Kp A C) (hKb:∀ (W:World) (l:Nat) (o o':Obj),w.heap.size<=l->W.heap[l]? = some o->o.isCells=false->Kp W (W.putObj l o')) (hps:∀ x,(encs x).size=ps.size)
  (I:List α->World->Prop) (hI:OwnFrom w.heap.size I) (h0:I [] w) (A:List α->α->Act->World->Prop) (hA:∀ pre x a',OwnFrom w.heap.size (λ(_:Unit) W=>A pre x a' W))
  (hassign:∀ (l:Nat) (pre:List α) (x:α) (W0 W:World) (K:Act->World->Prop),I pre W0->Below W0.heap.size W0 W->E x W0 W->(∀ a' W',KeepsFrom w.heap.size W W'->Kp W W'->A pre x a' W'->K a' W') ->
   assign.wpIn (F.inRound l) (n-1-1) P (Exit.then K (λ_ _ _=>False)) { tmps:=(ps.zip (encs x)).foldl (λt (p,v)=>t.setIfInBounds p v) a.tmps,defers:=[] } W)
  (hbody:∀ (l:Nat) (pre:List α) (x:α) (a':Act) (W:World),A pre x a' W->pre.length<N->body.wpIn (F.inRound l) (n-1-1) P (qx0 w.heap.size Kp I (pre++[x]) W) a' W)
  (hdone:∀ (D:Nat) (xs:List α) (W:World),w.heap.size<=D->S xs->I xs W->W.heap[D]? = some (.deferred (some []))->Q .normal { a with defers:={ target:=.collected D,args:=#[] }::a.defers } W) :
  (Code.rangeFunc g ps assign body).wpIn F n P Q a w:=by
 refine wpIn_rangeFunc λfn hfn=>?_;rw[hro]
 let mk:LoopState->Option Code->Loop:=λst pe=>{ state:=st,pending:=pe,fn,tmps:=a.tmps,params:=ps,assign,body,defers:=w.heap.size }
 let d0:Obj:=.deferred (some [])
 have hsz:(w.alloc d0).heap.size=w.heap.size+1:=by simp
 have hL:((w.alloc d0).alloc (.loop (mk .ready none))).heap[w.heap.size+1]? = some (.loop (mk .ready none)):=by
  have:=World.alloc_heap_new (w.alloc d0) (.loop (mk .ready none))
  rwa [hsz] at this
 have hD:((w.alloc d0).alloc (.loop (mk .ready none))).heap[w.heap.size]? = some d0:=
  (uc8 _ _ _ (by rw[hsz]; omega)).trans (World.alloc_heap_new w _)
 have hbel:Below w.heap.size w ((w.alloc d0).alloc (.loop (mk .ready none))):=((ufd _ w).alloc (ue4 _) _).alloc (by rw[hsz]; omega) _;generalize hW1:(w.alloc d0).alloc (.loop (mk .ready none))=W1 at hL hD hbel;have hI1:I [] W1:=by rw[<- hW1]; exact hI.alloc _ (hI.alloc _ h0)
 have hs1:W1.heap.size=w.heap.size+2:=by rw[<- hW1]; simp
 refine⟨w.heap.size+1,[{ target:=.collected w.heap.size,args:=#[] }],W1,{ target:=.fn (.func gf) lb,args:=#[.func (.yield (w.heap.size+1)) #[] #[]] },W1,gf,
  #[.func (.yield (w.heap.size+1)) #[] #[]]++lb,W1,?_,?_,?_,?_,λ_=>h1,?_⟩
 ·rw[<- hW1];exact run_enterLoop_outer _ _ _ _ _
 ·simp only[resolve,hg];simp[go_sem]
 ·intro f' hf';simp[Target.leads] at hf';subst hf';exact hFg
 ·simp[invoke,eg]
 have hwalk:∀ {A:World} {row:Option Nat},(∀ r,row=some r->W1.heap.size<=r/\∃ o:Obj,A.heap[r]? = some o/\o.isWalk=true)->∀ r,row=some r->w.heap.size<=r/\∃ o:Obj,A.heap[r]? = some o/\o.isCells=false:=λhr r e=>by
  obtain⟨hb,o,ho,hw⟩:=hr r e;exact⟨by omega,o,ho,Obj.not_cells_of_walk hw⟩
 refine(hseq (w.heap.size+1) (λpre W=>I pre W/\W.heap[w.heap.size+1]? = some (.loop (mk .ready none))/\W.heap[w.heap.size]? = some d0) W1 hbel ?_ ?_ ⟨hI1,hL,hD⟩).mono ?_
 ·rintro s X Y row ⟨q1,q2,q3⟩ hgr hr;exact⟨hI s X Y row q1 hgr (hwalk hr),(grownBy_keeps hgr (λr e=>(hr r e).2) q2 rfl).trans q2,(grownBy_keeps hgr (λr e=>(hr r e).2) q3 rfl).trans q3⟩
 ·rintro pre x W0 W ⟨hi0,hl0,hd0⟩ hb0 hE hlen;have hl:=(hb0.block _ (uaf.1 hl0).1).trans hl0;have hd:=(hb0.block _ (uaf.1 hd0).1).trans hd0;refine⟨fn,_,assign,body,run_yield hl (hps x),roundIn_of_wpIn hfn (hassign _ pre x W0 W _ hi0 hb0 hE ?_)⟩;intro a' Wa hka hkpa hax;have hla:=hka.same _ _ (by omega) hl rfl;have hda:=hka.same _ _ (ue4 _) hd rfl;have hlt:=(uaf.1 hla).1;refine⟨_,run_beginRound hla rfl,?_⟩;have hl2:(Wa.putObj (w.heap.size+1) (.loop { mk .ready none with state:=.busy })).heap[w.heap.size+1]? = some (.loop { mk .ready none with state:=.busy }):=World.putObj_heap_same hlt;have hd2:(Wa.putObj (w.heap.size+1) (.loop { mk .ready none with state:=.busy })).heap[w.heap.size]? = some d0:=(World.putObj_heap_other (by omega)).trans hda;have hk2:Kp Wa (Wa.putObj (w.heap.size+1) (.loop { mk .ready none with state:=.busy })):=hKb _ _ _ _ (by omega) hla rfl;refine wpIn_mono (hbody _ pre x a' _ ((hA pre x a').putObj (s:=()) _ hax (by omega) hla rfl) hlen) ?_;rintro e a3 W3 ⟨rfl,hk3,hkp3,hi3⟩;have hl3:=hk3.same _ _ (by omega) hl2 rfl;have hd3:=hk3.same _ _ (ue4 _) hd2 rfl;have hend:=run_endRound (P:=P) none hl3;refine⟨_,_,hend,rfl,⟨hI.putObj _ hi3 (by omega) hl3 rfl,World.putObj_heap_same (uaf.1 hl3).1,(World.putObj_heap_other (by omega)).trans hd3⟩,hKt hkpa (hKt (hKt hk2 hkp3) (hKb _ _ _ _ (by omega) hl3 rfl))⟩
 ·rintro e W2 ⟨⟨v,rfl⟩,xs,hS,hi,hl,hd⟩;exact⟨none,_,run_endLoop hl (by simp),hdone _ xs _ (ue4 _) hS (hI.putObj _ hi (by omega) hl rfl) ((World.putObj_heap_other (by omega)).trans hd)⟩
end
def Aa (w' w:World):Prop:=w'.heap=w.heap/\w'.os=w.os/\w'.tape=w.tape/\w'.output=w.output
structure ToldTwo (P:Program) (g:FuncId) (T:TypeId) (k:IntKind) (m:Nat):Prop where
 enter:∀ args w,(callFunc g args).run P w = .ok (.enter g args) w
 idle:∀ (p q:Addr) (w:World),CallsD P g #[.pointer (some p),.pointer (some q)] .returning w λe u' w'=>(∃ v,e = .returned v)/\u' = .returning/\w'=w
 told:∀ (b1 b2:Nat) (t1 t2:TypeId) (o1 o2:Array Value) (n:Int) (w:World),b1≠b2->w.heap[b1]? = some (.cells o1 t1 (0,0))->o1.size=m->w.heap[b2]? = some (.cells o2 t2 (0,0))->o2.size=1 ->
  CallsD P g #[.pointer (some ⟨b1,0,none⟩),.pointer (some ⟨b2,0,none⟩)] (.panicking [{ v:=.iface T (.agg #[.int k n]),recovered:=false }]) w λe u' w'=>
   (∃ v,e = .returned v)/\u' = .panicking [{ v:=.iface T (.agg #[.int k n]),recovered:=true }]/\Aa w' ((w.setRow b1 (Array.replicate m (.int .i64 0))).setRow b2 #[.int k n])
def zH (m:Nat):List AC:=List.replicate m (.int .i64 0)
def En (T:TypeId) (k:IntKind) (m:Nat) (p:PV) (s:St):Option St:=
 match s.gs 0,s.gs 1 with
 |.c (.ptr i 0),.c (.ptr j 0)=>match s.mem i,s.mem j with
  |some (.box e cs),some (.box e2 [_])=>if p.ty=T+1000000/\p.k=k/\i≠j/\cs.length=m then some ⟨s.n,s.sl,upd (upd s.mem i (.box e (zH m))) j (.box e2 [.int k p.n]),s.gs⟩ else none
  |_,_=>none
 |_,_=>none
def iM (P:Program) (T:TypeId) (k:IntKind) (m:Nat) (rv:List ResultVar) (rs:List Ty):Tr->Option (Fr (aa rs))
 |.leaf .ret s=>dh P rv rs s
 |.leaf .normal s=>dh P rv rs s
 |.leaf (.panic p) s=>match En T k m p s with
  |some s'=>match dh P rv rs s' with
   |some f=>some (.need (inR k p.n) f)
   |none=>none
  |none=>none
 |.leaf _ _=>none
 |.br b x y=>match iM P T k m rv rs x,iM P T k m rv rs y with
  |some x',some y'=>some (.br b x' y')
  |_,_=>none
 |.need p x=>match iM P T k m rv rs x with
  |some x'=>some (.need p x')
  |none=>none
 |.two p x y=>match iM P T k m rv rs x,iM P T k m rv rs y with
  |some x',some y'=>some (.need (p->x'.ok/\x'.get=y'.get) y')
  |_,_=>none
def Po:List Oper->Option (FuncId×Tmp×Tmp×Tmp)
 |[⟨some td,.makeFunc (.func f) first caps,_,_,_,none⟩,⟨none,.defer ⟨.value (.tmp td'),args,_⟩,_,_,_,none⟩]=>match first.toList,caps.toList,args.toList with
  |[],[.tmp ta,.tmp tb],[]=>if td'=td then some (f,td,ta,tb) else none
  |_,_,_=>none
 |_=>none
def K8 (P:Program) (C:Cx) (run:St->Option Tr) (T:TypeId) (k:IntKind) (m:Nat) (fn:Func) (A:Code) (td ta tb:Tmp) (ps:List PT) (rs:List Ty) (xs:ag ps):Option (Fr (aa rs)):=
 if (fn.name == "runtime.NumGoroutine")=false/\ps.length<=fn.ntmps/\td<fn.ntmps then match cr P C 0 bw A 0 (sj fn.ntmps (eI ps xs)) with
  |some (.leaf .normal s1)=>match s1.sl ta,s1.sl tb with
   |.c (.ptr i 0),.c (.ptr j 0)=>if s1.n=fn.ntmps then match run (fk ⟨s1.n,e8 s1.sl (some td) .dead,s1.mem,λt=>if t=0 then .c (.ptr i 0) else if t=1 then .c (.ptr j 0) else .dead⟩) with
    |some t=>iM P T k m fn.results.toList rs t
    |none=>none
    else none
   |_,_=>none
  |_=>none
 else none
section
variable {P:Program} {w w':World} {E:Env} {F F':Nat->Prop} {γ γ':Nat->Value}
def ub {T:TypeId} {rv:List ResultVar} {rs:List Ty}:{t:Tr} -> {f:Fr (aa rs)}->iM P T k m rv rs t=some f->f.ok->t.sat λe s=>match e with
  |.ret=>∃ n,dh P rv rs s=some (Fr.needL n (.val f.get))/\av n
  |.normal=>∃ n,dh P rv rs s=some (Fr.needL n (.val f.get))/\av n
  |.panic p=>∃ s' n,En T k m p s=some s'/\inR k p.n/\dh P rv rs s'=some (Fr.needL n (.val f.get))/\av n
  |_=>False
 |.leaf e s,f,h,hok=>by
  cases e with
  |exit i=>simp[iM] at h
  |val i=>simp[iM] at h
  |jump i=>simp[iM] at h
  |normal=>exact tO h hok
  |ret=>exact tO h hok
  |panic p=>
   simp only[iM] at h;split at h<;>try trivial
   rename_i s' hs';split at h<;>try trivial
   rename_i f' hf';cases h;obtain⟨n,h1,h2⟩:=tO hf' hok.2;exact⟨s',n,hs',hok.1,h1,h2⟩
 |.br b x y,f,h,hok=>by
  simp only[iM] at h;split at h<;>try trivial
  rename_i x' y' hx hy;cases h;refine⟨λhb=>?_,λhb=>?_⟩
  ·have:=ub hx (hok.1 hb);simpa only[Fr.get,hb,if_true] using this
  ·have:=ub hy (hok.2 hb);simpa only[Fr.get,hb,ub1,ufl] using this
 |.need p x,f,h,hok=>by
  simp only[iM] at h;split at h<;>try trivial
  rename_i x' hx;cases h;have:=ub hx hok.2;exact⟨hok.1,this⟩
 |.two p x y,f,h,hok=>by
  simp only[iM] at h;split at h<;>try trivial
  rename_i x' y' hx hy;cases h;have h2:=ub hy hok.2;refine⟨λhp=>?_,h2⟩;have:=ub hx (hok.1 hp).1
  rwa [(hok.1 hp).2] at this
def qoh {s:St} {a:Act} (hi:InvG P E s a w [] F γ) (h:Aa w' w):InvG P E s a w' [] F γ:=by
 obtain⟨h1,h2,h3,h4⟩:=h;have hh:∀ b:Nat,w'.heap[b]? = w.heap[b]? := λb=>by rw[h1]
 have hs:Step E.B w F γ s.mem w' F γ s.mem:=⟨λ_ h=>h,λb _=>hh b,λ_ _ h=>h,λb _=>hh b,h2,h3,h4,by rw[h1]; exact ue4 _,λb hb=>by rw[h1]; exact dv hi b hb,λ_ h=>.inl h⟩;refine⟨hi.n,hi.df,?_,hi.mem.keep (λ_ h=>h) (λb _=>hh b) (λid o b ho he=>⟨hh b,(gZ (hi.mem.ob id o ho) he).2.1⟩),λt=>(hi.sl t).mono hs.hF hs.hw hs.hR,hi.hg,λt=>hs.repA (hi.gh t)⟩;obtain⟨γ0,h0⟩:=hi.step;exact⟨γ0,h0.trans hs⟩
def WK:(m:Nat) -> {g:Nat->Value->Prop}->(∀ j,j<m->g j (.int .i64 0))->aN P w F R (zH m) g
 |0,_,_=>trivial
 |m+1,_,h=>⟨⟨.int .i64 0,h 0 (by omega),rfl,rfl,by decide,by decide⟩,WK m λj hj=>h (j+1) (by omega)⟩
def qvv {old new:Array Value} (h:old.size=new.size):cF old 0 new.toList=new:=by
 apply ufh
 ·rw[yy (by simp; omega)];exact h
 ·intro i h1 h2;simp only[cF,List.take_zero,List.getElem_toArray];rw[List.getElem_append_left (by simpa using h2)];simp
def zb1 {T:TypeId} {p:PV} {s s':St} {a:Act} (hi:InvG P E s a w [] F γ) (h:En T k m p s=some s') (hr:inR k p.n) :
  p.ty=T+1000000/\p.k=k/\∃ b1 b2 t1 t2 o1 o2,E.G 0 = .pointer (some ⟨b1,0,none⟩)/\E.G 1 = .pointer (some ⟨b2,0,none⟩)/\b1≠b2/\w.heap[b1]? = some (.cells o1 t1 (0,0))/\o1.size=m/\w.heap[b2]? = some (.cells o2 t2 (0,0))/\o2.size=1 /\
   InvG P E s' a ((w.setRow b1 (Array.replicate m (.int .i64 0))).setRow b2 #[.int k p.n]) [] F γ:=by
 unfold En at h;split at h<;>try trivial
 rename_i i j hg0 hg1;split at h<;>try trivial
 rename_i e cs e2 c0 hM1 hM2;split at h<;>try trivial
 rename_i hp;cases h;obtain⟨hp1,hp2,hij,hlen⟩:=hp;have h0:=hi.gh 0;rw[hg0] at h0;have h1:=hi.gh 1;rw[hg1] at h1;obtain⟨b1,o1,e11,e12,e13,e14,e15,e16,e17⟩:=lw hi.mem hM1 h0.2;obtain⟨b2,o2,e21,e22,e23,e24,e25,e26,e27⟩:=lw hi.mem hM2 h1.2;have hne:b1≠b2:=by
  rintro rfl;exact hi.mem.apart i j _ _ b1 hij hM1 hM2 ⟨_,e11,rfl⟩ ⟨_,e21,rfl⟩
 have ho1:cF o1 0 (Array.replicate m (.int .i64 0):Array Value).toList=Array.replicate m (.int .i64 0):=qvv (by simp[e16,hlen]);obtain⟨s1,s2⟩:=pJ (off:=0) (cs':=zH m) (vs:=(Array.replicate m (.int .i64 0):Array Value).toList) hi.mem (dv hi) hM1 e11 e13 e14 e15 (by simp[e16,hlen]) (by simp[zH,e16,hlen]) (by
  rw[ho1];exact WK m λj hj=>by simp[hj])
 rw[ho1] at s1 s2;have hM2':upd s.mem i (.box e (zH m)) j=some (.box e2 [c0]):=(fa _ _ (Ne.symm hij)).trans hM2;obtain⟨old,rfl⟩:=JO (by simpa using e26);have hov:cF #[old] 0 [.int k p.n] = #[.int k p.n]:=by simp[cF]
 have hb2:(w.setRow b1 (Array.replicate m (.int .i64 0))).heap[b2]? = some (.cells #[old] e2 (0,0)):=(uev w b1 b2 _ (Ne.symm hne)).trans e23;obtain⟨s3,s4⟩:=pJ (off:=0) (cs':=[.int k p.n]) (vs:=[.int k p.n]) s2 s1.bd hM2' e21 hb2 e24 e25 (by simp) rfl ⟨⟨.int k p.n,by rw[hov]; rfl,rfl,rfl,hr⟩,uT⟩;have hst:=s1.trans s3;refine⟨hp1,hp2,b1,b2,e,e2,o1,#[old],e12,e22,hne,e13,e16.trans hlen,e23,rfl,⟨hi.n,hi.df,?_,s4,λt=>(hi.sl t).mono hst.hF hst.hw hst.hR,hi.hg,λt=>hst.repA (hi.gh t)⟩⟩;obtain⟨γ0,h0⟩:=hi.step;exact⟨γ0,h0.trans hst⟩
def qf9 {C:Cx} (hC:CxOK P C) {run:St->Option Tr} {g:FuncId} {T:TypeId} {fn:Func} {A c:Code} {rid:Nat} {ops:Array Oper} {td ta tb:Tmp} {ps:List PT} {rs:List Ty} {fr:ag ps->Fr (aa rs)} (x0:ag ps)
  (hf:P.funcs[f]? = some fn) (hb:fn.body=some (.seq A (.seq (.region rid ops false) c))) (hd:Po ops.toList=some (g,td,ta,tb)) (hT:ToldTwo P g T k m) (hR:∀ E,lr P E c run)
  (hrun:∀ xs,K8 P C run T k m fn A td ta tb ps rs xs=some (fr xs)):af P f ⟨ps,rs,λxs=>(fr xs).get,λxs=>[(fr xs).ok]⟩:=by
 have h0:=hrun x0
 unfold K8 at h0
 split at h0<;>try (cases h0; done)
 rename_i hc
 refine⟨enters hf hb hc.1,λw F xs vs hbd hr hok=>ucc hf hb ?_⟩
 have hr':=hrun xs
 unfold K8 at hr'
 simp only[hc,ufk,if_true] at hr'
 split at hr'<;>try (cases hr'; done)
 rename_i s1 ht1
 split at hr'<;>try (cases hr'; done)
 rename_i i j hsl1 hsl2
 split at hr'<;>try (cases hr'; done)
 rename_i hsn
 split at hr'<;>try (cases hr'; done)
 rename_i t ht2
 have hlen:vs.length=ps.length:=rV hr
 have hstart:=vV (D:=[]) (n:=fn.ntmps) hbd (λR=>mO hr) (by have:=hc.2.1; omega)
 have hsz:(vs.toArray).size=vs.length:=by simp
 refine wp_seq (wp_mono (fR hC A 0 (aY A 0) ht1 (Q:=λe s=>e = .normal/\s=s1) ⟨rfl,rfl⟩ hstart) ?_)
 rintro e a1 w1 ⟨xe,s,rfl,⟨F1,γ1,hi⟩,rfl,rfl⟩
 have hva:=rm hi ta
 rw[hsl1] at hva
 obtain⟨_,b1,hR1,hva⟩:=hva
 have hvb:=rm hi tb
 rw[hsl2] at hvb
 obtain⟨_,b2,hR2,hvb⟩:=hvb
 refine wp_seq (ufj ?_)
 obtain⟨ol⟩:=ops
 simp only at hd
 unfold Po at hd
 split at hd<;>try (cases hd; done)
 rename_i td0 f0 first caps ty pos aft td1 args ats ty' pos' aft'
 split at hd<;>try (cases hd; done)
 rename_i ta0 tb0 hfirst hcaps hargs
 split at hd<;>try (cases hd; done)
 rename_i htd
 subst htd
 simp at hd
 obtain⟨rfl,rfl,rfl,rfl⟩:=hd
 have h1':first = #[]:=by
  obtain⟨l⟩:=first
  simp only at hfirst
  rw[hfirst]
 have h2':caps = #[.tmp ta0,.tmp tb0]:=by
  obtain⟨l⟩:=caps
  simp only at hcaps
  rw[hcaps]
 have h3':args = #[]:=by
  obtain⟨l⟩:=args
  simp only at hargs
  rw[hargs]
 subst h1'
 subst h2'
 subst h3'
 have hev1:a1.eval (.tmp ta0) = .pointer (some ⟨b1,0,none⟩):=hva
 have hev2:a1.eval (.tmp tb0) = .pointer (some ⟨b2,0,none⟩):=hvb
 let cl:Value:=.func (.func f0) #[] #[.pointer (some ⟨b1,0,none⟩),.pointer (some ⟨b2,0,none⟩)]
 let o0:Oper:=⟨some td1,.makeFunc (.func f0) #[] #[.tmp ta0,.tmp tb0],ty,pos,aft,none⟩
 let o1:Oper:=⟨none,.defer ⟨.value (.tmp td1),#[],ats⟩,ty',pos',aft',none⟩
 have hx0:(execOp a1.eval o0).run P w1 = .ok (.value cl) w1:=by
  have hmf:∀ (fn:Fn) (first cap:Array Value) (w:World),(Instr.makeFunc fn first cap).run P w = .ok (.func fn first cap) w:=λ_ _ _ _=>rfl
  simp[execOp,o0,hev1,hev2,hmf,cl]
 have hput:(a1.put (some td1) cl).eval (.tmp td1)=cl:=by
  show(a1.put (some td1) cl).tmps.getD td1 undef=cl
  rw[Du _ _ _ _ (λx hx=>by cases hx; rw[hi.n,hsn]; exact hc.2.2),if_pos rfl]
 have hx1:(execOp (a1.put (some td1) cl).eval o1).run P w1 = .ok (.defer { target:=.fn (.func f0) #[.pointer (some ⟨b1,0,none⟩),.pointer (some ⟨b2,0,none⟩)],args:=#[] }) w1:=by
  simp[execOp,resolve,o1,hput,cl,Deferred.ofValue]
 have hrange:List.range ((#[o0,o1]:Array Oper)).size=[0,1]:=rfl
 show wpOps P #[o0,o1] _ (List.range ((#[o0,o1]:Array Oper)).size) a1 w1
 rw[hrange]
 unfold wpOps
 simp
 refine .inl ?_
 unfold Oper.wp
 rw[hx0,Oper.upon_value]
 unfold wpOps
 simp
 refine .inl ?_
 unfold Oper.wp
 rw[show o0.dst=some td1 from rfl,hx1,Oper.upon_defer]
 have hip:=oV (lJ (d:=some td1) (v:=.dead) (u:=cl) (wr:=[]) hi (λx hx=>by cases hx; exact⟨by rw[hsn]; exact hc.2.2,by simp⟩) (Step.refl (dv hi)) hi.mem trivial (λ_ _ _ h=>by cases h))
 let D:List Deferred:=[{ target:=.fn (.func f0) #[.pointer (some ⟨b1,0,none⟩),.pointer (some ⟨b2,0,none⟩)],args:=#[] }]
 let E2:Env:=⟨w,F,λt=>if t=0 then .pointer (some ⟨b1,0,none⟩) else .pointer (some ⟨b2,0,none⟩),D,w.heap.size,ue4 _⟩
 have hi':InvG P E2 (fk ⟨s.n,e8 s.sl (some td1) .dead,s.mem,λt=>if t=0 then .c (.ptr i 0) else if t=1 then .c (.ptr j 0) else .dead⟩) { (a1.put (some td1) cl) with defers:={ target:=.fn (.func f0) #[.pointer (some ⟨b1,0,none⟩),.pointer (some ⟨b2,0,none⟩)],args:=#[] }::(a1.put (some td1) cl).defers } w1 [] F1 γ1:=by
  refine⟨hip.n,?_,hip.step,hip.mem,hip.sl,hip.hg,λt=>?_⟩
  ·show _::(a1.put (some td1) cl).defers=D
   rw[show(a1.put (some td1) cl).defers=a1.defers from rfl,hi.df]
  ·show aE P w1 F1 (ap s.mem γ1) (if t=0 then .c (.ptr i 0) else if t=1 then .c (.ptr j 0) else .dead) (if t=0 then .pointer (some ⟨b1,0,none⟩) else .pointer (some ⟨b2,0,none⟩))
   by_cases ht0:t=0
   ·rw[if_pos ht0,if_pos ht0]
    exact⟨rfl,b1,hR1,rfl⟩
   ·rw[if_neg ht0,if_neg ht0]
    by_cases ht1':t=1
    ·rw[if_pos ht1']
     exact⟨rfl,b2,hR2,rfl⟩
    ·rw[if_neg ht1']
     trivial
 have hwp:=hR E2 _ _ ht2 _ (ub hr' hok) _ _ ⟨F1,γ1,hi'⟩
 refine wp_mono hwp ?_
 rintro e a2 w2 ⟨xe,s2,rfl,⟨F2,γ2,hi2⟩,hx⟩
 have hinv:∀ W,(invoke (.fn (.func f0) #[.pointer (some ⟨b1,0,none⟩),.pointer (some ⟨b2,0,none⟩)]) #[]).run P W = .ok (.enter f0 #[.pointer (some ⟨b1,0,none⟩),.pointer (some ⟨b2,0,none⟩)]) W:=λW=>by
  have:=hT.enter #[.pointer (some ⟨b1,0,none⟩),.pointer (some ⟨b2,0,none⟩)] W
  simp[invoke,this]
 have hdf:a2.defers=[{ target:=.fn (.func f0) #[.pointer (some ⟨b1,0,none⟩),.pointer (some ⟨b2,0,none⟩)],args:=#[] }]:=hi2.df
 have hfin:(∃ n,dh P fn.results.toList rs s2=some (Fr.needL n (.val (fr xs).get))/\av n)->Leaves P fn a2.tmps (fJ w F rs (fr xs).get) a2.defers .returning w2:=by
  rintro⟨n,hend,hn⟩
  rw[hdf]
  refine ue9 (by simp) (hinv w2) ((hT.idle _ _ w2).mono ?_)
  rintro e u' w' ⟨⟨v,rfl⟩,rfl,rfl⟩
  exact tP hi2 rfl hend hn
 cases xe with
 |normal=>exact hfin hx
 |ret=>exact hfin hx
 |exit _=>exact hx.elim
 |val _=>exact hx.elim
 |jump _=>exact hx.elim
 |panic p=>
  obtain⟨s',n,hs',hin,hend,hn⟩:=hx
  obtain⟨hty,hk,c1,c2,t1,t2,o1,o2,hG1,hG2,hne,hh1,hs1,hh2,hs2,hi3⟩:=zb1 hi2 hs' hin
  have hG1':(Value.pointer (some ⟨b1,0,none⟩)) = .pointer (some ⟨c1,0,none⟩):=hG1
  have hG2':(Value.pointer (some ⟨b2,0,none⟩)) = .pointer (some ⟨c2,0,none⟩):=hG2
  simp at hG1' hG2'
  subst hG1'
  subst hG2'
  show Leaves P fn a2.tmps _ a2.defers (.panicking [{ v:=p.val,recovered:=false }]) w2
  rw[WF hty,hdf,hk]
  refine ue9 (by simp) (hinv w2) ((hT.told b1 b2 t1 t2 o1 o2 p.n w2 hne hh1 hs1 hh2 hs2).mono ?_)
  rintro e u' w' ⟨⟨v,rfl⟩,rfl,hsw⟩
  exact tP (qoh hi3 hsw) rfl hend hn
end
section
variable {P:Program} {w w':World} {F:Nat->Prop}
def D7 (w:World) (dT sT ty elem:TypeId) (k g o dLen dCap:Nat) (a:Addr) (sLen sCap:Nat) (cs:List Value) (cur:Array Value) (t:TypeId)
  (hu:P.underlying dT=some (.slice elem)) (hs:(P.info? elem).map (·.size)=some k) (hn:cs.length=Nat.min sLen dLen*k)
  (hsrc:∀ j v,cs[j]? = some v->w.cell? (a.add j)=some v) (hg:w.heap[g]? = some (.cells cur t (0,0))) (hfit:o+cs.length<=cur.size) (h1:∀ v∈cs,v.oneCell'=true) :
  (Builtin.copy_ #[dT,sT] ty #[.slice (some ⟨g,o,none⟩) dLen dCap,.slice (some a) sLen sCap]).run P w = .ok (goInt (Nat.min sLen dLen)) (w.setRow g (cur.toList.take o++cs++cur.toList.drop (o+cs.length)).toArray):=by
 have hl:=run_loadCells_list (P:=P) w a cs hsrc;have hst:=run_storeCells_at P g o t cs 0 cur w hg (by simpa using hfit) h1;cases hq:P.info? elem with
 |none=>simp[hq] at hs
 |some i=>
  have hi:i.size=k:=by simpa[hq] using hs
  simp[Builtin.copy_,ud1 hu,Builtin.lenOf,Builtin.firstCells,sizeOf,typeInfo,hq,hi,<- hn,hl,hst]
def qym (l m:List α) (p q:Nat) (h:p<=q) (hq:q<=l.length):(l.take q++m).take p=l.take p:=by
 rw[List.take_append_of_le_length (by simp; omega),ud4,udl h]
def qob (cur xs news:List α) (q p k:Nat) (hx:cur.take q=xs) (hl:q+k<=cur.length) (hp:p<=q) (hn:news.length=k) (C1 C2:List α)
  (h1:C1=cur.take (p+k)++xs.drop p++cur.drop (p+k+(xs.drop p).length)) (h2:C2=C1.take p++news++C1.drop (p+news.length)) :
  C1.length=cur.length/\C2.length=cur.length/\C2.take (q+k)=xs.take p++news++xs.drop p:=by
 have hxl:xs.length=q:=by rw[<- hx,uc2]; omega
 have hc1:C1.length=cur.length:=by rw[h1]; simp; omega
 have e1:C1.take p=xs.take p:=by
  rw[h1,ucp,qym cur _ p (p+k) (by omega) (by omega),<- hx,ud4,udl hp]
 have e2:C1.drop (p+k)=xs.drop p++cur.drop (p+k+(xs.drop p).length):=by
  rw[h1,ucp];exact udw (by rw[uc2]; omega)
 rw[hn,e1,e2] at h2;refine⟨hc1,?_,?_⟩
 ·rw[h2]; simp; omega
 ·rw[h2,<- ucp];exact udv (by simp; omega)
def qoa (row xs news:List α) (q p k:Nat) (hxl:xs.length=q) (hp:p<=q) (hx:row.take p=xs.take p) (hl:q+k<=row.length) (hn:news.length=k) (C1 C2:List α)
  (h1:C1=row.take p++news++row.drop (p+news.length)) (h2:C2=C1.take (p+k)++xs.drop p++C1.drop (p+k+(xs.drop p).length)) :
  C1.length=row.length/\C2.length=row.length/\C2.take (q+k)=xs.take p++news++xs.drop p:=by
 have hc1:C1.length=row.length:=by rw[h1]; simp; omega
 have e1:C1.take (p+k)=xs.take p++news:=by
  rw[h1,hx];exact udv (by simp; omega)
 have hc2:C2.length=row.length:=by rw[h2]; simp; omega
 refine⟨hc1,hc2,?_⟩;rw[h2,e1];exact udv (by simp; omega)
end
def W8 (w:World) {a:Act} {K:Act->World->Prop} {Q:Exit->Act->World->Prop} (d s:Operand) (t t':TypeId)
  (ho:o.op = .call { callee:=.builtin .copy,args:=#[d,s],argTypes:=#[t,t'] }) (v u:Value) (hd:a.eval d=v) (hs:a.eval s=u) {v':Value} {w':World}
  (hr:(Builtin.copy_ #[t,t'] o.type #[v,u]).run P w = .ok v' w') (h:K (a.put o.dst v') w'):o.wp P a w K Q:=by
 unfold Oper.wp execOp;simp only[ho,resolve,invoke,builtin,ueo,ueq,uck,List.map_toArray,ueg,List.map_nil,hd,hs,hr];exact h
def nI (w:World) {ops:Array Oper} {rest:List Oper} {a:Act} {Q:Exit->Act->World->Prop} (hgd:o.guard=none) (d s:Operand) (t t':TypeId)
  (ho:o.op = .call { callee:=.builtin .copy,args:=#[d,s],argTypes:=#[t,t'] }) (v u:Value) (hd:a.eval d=v) (hs:a.eval s=u) {v':Value} {w':World}
  (hr:(Builtin.copy_ #[t,t'] o.type #[v,u]).run P w = .ok v' w') (h:wpList P ops Q rest (a.put o.dst v') w'):wpList P ops Q (o::rest) a w:=
 wpList_plain hgd λ_ hK=>W8 w d s t t' ho v u hd hs hr (hK _ _ h)
def vX {ops:Array Oper} {a:Act} {K:Act->World->Prop} {Q:Exit->Act->World->Prop} {E:Prop}
  (hg:o.guard=none) (d x:Operand) (dT sT:TypeId) (hop:o.op=Op.call { callee:=Callee.builtin Builtin.copy,args:=#[d,x],argTypes:=#[dT,sT] })
  (v u:Value) (hd:a.eval d=v) (hx:a.eval x=u) {v':Value} {w':World} (hr:(Builtin.copy_ #[dT,sT] o.type #[v,u]).run P w = .ok v' w') (hK:K (a.put o.dst v') w') :
  if Region.wanted o (yielded ops a.tmps)=true then Oper.wp P o a w K Q else E:=by
 have hw:Region.wanted o (yielded ops a.tmps)=true:=by simp[Region.wanted,hg]
 rw[if_pos hw];exact W8 w d x dT sT hop v u hd hx hr hK
def xk {g q:Nat} (hg:w.heap[g]? = some (.cells cur t (0,0))) (ht:cur.toList.take q=xs) (hj:xs[j]? = some v):w.cell? ⟨g,j,none⟩=some v:=by
 rw[cell_of_row w g j cur t (0,0) hg];rw[<- ht,ub0] at hj;split at hj
 ·simpa using hj
 ·cases hj
section
open Go.Lib
section
variable {P:Program} {ts te tn:TypeId} {i0:TypeInfo} {z:Value} {q by_:Nat} {f:FuncId}
structure InsTy (P:Program) (ts te tn:TypeId) (i0:TypeInfo) (z:Value) (q by_:Nat):Prop where
 us:P.underlying ts=some (.slice te)
 un:P.underlying tn=some (.int .i64)
 hi:P.info? te=some i0
 hz:i0.zero=some z
 hq:i0.size=q
 hb:i0.bytes=by_
 hc:z.cells.size=q
 h0:0<q
def InsTy.sz (T:InsTy P ts te tn i0 z q by_):(P.info? te).map (·.size)=some q:=by rw[T.hi]; simp[T.hq]
def zV (P:Program) (f:FuncId) (te:TypeId) (q by_:Nat):Prop:=
 ∀ (w:World) (B n:Nat) (s v:Value) (xs news:List Value),B<=w.heap.size->w.ownsRow B te q s n xs->w.ownsRow B te q v 1 news->(∀ u∈news,u.oneCell'=true)->n+1<=maxLen->(n+1)*by_<=140737488355328 ->
  Calls P f #[s,.int .i64 n,v] w λen w'=>∃ v',en = .returned v'/\w.grownBy w' s.ownBlock/\w'.ownsRow B te q v' (n+1) (xs++news)/\(v'.ownBlock=s.ownBlock\/v'.ownBlock=some w.heap.size)
def zX (P:Program) (f:FuncId) (te:TypeId) (q:Nat):Prop:=
 ∀ (w:World) (n i g cap vb vc:Nat) (cur:Array Value) (xs news:List Value),i<n->w.heap[g]? = some (.cells cur te (0,0))->cur.size=cap*q->n+1<=cap->cap<=maxLen->cur.toList.take (n*q)=xs ->
  ∀ (vcur:Array Value),w.heap[vb]? = some (.cells vcur te (0,0))->vb≠g->news.length=q->vcur.toList.take q=news->1<=vc->vcur.size=vc*q->(∀ u∈xs,u.oneCell'=true)->(∀ u∈news,u.oneCell'=true) ->
  Calls P f #[.slice (some ⟨g,0,none⟩) n cap,.int .i64 i,.slice (some ⟨vb,0,none⟩) 1 vc] w λen w'=>∃ cur',en = .returned (.slice (some ⟨g,0,none⟩) (n+1) cap)/\w'=w.drew.setRow g cur'/\cur'.size=cur.size/\cur'.toList.take ((n+1)*q)=xs.take (i*q)++news++xs.drop (i*q)
def zW (P:Program) (f:FuncId) (te:TypeId) (q by_:Nat):Prop:=
 ∀ (w:World) (n i g cap vb vc:Nat) (cur:Array Value) (xs news:List Value),i<n->w.heap[g]? = some (.cells cur te (0,0))->cur.size=cap*q->n<=cap->cap<n+1->cur.toList.take (n*q)=xs ->
  ∀ (vcur:Array Value),w.heap[vb]? = some (.cells vcur te (0,0))->news.length=q->vcur.toList.take q=news->(∀ u∈xs,u.oneCell'=true)->(∀ u∈news,u.oneCell'=true)->n+1<=maxLen->(n+1)*by_<=140737488355328 ->
  Calls P f #[.slice (some ⟨g,0,none⟩) n cap,.int .i64 i,.slice (some ⟨vb,0,none⟩) 1 vc] w λen w'=>∃ G C,en = .returned (.slice (some ⟨w.heap.size,0,none⟩) (n+1) G)/\w.grownBy w' none/\w'.heap[w.heap.size]? = some (.cells C te (0,0))/\n+1<=G/\G<=maxLen/\C.size=G*q /\
   C.toList.take ((n+1)*q)=xs.take (i*q)++news++xs.drop (i*q)
def TK {q:Nat} (hv:w.ownsRow B te q v 1 news):∃ g cap cur,v = .slice (some ⟨g,0,none⟩) 1 cap/\B<=g/\w.heap[g]? = some (.cells cur te (0,0))/\1<=cap/\cap<=maxLen/\cur.size=cap*q/\cur.toList.take (1*q)=news:=by
 rcases hv.2 with ⟨_,h0⟩|h'
 ·exact absurd h0 (by omega)
 ·exact h'
def IY {T:Ty} (hen:∀ args w,(callFunc f args).run P w = .ok (.enter f args) w) (he:zV P f te T.size by_) (hg:zW P f te T.size by_) (hs':zX P f te T.size):InsOK P f te T by_:=by
 refine⟨hen,λw B n i s v xs news hB hs hv hne hi h1x h1 h63 hby=>?_⟩;rcases uel i n with hin|hin
 ·obtain⟨vb,vc,vcur,rfl,hvb,hvg,hv1,hv2,hv3,hv4⟩:=TK hv;have hnl:news.length=T.size:=by have:=hv.1; omega
  rw[Nat.one_mul] at hv4;rcases hs.2 with ⟨rfl,h0⟩|⟨g,cap,cur,rfl,hbg,hgg,hnc,hcm,hcs,htake⟩
  ·omega
  ·have hne':vb≠g:=λe=>hne vb rfl (by rw[e]; rfl);rcases uel cap (n+1) with hr|hr
   ·refine(hg w n i g cap vb vc cur xs news hin hgg hcs hnc hr htake vcur hvg hnl hv4 h1x h1 h63 hby).mono λen w' hp=>?_;obtain⟨G,C,rfl,hgr,hh,a1,a2,a3,a4⟩:=hp;refine⟨_,rfl,⟨hgr.os,hgr.tape,hgr.output,hgr.size,λk hk _=>hgr.block k hk (by simp)⟩,⟨?_,.inr ⟨_,_,_,rfl,hB,hh,a1,a2,a3,a4⟩⟩,.inr rfl⟩;rw[<- a4,uc2,ubs,a3];exact udl (ubc _ a1)
   ·refine(hs' w n i g cap vb vc cur xs news hin hgg hcs hr hcm htake vcur hvg hne' hnl hv4 hv1 hv3 h1x h1).mono λen w' hp=>?_;obtain⟨cur',rfl,rfl,a3,a4⟩:=hp;have a5:=a3.trans hcs;refine⟨_,rfl,⟨rfl,rfl,rfl,by simp,λk _ hk=>uev w.drew g k _ (λe=>hk (by simp[Value.ownBlock,e]))⟩,⟨?_,.inr ⟨g,cap,cur',rfl,hbg,ue7 w.drew g cur cur' _ _ hgg,hr,hcm,a5,a4⟩⟩,.inl rfl⟩;rw[<- a4,uc2,ubs,a5];exact udl (ubc _ hr)
 ·have e:i=n:=by omega
  subst e;refine(he w B i s v xs news hB hs hv h1 h63 hby).mono λen w' hp=>?_;obtain⟨v',rfl,a1,a2,a3⟩:=hp;refine⟨v',rfl,a1,?_,a3⟩;have hx:=hs.1;rw[ua2 (by omega),ua1 (by omega),udn];exact a2
def RN {cap q:Nat} (hcs:cur.size=cap*q) (hnc:n<=cap) (htake:cur.toList.take (n*q)=xs):xs.length=n*q:=by
 rw[<- htake,uc2,ubs,hcs];exact udl (ubc _ hnc)
def InsTy.shift (T:InsTy P ts te tn i0 z q by_) {g cap vb vc:Nat} (hi:i<n) (hg:w.heap[g]? = some (.cells cur te (0,0))) (hcs:cur.size=cap*q) (hroom:n+1<=cap) (htake:cur.toList.take (n*q)=xs)
  {vcur:Array Value} (hvg:w.heap[vb]? = some (.cells vcur te (0,0))) (hne:vb≠g) (hnl:news.length=q) (hvt:vcur.toList.take q=news) (h1x:∀ u∈xs,u.oneCell'=true) (h1:∀ u∈news,u.oneCell'=true) :
  ∃ C1 C2:Array Value,(∀ ty dc sc,(Builtin.copy_ #[ts,ts] ty #[.slice (some ⟨g,(i+1)*q,none⟩) (n-i) dc,.slice (some ⟨g,i*q,none⟩) (n+1-i) sc]).run P w.drew = .ok (goInt (Nat.min (n+1-i) (n-i))) (w.drew.setRow g C1)) /\
   (∀ ty dc,(Builtin.copy_ #[ts,ts] ty #[.slice (some ⟨g,i*q,none⟩) (n+1-i) dc,.slice (some ⟨vb,0,none⟩) 1 vc]).run P (w.drew.setRow g C1) = .ok (goInt (Nat.min 1 (n+1-i))) (w.drew.setRow g C2)) /\
   C2.size=cur.size/\C2.toList.take ((n+1)*q)=xs.take (i*q)++news++xs.drop (i*q):=by
 have e1:(i+1)*q=i*q+q:=ues _ _;have e2:(n+1)*q=n*q+q:=ues _ _;have e3:(n-i)*q=n*q-i*q:=Nat.sub_mul _ _ _;have m1:(i+1)*q<=n*q:=ubc _ hi;have m2:(n+1)*q<=cap*q:=ubc _ hroom;have hxl:=RN hcs (by omega) htake;have hdl:(xs.drop (i*q)).length=(n-i)*q:=by rw[uc3,hxl]; omega
 obtain⟨C1,hC1⟩:∃ C1:Array Value,C1=(cur.toList.take ((i+1)*q)++xs.drop (i*q)++cur.toList.drop ((i+1)*q+(xs.drop (i*q)).length)).toArray:=⟨_,rfl⟩;obtain⟨C2,hC2⟩:∃ C2:Array Value,C2=(C1.toList.take (i*q)++news++C1.toList.drop (i*q+news.length)).toArray:=⟨_,rfl⟩;obtain⟨k1,k2,k3⟩:=qob cur.toList xs news (n*q) (i*q) q htake (by simp; omega) (by omega) hnl C1.toList C2.toList (by rw[hC1]; simp only[e1]) (by rw[hC2]);refine⟨C1,C2,λty dc sc=>?_,λty dc=>?_,by rw[<- ubs,k2,ubs],by rw[e2]; exact k3⟩
 ·rw[hC1];exact D7 w.drew _ _ ty te q g ((i+1)*q) (n-i) dc ⟨g,i*q,none⟩ (n+1-i) sc (xs.drop (i*q)) cur te T.us T.sz (by rw[hdl,show Nat.min (n+1-i) (n-i)=n-i from Nat.min_eq_right (by omega)])
   (λj v hj=>by rw[ue2]; exact xk hg htake (by rwa [ubz] at hj)) hg (by rw[hdl]; omega) (λv hv=>h1x v (ubp hv))
 ·rw[hC2];have h:=D7 (w.drew.setRow g C1) ts ts ty te q g (i*q) (n+1-i) dc ⟨vb,0,none⟩ 1 vc news C1 te T.us T.sz (by rw[hnl,show Nat.min 1 (n+1-i)=1 from udl (by omega),Nat.one_mul])
   (λj v hj=>by
    rw[ue2,uet];exact xk ((uev w.drew g vb C1 hne).trans hvg) hvt hj) (ue7 w.drew g cur C1 _ _ hg) (by rw[hnl,<- ubs,k1,ubs]; omega) h1
  rw[setRow_setRow] at h;exact h
def InsTy.grow (T:InsTy P ts te tn i0 z q by_) {g cap vb vc:Nat} (hi:i<n) (hg:w.heap[g]? = some (.cells cur te (0,0))) (hcs:cur.size=cap*q) (hnc:n<=cap) (hroom:cap<n+1) (htake:cur.toList.take (n*q)=xs)
  {vcur:Array Value} (hvg:w.heap[vb]? = some (.cells vcur te (0,0))) (hnl:news.length=q) (hvt:vcur.toList.take q=news) (h1x:∀ u∈xs,u.oneCell'=true) (h1:∀ u∈news,u.oneCell'=true) (h63:n+1<=maxLen) (hby:(n+1)*by_<=140737488355328) :
  ∃ (G:Nat) (ROW C1 C2:Array Value),(∀ ty,(Builtin.append_ #[ts,tn] ty #[.slice (some ⟨g,0,none⟩) i cap,.int .i64 ((n:Int)+1-(i:Int))]).run P w = .ok (.slice (some ⟨w.heap.size,0,none⟩) (n+1) G) (w.drew.alloc (.cells ROW te))) /\
   (∀ ty dc,(Builtin.copy_ #[ts,ts] ty #[.slice (some ⟨w.heap.size,i*q,none⟩) (n+1-i) dc,.slice (some ⟨vb,0,none⟩) 1 vc]).run P (w.alloc (.cells ROW te)).drew = .ok (goInt (Nat.min 1 (n+1-i))) ((w.alloc (.cells ROW te)).drew.setRow w.heap.size C1)) /\
   (∀ ty dc sc,(Builtin.copy_ #[ts,ts] ty #[.slice (some ⟨w.heap.size,(i+1)*q,none⟩) (n-i) dc,.slice (some ⟨g,i*q,none⟩) (n-i) sc]).run P ((w.alloc (.cells ROW te)).drew.setRow w.heap.size C1).drew = .ok (goInt (Nat.min (n-i) (n-i))) (((w.alloc (.cells ROW te)).drew.setRow w.heap.size C1).drew.setRow w.heap.size C2)) /\
   n+1<=G/\G<=maxLen/\w.grownBy (((w.alloc (.cells ROW te)).drew.setRow w.heap.size C1).drew.setRow w.heap.size C2) none/\(((w.alloc (.cells ROW te)).drew.setRow w.heap.size C1).drew.setRow w.heap.size C2).heap[w.heap.size]? = some (.cells C2 te (0,0)) /\
   C2.size=G*q/\C2.toList.take ((n+1)*q)=xs.take (i*q)++news++xs.drop (i*q):=by
 have h63':n+1<=9223372036854775807:=by unfold maxLen at h63; omega
 have e1:(i+1)*q=i*q+q:=ues _ _;have e2:(n+1)*q=n*q+q:=ues _ _;have e3:(n-i)*q=n*q-i*q:=Nat.sub_mul _ _ _;have m1:(i+1)*q<=n*q:=ubc _ hi;have hxl:=RN hcs hnc htake;have hdl:(xs.drop (i*q)).length=(n-i)*q:=by rw[uc3,hxl]; omega
 have hgw:=(uaf.1 hg).1;have hvw:=(uaf.1 hvg).1;have hkk:(n:Int)+1-(i:Int)=((n+1-i:Nat):Int):=by omega
 have hik:i+(n+1-i)=n+1:=by omega
 have hold:(Builtin.firstCells i0.size i (.slice (some ⟨g,0,none⟩) i cap)).run P w.drew = .ok (xs.take (i*q)).toArray w.drew:=by
  rw[T.hq];exact run_firstCells_some w.drew q i ⟨g,0,none⟩ i cap (xs.take (i*q)) (by rw[uc2]; omega) (λj v hj=>by
   rw[ue2,uet];rw[ub0] at hj;split at hj
   ·exact xk hg htake hj
   ·cases hj)
 obtain⟨G,hG⟩:∃ G,G=grownCap w (n+1) cap te:=⟨_,rfl⟩;have hGn:n+1<=G:=by rw[hG]; exact grownCap_ge w _ _ _
 have hGm:G<=maxLen:=by rw[hG]; exact ub5 w _ _ _ h63
 have m3:(n+1)*q<=G*q:=ubc _ hGn;obtain⟨ROW,hROW⟩:∃ ROW:Array Value,ROW=(xs.take (i*q)).toArray++Builtin.zeroCells z.cells (n+1-i)++Builtin.zeroCells z.cells (G-(n+1)):=⟨_,rfl⟩;have hrz:∀ ty,(Builtin.append_ #[ts,tn] ty #[.slice (some ⟨g,0,none⟩) i cap,.int .i64 ((n:Int)+1-(i:Int))]).run P w =
   .ok (.slice (some ⟨w.heap.size,0,none⟩) (n+1) G) (w.drew.alloc (.cells ROW te)):=λty=>by
  have h:=Lib.run_append_grow_zeros w ts tn ty te i0 _ .i64 .i64 T.us T.un T.hi T.hz (some ⟨g,0,none⟩) i cap (xs.take (i*q)) hold (n+1-i) (by omega) (by have:=T.h0; have:=T.hq; omega) (by omega) (by omega) (by
   rw[T.hb];have:(n+1-i)*by_<=(n+1)*by_:=ubc _ (by omega);omega) (by rw[T.hb,hik]; exact growslice_fits hroom hby)
  rw[hik,<- hG,<- hROW] at h;rw[hkk];exact h
 have e4:(n+1-i)*q=(n+1)*q-i*q:=Nat.sub_mul _ _ _;have e5:(G-(n+1))*q=G*q-(n+1)*q:=Nat.sub_mul _ _ _;have hRs:ROW.size=G*q:=by
  rw[hROW];simp only[ucn,uco,size_zeroCells,T.hc,uc2];omega
 have hRt:ROW.toList.take (i*q)=xs.take (i*q):=by
  rw[hROW,Array.toList_append,Array.toList_append,ucp];exact udv (by rw[uc2]; omega)
 obtain⟨C1,hC1⟩:∃ C1:Array Value,C1=(ROW.toList.take (i*q)++news++ROW.toList.drop (i*q+news.length)).toArray:=⟨_,rfl⟩;obtain⟨C2,hC2⟩:∃ C2:Array Value,C2=(C1.toList.take ((i+1)*q)++xs.drop (i*q)++C1.toList.drop ((i+1)*q+(xs.drop (i*q)).length)).toArray:=⟨_,rfl⟩;obtain⟨k1,k2,k3⟩:=qoa ROW.toList xs news (n*q) (i*q) q hxl (by omega) hRt (by rw[ubs]; omega) hnl C1.toList C2.toList (by rw[hC1]) (by rw[hC2]; simp only[e1]);have hnew:(w.drew.alloc (.cells ROW te)).heap[w.heap.size]? = some (.cells ROW te (0,0)):=ud3 w.drew _;refine⟨G,ROW,C1,C2,hrz,λty dc=>?_,λty dc sc=>?_,hGn,hGm,⟨rfl,rfl,rfl,?_,λk hk _=>?_⟩,?_,by rw[<- ubs,k2,ubs,hRs],by rw[e2]; exact k3⟩
 ·rw[hC1];exact D7 _ _ _ ty te q w.heap.size (i*q) (n+1-i) dc ⟨vb,0,none⟩ 1 vc news ROW te T.us T.sz (by rw[hnl,show Nat.min 1 (n+1-i)=1 from udl (by omega),Nat.one_mul])
   (λj v hj=>by
    rw[ue2,uet];exact xk ((nY w.drew _ vb hvw).trans hvg) hvt hj) hnew (by omega) h1
 ·rw[hC2];exact D7 _ _ _ ty te q w.heap.size ((i+1)*q) (n-i) dc ⟨g,i*q,none⟩ (n-i) sc (xs.drop (i*q)) C1 te T.us T.sz (by rw[hdl,show Nat.min (n-i) (n-i)=n-i from Nat.min_self _])
   (λj v hj=>by
    rw[ue2];exact xk (((uev (w.alloc (.cells ROW te)).drew w.heap.size g C1 (by omega)).trans (nY w.drew _ g hgw)).trans hg) htake (by rwa [ubz] at hj))
   (ue7 (w.alloc (.cells ROW te)).drew w.heap.size ROW C1 _ _ hnew) (by rw[hdl,<- ubs,k1,ubs]; omega) (λv hv=>h1x v (ubp hv))
 ·simp
 ·exact(uev ((w.alloc (.cells ROW te)).drew.setRow w.heap.size C1).drew w.heap.size k C2 (by omega)).trans ((uev (w.alloc (.cells ROW te)).drew w.heap.size k C1 (by omega)).trans (nY w _ k hk))
 ·exact ue7 ((w.alloc (.cells ROW te)).drew.setRow w.heap.size C1).drew w.heap.size C1 C2 _ _ (ue7 (w.alloc (.cells ROW te)).drew w.heap.size ROW C1 _ _ hnew)
def InsTy.fin (T:InsTy P ts te tn i0 z q by_) {s:Value} (hB:B<=w.heap.size) (hs:w.ownsRow B te q s n xs) (hv:w.ownsRow B te q v 1 news) (h1:∀ u∈news,u.oneCell'=true) (h63:n+1<=maxLen) (hby:(n+1)*by_<=140737488355328) :
  ∃ vb vc v' w',v = .slice (some ⟨vb,0,none⟩) 1 vc/\(∀ ty,(Builtin.append_ #[ts,ts] ty #[s,.slice (some ⟨vb,0,none⟩) 1 vc]).run P w = .ok v' w')/\w.grownBy w' s.ownBlock/\w'.ownsRow B te q v' (n+1) (xs++news)/\(v'.ownBlock=s.ownBlock\/v'.ownBlock=some w.heap.size):=by
 obtain⟨vb,vc,vcur,rfl,hvb,hvg,hv1,hv2,hv3,hv4⟩:=TK hv;obtain⟨v',w',hr,e2,e3,e4⟩:=qr ts ts te i0 _ q T.us T.hi T.hz T.hq T.hc T.h0 s n xs hs (some ⟨vb,0,none⟩) 1 vc news (λh=>by cases h) hv.1 (λad e=>by cases e; exact hv.cells rfl) h1 h63 (by rw[T.hb]; exact hby) hB;exact⟨vb,vc,v',w',rfl,λty=>hr,e3,e2,e4⟩
def InsTy.nil (T:InsTy P ts te tn i0 z q by_) (w:World) (A:Option Addr) (n c:Nat):(binOp .eql ts (.slice A n c) (.slice none 0 0)).run P w = .ok (.bool A.isNone) w:=by
 have h1:binOp .eql ts (.slice A n c) (.slice none 0 0)=(do pure (.bool (<- Op.equal ts (.slice A n c) (.slice none 0 0)))):=rfl;have h2:Op.equal ts (.slice A n c) (.slice none 0 0)=Op.equalIn (9999+1) ts (.slice A n c) (.slice none 0 0):=rfl;rw[h1,h2];simp[JJ T.us]
def InsTy.clone (T:InsTy P ts te tn i0 z q by_) (hxl:xs.length=n*q) (hxc:∀ (j:Nat) u,xs[j]? = some u->w.cell? (ad.add j)=some u) (h1:∀ u∈xs,u.oneCell'=true) (h63:n<=maxLen) (hby:n*by_<=140737488355328) :
  ∃ v' w',(∀ ty,(Builtin.append_ #[ts,ts] ty #[.slice (some ⟨w.heap.size,0,none⟩) 0 0,.slice (some ad) n c]).run P (w.alloc (.cells #[] te)) = .ok v' w')/\w.grownBy w' none/\w'.ownsRow w.heap.size te q v' n xs:=by
 have hW:(w.alloc (.cells #[] te)).ownsRow w.heap.size te q (.slice (some ⟨w.heap.size,0,none⟩) 0 0) 0 []:=World.ownsRow_lit w #[] 0 (ue4 _) (by unfold maxLen; omega) (by simp);have hcell:∀ (j:Nat) u,xs[j]? = some u->(w.alloc (.cells #[] te)).cell? (ad.add j)=some u:=λj u hj=>by
  have h:=hxc j u hj;have hb:=block_lt_of_cell h;rw[ubb (nY w _ _ hb)];exact h
 obtain⟨v',w',hr,e2,e3,e4⟩:=qr ts ts te i0 _ q T.us T.hi T.hz T.hq T.hc T.h0 _ 0 [] hW (some ad) n c xs (λh=>by cases h) hxl (λad' e=>by cases e; exact hcell) h1 (by rw[uet]; exact h63) (by rw[T.hb,uet]; exact hby) (by simp);rw[uet,udi] at e2;refine⟨v',w',λty=>hr,⟨e3.os,e3.tape,e3.output,uek (by simp) e3.size,λk hk _=>(e3.block k (by simp; omega) (λe=>?_)).trans (nY w _ k hk)⟩,e2⟩;have:k=w.heap.size:=by simpa[Value.ownBlock] using e
 omega
def ul (hi:i<n) (hn:n<=9223372036854775806):¬ ((i:Int)=(n:Int))/\I6.wrap ((i:Int)+(1:Int))=(i:Int)+(1:Int)/\(0:Int)<=(i:Int)+(1:Int)/\((i:Int)+(1:Int)).toNat=i+1/\i<=n/\(i:Int)<=(n:Int)/\(i:Int)<=(n:Int)+(1:Int):=
 ⟨by omega,by rw[udc]; omega,by omega,by omega,by omega,by omega,by omega⟩
end
end
def da (step:Int->T->σ->Fr (σ ⊕ ρ)):Int->List T->σ->σ ⊕ ρ
 |_,[],s=>.inl s
 |i,x::r,s=>match (step i x s).get with
  |.inl s'=>da step (i+1) r s'
  |.inr y=>.inr y
def eJ (step:Int->T->σ->Fr (σ ⊕ ρ)):Int->List T->σ->Prop
 |_,[],_=>True
 |i,x::r,s=>(step i x s).ok/\match (step i x s).get with
  |.inl s'=>eJ step (i+1) r s'
  |.inr _=>True
def bO (step:Int->T->σ->Fr σ):Int->List T->σ->σ
 |_,[],s=>s
 |i,x::r,s=>bO step (i+1) r (step i x s).get
def bM (step:Int->T->σ->Fr σ):Int->List T->σ->Prop
 |_,[],_=>True
 |i,x::r,s=>(step i x s).ok/\bM step (i+1) r (step i x s).get
section
variable {P:Program} {c:Code} {L Eo R:LS} {n id:Nat} {κ T σ ρ:Type}
structure InK (n i:Int) (l:Nat):Prop where
 n:n=(l:Int)
 lo:0<=i
 hi:0<=(l:Int)
 big:(l:Int)<=9223372036854775807
def FK (un:L.X->Int×κ×σ) (nf:κ->Int) (lf:κ->List T) (step:κ->Prop->Int->T->σ->Fr (σ ⊕ ρ)) (ca:κ->σ->Eo.X) (outR:κ->ρ->Rd Empty Eo.X R.X) (d:σ) (d2:ρ) (x:L.X):Fr (Rd L.X Eo.X R.X):=
 Fr.need (InK (nf (un x).2.1) (un x).1 (lf (un x).2.1).length) (Fr.need (eJ (step (un x).2.1 True) (un x).1 ((lf (un x).2.1).drop (un x).1.toNat) (un x).2.2)
  (Fr.br (dF (da (step (un x).2.1 True) (un x).1 ((lf (un x).2.1).drop (un x).1.toNat) (un x).2.2)) (Fr.val (Rd.out (ca (un x).2.1 (dO d (da (step (un x).2.1 True) (un x).1 ((lf (un x).2.1).drop (un x).1.toNat) (un x).2.2)))))
   (Fr.val (Rd.up (outR (un x).2.1 (zej d2 (da (step (un x).2.1 True) (un x).1 ((lf (un x).2.1).drop (un x).1.toNat) (un x).2.2)))))))
def yu (mk:Int->κ->σ->L.X) (outR:κ->ρ->Rd Empty Eo.X R.X) (i:Int) (k:κ):σ ⊕ ρ->Rd L.X Eo.X R.X
 |.inl s=>.next (mk (I6.wrap (i+1)) k s)
 |.inr y=>Rd.up (outR k y)
def lm {C:Cx} (hC:CxOK P C) {Λ:Nat->St->Option Tr} (mk:Int->κ->σ->L.X) {un:L.X->Int×κ×σ} {nf:κ->Int} {lf:κ->List T} (dT:T) {step:κ->Prop->Int->T->σ->Fr (σ ⊕ ρ)} {ca:κ->σ->Eo.X} {outR:κ->ρ->Rd Empty Eo.X R.X} {d:σ} {d2:ρ}
  (hΛ:∀ E,bP P E Λ c 0:=by exact λ_=>aY _ 0)
  (hr:∀ i k s,nB P C 0 Λ c L ⟨n,id,L,Eo,R⟩ (mk i k s)=some (Fr.br (decide (i<nf k)) ((step k (0<=i/\i<((lf k).length:Int)) i ((lf k).getD i.toNat dT) s).mapR (yu mk outR i k)) (Fr.val (Rd.out (ca k s)))):=by intro i k s; kernel_rfl)
  (hun:∀ x,mk (un x).1 (un x).2.1 (un x).2.2=x:=by intro _; rfl) (hmk:∀ i k s,un (mk i k s)=(i,k,s):=by intro _ _ _; rfl)
  (hM:L.low=true:=by rfl) (hE:Eo.low=true:=by rfl) (hR:R.low=true:=by rfl) :
  ae P (.loop c) L ⟨n,id,L,Eo,R⟩ (FK un nf lf step ca outR d d2):=by
 have hs:ae P c L ⟨n,id,L,Eo,R⟩ (λx=>Fr.br (decide ((un x).1<nf (un x).2.1)) ((step (un x).2.1 (0<=(un x).1/\(un x).1<((lf (un x).2.1).length:Int)) (un x).1 ((lf (un x).2.1).getD (un x).1.toNat dT) (un x).2.2).mapR (yu mk outR (un x).1 (un x).2.1)) (Fr.val (Rd.out (ca (un x).2.1 (un x).2.2)))):=
  ae.of_run hC (bs:=0) (Λ:=Λ) hM hE hR hΛ λx=>by
   have h:=hr (un x).1 (un x).2.1 (un x).2.2
   rwa [hun] at h
 refine ae.loop (n:=n) (id:=id) hs (inv:=λx=>InK (nf (un x).2.1) (un x).1 (lf (un x).2.1).length) (μ:=λx=>(((lf (un x).2.1).length:Int)-(un x).1).toNat) ?_ (λx Q hq=>hq.1);intro x hx Q hq;obtain⟨_,hok,hq1,hq2⟩:=hq;generalize hu:un x=u at *;obtain⟨i,k,s⟩:=u;dsimp only at hx hok hq1 hq2 |-;have hn:=hx.n;have hlo:=hx.lo;have hbig:=hx.big;refine⟨λhc=>?_,λhc=>?_⟩
 ·have hi:i<((lf k).length:Int):=by rw[<- hn]; exact ucv hc
  have hl:i.toNat<(lf k).length:=by omega
  have hb:(0<=i/\i<((lf k).length:Int))=True:=eq_true ⟨hlo,hi⟩;have e1:(lf k).drop i.toNat=(lf k)[i.toNat]::(lf k).drop (i.toNat+1):=ual hl;have hd:(lf k).getD i.toNat dT=(lf k)[i.toNat]:=by rw[uah,uap hl]; rfl
  have hw:I6.wrap (i+1)=i+1:=IntWalk.i64_in _ (by omega);rw[e1] at hok hq1 hq2;rw[hb,hd];generalize (lf k)[i.toNat]=e at hok hq1 hq2 |-;refine su (nL hok.1 ?_);have hok2:=hok.2;simp only[da] at hq1 hq2;cases hg:(step k True i e s).get with
  |inl s'=>
   simp only[hg] at hok2 hq1 hq2;show InK _ _ _/\_<_/\(FK un nf lf step ca outR d d2 (mk (I6.wrap (i+1)) k s')).satP Q;rw[hw];unfold FK;rw[hmk];have hin:InK (nf k) (i+1) (lf k).length:=⟨hn,by omega,by omega,hbig⟩;have hnt:(i+1).toNat=i.toNat+1:=by omega
   refine⟨hin,by dsimp only; omega,hin,?_⟩;dsimp only;rw[hnt];exact⟨hok2,hq1,hq2⟩
  |inr y=>
   simp only[hg] at hq1 hq2;have:=hq2 rfl;simp only[zej] at this;cases ho:outR k y with
   |next x=>exact nomatch x
   |out y2=>rw[ho] at this; simp only[yu,ho,Rd.up]; exact this
   |back z=>rw[ho] at this; simp only[yu,ho,Rd.up]; exact this
   |pan p=>rw[ho] at this; simp only[yu,ho,Rd.up]; exact this
 ·have hi:¬ i<((lf k).length:Int):=by rw[<- hn]; exact ucf hc
  have hl:(lf k).drop i.toNat=[]:=ua1 (by omega);rw[hl] at hq1;exact hq1 rfl
def FG (un:L.X->Int×κ×σ) (nf:κ->Int) (lf:κ->List T) (step:κ->Prop->Int->T->σ->Fr σ) (ca:κ->σ->Eo.X) (x:L.X):Fr (Rd L.X Eo.X R.X):=
 Fr.need (InK (nf (un x).2.1) (un x).1 (lf (un x).2.1).length) (Fr.need (bM (step (un x).2.1 True) (un x).1 ((lf (un x).2.1).drop (un x).1.toNat) (un x).2.2)
  (Fr.val (Rd.out (ca (un x).2.1 (bO (step (un x).2.1 True) (un x).1 ((lf (un x).2.1).drop (un x).1.toNat) (un x).2.2)))))
def cN {C:Cx} (hC:CxOK P C) {Λ:Nat->St->Option Tr} (mk:Int->κ->σ->L.X) {un:L.X->Int×κ×σ} {nf:κ->Int} {lf:κ->List T} (dT:T) {step:κ->Prop->Int->T->σ->Fr σ} {ca:κ->σ->Eo.X}
  (hΛ:∀ E,bP P E Λ c 0:=by exact λ_=>aY _ 0)
  (hr:∀ i k s,nB P C 0 Λ c L ⟨n,id,L,Eo,R⟩ (mk i k s)=some (Fr.br (decide (i<nf k)) ((step k (0<=i/\i<((lf k).length:Int)) i ((lf k).getD i.toNat dT) s).mapR (λs=>Rd.next (mk (I6.wrap (i+1)) k s))) (Fr.val (Rd.out (ca k s)))):=by intro i k s; kernel_rfl)
  (hun:∀ x,mk (un x).1 (un x).2.1 (un x).2.2=x:=by intro _; rfl) (hmk:∀ i k s,un (mk i k s)=(i,k,s):=by intro _ _ _; rfl)
  (hM:L.low=true:=by rfl) (hE:Eo.low=true:=by rfl) (hR:R.low=true:=by rfl) :
  ae P (.loop c) L ⟨n,id,L,Eo,R⟩ (FG un nf lf step ca):=by
 have hs:ae P c L ⟨n,id,L,Eo,R⟩ (λx=>Fr.br (decide ((un x).1<nf (un x).2.1)) ((step (un x).2.1 (0<=(un x).1/\(un x).1<((lf (un x).2.1).length:Int)) (un x).1 ((lf (un x).2.1).getD (un x).1.toNat dT) (un x).2.2).mapR (λs=>Rd.next (mk (I6.wrap ((un x).1+1)) (un x).2.1 s))) (Fr.val (Rd.out (ca (un x).2.1 (un x).2.2)))):=
  ae.of_run hC (bs:=0) (Λ:=Λ) hM hE hR hΛ λx=>by
   have h:=hr (un x).1 (un x).2.1 (un x).2.2
   rwa [hun] at h
 refine ae.loop (n:=n) (id:=id) hs (inv:=λx=>InK (nf (un x).2.1) (un x).1 (lf (un x).2.1).length) (μ:=λx=>(((lf (un x).2.1).length:Int)-(un x).1).toNat) ?_ (λx Q hq=>hq.1);intro x hx Q hq;obtain⟨_,hok,hq1⟩:=hq;generalize hu:un x=u at *;obtain⟨i,k,s⟩:=u;dsimp only at hx hok hq1 |-;have hn:=hx.n;have hlo:=hx.lo;have hbig:=hx.big;refine⟨λhc=>?_,λhc=>?_⟩
 ·have hi:i<((lf k).length:Int):=by rw[<- hn]; exact ucv hc
  have hl:i.toNat<(lf k).length:=by omega
  have hb:(0<=i/\i<((lf k).length:Int))=True:=eq_true ⟨hlo,hi⟩;have e1:(lf k).drop i.toNat=(lf k)[i.toNat]::(lf k).drop (i.toNat+1):=ual hl;have hd:(lf k).getD i.toNat dT=(lf k)[i.toNat]:=by rw[uah,uap hl]; rfl
  have hw:I6.wrap (i+1)=i+1:=IntWalk.i64_in _ (by omega);rw[e1] at hok hq1;rw[hb,hd];generalize (lf k)[i.toNat]=e at hok hq1 |-;refine su (nL hok.1 ?_);show InK _ _ _/\_<_/\(FG un nf lf step ca (mk (I6.wrap (i+1)) k (step k True i e s).get)).satP Q;rw[hw];unfold FG;rw[hmk];have hin:InK (nf k) (i+1) (lf k).length:=⟨hn,by omega,by omega,hbig⟩;have hnt:(i+1).toNat=i.toNat+1:=by omega
  refine⟨hin,by dsimp only; omega,hin,?_⟩;dsimp only;rw[hnt];exact⟨hok.2,hq1⟩
 ·have hi:¬ i<((lf k).length:Int):=by rw[<- hn]; exact ucf hc
  have hl:(lf k).drop i.toNat=[]:=ua1 (by omega);rw[hl] at hq1;exact hq1
end
structure Ht where
 pt:TypeId
 bt:TypeId
 e:TypeId
 T:Ty
 ps:List PT
 rs:List Ty
 f:List T.den->ag ps->List T.den×aa rs
 ok:List T.den->ag ps->List Prop
section
variable {P:Program} {w w':World} {E:Env} {F F':Nat->Prop} {γ γ':Nat->Value}
def Nv (w:World) (ht:Ht) (b:Nat) (s:Value) (y:List ht.T.den×aa ht.rs) (e:Ending) (w':World):Prop:=
 ∃ u s' rows,e = .returned u/\w'.os=w.os/\w'.tape=w.tape/\w'.output=w.output/\w.heap.size<=w'.heap.size/\(∀ k,k<w.heap.size->k≠b->s.ownBlock≠some k->w'.heap[k]? = w.heap[k]?) /\
  w'.heap[b]? = some (.cells #[s'] ht.bt (0,0))/\w'.ownsRow 0 ht.e ht.T.size s' y.1.length rows/\(∀ g,s'.ownBlock=some g->(s.ownBlock=some g\/w.heap.size<=g)/\g≠b) /\
  bU w' (λ_=>False) ht.T y.1 rows/\(∀ u∈rows,u.oneCell'=true)/\s'.oneCell'=true/\gT w' (λ_=>False) ht.rs y.2 u
structure SoundHt (P:Program) (f:FuncId) (ht:Ht):Prop where
 lt:ht.e<cj
 flat:ht.T.flat=true
 flats:ht.rs.all Ty.flat=true
 enters:∀ args w,(callFunc f args).run P w = .ok (.enter f args) w
 calls:∀ (w:World) (F:Nat->Prop) (l:List ht.T.den) (xs:ag ht.ps) (b:Nat) (s:Value) (vs rows:List Value),(∀ b,F b->b<w.heap.size)->w.heap[b]? = some (.cells #[s] ht.bt (0,0))->¬ F b ->
  w.ownsRow 0 ht.e ht.T.size s l.length rows->(∀ g,s.ownBlock=some g->¬ F g/\g≠b)->bU w F ht.T l rows->(∀ u∈rows,u.oneCell'=true)->cJ P w F ht.ps xs vs->av (ht.ok l xs) ->
  Calls P f (.iface ht.pt (.pointer (some ⟨b,0,none⟩))::vs).toArray w (Nv w ht b s (ht.f l xs))
def ue (Γ:Gm) (f:FuncId) (ht:Ht) (d:Nat) (g:FuncId) (args:List AV) (s:St):Option Tr:=
 if g=f then match args with
  |.c (.ifp pt id)::rest=>match dK s.mem rest with
   |some (xs,u)=>match ax s.mem u id with
    |some (.box bt [.own r])=>match ax s.mem u r,ax s.mem u d with
     |some (.arr e t l),none=>if h:t=ht.T then if e=ht.e/\pt=ht.pt/\bt=ht.bt then match jf Γ ht.ps xs with
       |some (x,n)=>some (needL (n++ht.ok (cA h l) x) (.leaf (.val (jg ht.rs (ht.f (cA h l) x).2)) ⟨s.n,s.sl,ax (ax s.mem u) [(r,.gone),(d,.arr ht.e ht.T (ht.f (cA h l) x).1),(id,.box ht.bt [.own d])],s.gs⟩))
       |none=>none
      else none else none
     |_,_=>none
    |_=>none
   |none=>none
  |_=>none
 else none
def Ch {Γ:Gm} (hΓ:kN P Γ) {ht:Ht} (h:SoundHt P f ht):gQ P (ue Γ f ht):=by
 intro d g args s t hk;unfold ue at hk;split at hk<;>try trivial
 rename_i hg;subst hg;split at hk<;>try trivial
 rename_i pt id rest;split at hk<;>try trivial
 rename_i xs u hrs;split at hk<;>try trivial
 rename_i bt r hid;split at hk<;>try trivial
 rename_i e ty l hr hd;split at hk<;>try trivial
 rename_i hty;split at hk<;>try trivial
 rename_i hc;obtain⟨rfl,rfl,rfl⟩:=hc;split at hk<;>try trivial
 rename_i x n hdec;cases hk;subst hty;refine⟨h.enters,λE a w F γ vs Q hi hrep hq=>?_⟩;obtain⟨hn,hqv⟩:=jm _ hq;obtain⟨hn1,hn2⟩:=jd.1 hn;cases vs with
 |nil=>exact hrep.elim
 |cons v vs=>
  obtain⟨⟨_,b0,hv1,rfl⟩,hrep⟩:=hrep;obtain⟨F1,s1,m1,_,r1⟩:=iy hi.mem (dv hi) (cX.of λ_ _ h=>h) hrs hrep;have hps:=mK hΓ hdec hn1 r1;generalize hM:ax s.mem u=M at *;obtain⟨b,arr,k1,k2,k3,k4,k5,k6⟩:=m1.ob id _ hid;have hb0:b0=b:=by
   have h2:ap M γ id (.pointer (some ⟨b0,0,none⟩)):=s1.hR id _ hv1;unfold ap at h2;rw[hid] at h2;have h3:Value.pointer (some ⟨b0,0,none⟩)=γ id:=h2;rw[k1] at h3;cases h3;rfl
  subst hb0;obtain⟨⟨sv,z1,z2,z3⟩,_⟩:=k6;have hsv:sv=γ r:=ez hr (by simp) z3;subst hsv;have du:arr = #[γ r]:=by
   refine ucg λj=>?_;cases j with
   |zero=>simpa using z1
   |succ j=>
    have:arr.size=1:=k5;rw[ua0 (by omega),ua0 (by simp)]
  subst du;obtain⟨rows,o1,o2,o3,o4⟩:=gg.of (m1.ob r _ hr) h.lt;have hrid:r≠id:=by rintro rfl; rw[hr] at hid; cases hid
  have hdid:d≠id:=by rintro rfl; rw[hd] at hid; cases hid
  have hdr:d≠r:=by rintro rfl; rw[hd] at hr; cases hr
  have hgb:∀ g,(γ r).ownBlock=some g->g≠b0:=λg hg he=>m1.apart r id _ _ g hrid hr hid (.inl hg) ⟨_,k1,he.symm⟩;have hblk:∀ g,(γ r).ownBlock=some g->E.B<=g/\g<w.heap.size:=λg hg=>o1.lt g hg;have hc:=h.calls w F1 l x b0 (γ r) vs rows s1.bd k2 k3 (rD o1 (λ_ _=>ufa _)) (λg hg=>⟨o2 g hg,hgb g hg⟩) o3 o4 hps hn2;refine hc.mono λen w2 hp=>?_;obtain⟨u2,s',rows2,rfl,p1,p2,p3,p4,p5,p6,p7,p8,p9,p10,p11,p12⟩:=hp;have hBs:=nM hi;have hM':∀ j,ax M [(r,Ob.gone),(d,.arr ht.e ht.T (ht.f l x).1),(id,.box ht.bt [.own d])] j=if j=id then some (.box ht.bt [.own d]) else if j=d then some (.arr ht.e ht.T (ht.f l x).1) else if j=r then some .gone else M j:=λj=>by
   simp only[ax,upd]
  have hsame:∀ k,k<w.heap.size->k≠b0->(γ r).ownBlock≠some k->w2.heap[k]? = w.heap[k]? := p5;have hFk:∀ k,F1 k->w2.heap[k]? = w.heap[k]? := λk hk=>hsame k (s1.bd k hk) (λe=>k3 (e ▸ hk)) (λe=>o2 k e hk);have hR:∀ i v',ap M γ i v'->ap (ax M [(r,Ob.gone),(d,.arr ht.e ht.T (ht.f l x).1),(id,.box ht.bt [.own d])]) (cU γ d s') i v':=λi v' hv'=>by
   unfold ap at hv' |-;rw[hM'];by_cases h1:i=id
   ·subst h1;rw[hid] at hv';rw[if_pos rfl,eC _ _ hdid.symm];exact hv'
   ·rw[if_neg h1];by_cases h2:i=d
    ·subst h2;rw[hd] at hv';exact hv'.elim
    ·rw[if_neg h2];by_cases h3:i=r
     ·rw[if_pos h3];trivial
     ·rw[if_neg h3,eC _ _ h2];exact hv'
  have hat:∀ i o,(i=id\/i=d\/i=r)->ax M [(r,Ob.gone),(d,.arr ht.e ht.T (ht.f l x).1),(id,.box ht.bt [.own d])] i=some o->(i=id/\o = .box ht.bt [.own d])\/(i=d/\o = .arr ht.e ht.T (ht.f l x).1)\/o = .gone:=λi o hs ho=>by
   rw[hM'] at ho;by_cases h1:i=id
   ·rw[if_pos h1] at ho;exact .inl ⟨h1,(udz ho).symm⟩
   ·rw[if_neg h1] at ho;by_cases h2:i=d
    ·rw[if_pos h2] at ho;exact .inr (.inl ⟨h2,(udz ho).symm⟩)
    ·rw[if_neg h2,if_pos ((hs.resolve_left h1).resolve_left h2)] at ho;exact .inr (.inr (udz ho).symm)
  have hnm:=nq p7;have hB2:∀ g,s'.ownBlock=some g->E.B<=g:=λg hg=>(p8 g hg).1.elim (λh=>(hblk g h).1) (λh=>by omega);have hF2:∀ g,s'.ownBlock=some g->¬ F1 g:=λg hg hF=>(p8 g hg).1.elim (λh=>o2 g h hF) (λh=>by have:=s1.bd g hF; omega);have s2:Step E.B w F1 γ M w2 F1 (cU γ d s') (ax M [(r,Ob.gone),(d,.arr ht.e ht.T (ht.f l x).1),(id,.box ht.bt [.own d])]):=
   ⟨λ_ h=>h,hFk,hR,λk hk=>hsame k (by omega) (λe=>by omega) (λe=>by have:=(hblk k e).1; omega),p1,p2,p3,p4,λk hk=>ub9 (s1.bd k hk) p4,λ_ h=>.inl h⟩
  have m2:MemOK P E.B w2 F1 (cU γ d s') (ax M [(r,Ob.gone),(d,.arr ht.e ht.T (ht.f l x).1),(id,.box ht.bt [.own d])]):=by
   refine m1.re (λi=>i=id\/i=d\/i=r) (λi hi=>?_) (λi hi=>eC _ _ (λe=>hi (.inr (.inl e)))) hFk hR (λk hk hno=>hsame k hk (λe=>hno id _ (.inl rfl) hid ⟨_,k1,e.symm⟩) (λe=>hno r _ (.inr (.inr rfl)) hr (.inl e))) ?_ ?_ ?_
   ·rw[hM',if_neg (λe=>hi (.inl e)),if_neg (λe=>hi (.inr (.inl e))),if_neg (λe=>hi (.inr (.inr e)))]
   ·intro i o hs ho;rcases hat i o hs ho with ⟨rfl,rfl⟩|⟨rfl,rfl⟩|rfl
    ·rw[eC _ _ hdid.symm];refine⟨b0,#[s'],k1,p6,k3,k4,rfl,⟨s',rfl,p11,?_⟩,uT⟩;simp only[bc];unfold ap;rw[hM',if_neg hdid,if_pos rfl,fy]
    ·rw[fy];exact .inl ⟨h.lt,rows2,rD p7 hB2,hF2,p9.flat h.flat,p10⟩
    ·trivial
   ·intro i o k hs ho hk;rcases hat i o hs ho with ⟨rfl,rfl⟩|⟨rfl,rfl⟩|rfl
    ·rw[eC _ _ hdid.symm] at hk;exact .inl ⟨i,_,.inl rfl,hid,hk⟩
    ·rw[fy] at hk;exact(p8 k ((lE h.lt hnm).1 hk)).1.imp (λh=>⟨r,_,.inr (.inr rfl),hr,.inl h⟩) (λh=>h)
    ·exact hk.elim
   ·have key:∀ k,bK w2 (.arr ht.e ht.T (ht.f l x).1) s' k->¬ bK w2 (.box ht.bt [.own d]) (γ id) k:=λk hk ⟨ad,q1,q2⟩=>by
     rw[k1] at q1;cases q1;exact(p8 k ((lE h.lt hnm).1 hk)).2 q2.symm
    intro i j oi oj k hs hs' hij hoi hoj hki hkj;rcases hat i oi hs hoi with ⟨rfl,rfl⟩|⟨rfl,rfl⟩|rfl
    ·rw[eC _ _ hdid.symm] at hki;rcases hat j oj hs' hoj with ⟨rfl,rfl⟩|⟨rfl,rfl⟩|rfl
     ·exact hij rfl
     ·rw[fy] at hkj;exact key k hkj hki
     ·exact hkj
    ·rw[fy] at hki;rcases hat j oj hs' hoj with ⟨rfl,rfl⟩|⟨rfl,rfl⟩|rfl
     ·rw[eC _ _ hdid.symm] at hkj;exact key k hki hkj
     ·exact hij rfl
     ·exact hkj
    ·exact hki
  have s3:=s1.trans s2;have hinv:InvG P E ⟨s.n,s.sl,ax M [(r,Ob.gone),(d,.arr ht.e ht.T (ht.f l x).1),(id,.box ht.bt [.own d])],s.gs⟩ a w2 [] F1 (cU γ d s'):=by
   refine⟨hi.n,hi.df,?_,m2,λt=>(hi.sl t).mono s3.hF s3.hw s3.hR,hi.hg,λt=>s3.repA (hi.gh t)⟩;obtain⟨γ0,h0⟩:=hi.step;exact⟨γ0,h0.trans s3⟩
  exact⟨.val (jg ht.rs (ht.f l x).2),_,F1,_,hqv,hinv,u2,rfl,tN (p12.flat h.flats)⟩
def sk (n:Nat) (pt bt e:TypeId) (T:Ty) (l:List T.den) (args:List AV):St:=
 ⟨n,λi=>(AV.c (.ifp pt (9999))::args).getD i .dead,λi=>if i=9999 then some (.box bt [.own (ba 0)]) else if i=ba 0 then some (.arr e T l) else none,λi=>if i=0 then .c (.ptr (9999) 0) else .dead⟩
def qQ (P:Program) (rv:List ResultVar) (bt e:TypeId) (T:Ty) (rs:List Ty) (s:St):Option (Fr (List T.den×aa rs)):=
 match s.gs 0 with
 |.c (.ptr i 0)=>match s.mem i with
  |some (.box bt' [.own k])=>match s.mem k with
   |some (.arr e' t l)=>if h:t=T then if e'=e/\bt'=bt then match gv P s rv with
     |some (vs,n)=>match g9 rs vs with
      |some y=>some (Fr.needL n (.val (cA h l,y)))
      |none=>none
     |none=>none
    else none else none
   |_=>none
  |_=>none
 |_=>none
def iJ (P:Program) (rv:List ResultVar) (bt e:TypeId) (T:Ty) (rs:List Ty):Tr->Option (Fr (List T.den×aa rs))
 |.leaf .ret s=>qQ P rv bt e T rs s
 |.leaf .normal s=>qQ P rv bt e T rs s
 |.leaf _ _=>none
 |.br b x y=>match iJ P rv bt e T rs x,iJ P rv bt e T rs y with
  |some x',some y'=>some (.br b x' y')
  |_,_=>none
 |.need p x=>match iJ P rv bt e T rs x with
  |some x'=>some (.need p x')
  |none=>none
 |.two p x y=>match iJ P rv bt e T rs x,iJ P rv bt e T rs y with
  |some x',some y'=>some (.need (p->x'.ok/\x'.get=y'.get) y')
  |_,_=>none
def tY {rv:List ResultVar} {bt:TypeId} {T:Ty} {rs:List Ty}:{t:Tr} -> {f:Fr (List T.den×aa rs)}->iJ P rv bt e T rs t=some f->f.ok->t.sat λx s=>(x = .ret\/x = .normal)/\∃ n,qQ P rv bt e T rs s=some (Fr.needL n (.val f.get))/\av n
 |.leaf x s,f,h,hok=>by
  have key:qQ P rv bt e T rs s=some f->∃ n,qQ P rv bt e T rs s=some (Fr.needL n (.val f.get))/\av n:=λh=>by
   have h0:=h;unfold qQ at h;split at h<;>try trivial
   split at h<;>try trivial
   split at h<;>try trivial
   split at h<;>try trivial
   split at h<;>try trivial
   split at h<;>try trivial
   split at h<;>try trivial
   cases h;refine⟨_,?_,(uM _ hok).1⟩;rw[uK];exact h0
  cases x with
  |exit i=>simp[iJ] at h
  |panic i=>simp[iJ] at h
  |val i=>simp[iJ] at h
  |jump i=>simp[iJ] at h
  |normal=>exact⟨.inr rfl,key h⟩
  |ret=>exact⟨.inl rfl,key h⟩
 |.br b x y,f,h,hok=>by
  simp only[iJ] at h;split at h<;>try trivial
  rename_i x' y' hx hy;cases h;refine⟨λhb=>?_,λhb=>?_⟩
  ·have:=tY hx (hok.1 hb);simpa only[Fr.get,hb,if_true] using this
  ·have:=tY hy (hok.2 hb);simpa only[Fr.get,hb,ub1,ufl] using this
 |.need p x,f,h,hok=>by
  simp only[iJ] at h;split at h<;>try trivial
  rename_i x' hx;cases h;have:=tY hx hok.2;exact⟨hok.1,this⟩
 |.two p x y,f,h,hok=>by
  simp only[iJ] at h;split at h<;>try trivial
  rename_i x' y' hx hy;cases h;have h2:=tY hy hok.2;refine⟨λhp=>?_,h2⟩;have:=tY hx (hok.1 hp).1
  rwa [(hok.1 hp).2] at this
def KD (P:Program) (C:Cx) (Λ:Nat->St->Option Tr) (fn:Func) (pt bt e:TypeId) (T:Ty) (ps:List PT) (rs:List Ty) (l:List T.den) (xs:ag ps):Option (Fr (List T.den×aa rs)):=
 match fn.body with
 |some c=>if (fn.name == "runtime.NumGoroutine")=false/\ps.length+1<=fn.ntmps then match cr P C 0 Λ c 0 (sk fn.ntmps pt bt e T l (eI ps xs)) with
   |some t=>iJ P fn.results.toList bt e T rs t
   |none=>none
  else none
 |none=>none
def Ci {C:Cx} (hC:CxOK P C) {Λ:Nat->St->Option Tr} {fn:Func} {pt bt:TypeId} {T:Ty} {ps:List PT} {rs:List Ty} {fr:List T.den->ag ps->Fr (List T.den×aa rs)} (x0:ag ps)
  (hf:P.funcs[f]? = some fn) (hΛ:∀ c E,fn.body=some c->bP P E Λ c 0) (hrun:∀ l xs,KD P C Λ fn pt bt e T ps rs l xs=some (fr l xs)) (hT:T.flat=true:=by rfl) (hTs:rs.all Ty.flat=true:=by rfl) (hlt:e<cj:=by decide) :
  SoundHt P f ⟨pt,bt,e,T,ps,rs,λl xs=>(fr l xs).get,λl xs=>[(fr l xs).ok]⟩:=by
 have h0:=hrun [] x0;unfold KD at h0;split at h0<;>try trivial
 rename_i c hb;split at h0<;>try trivial
 rename_i hc;refine⟨hlt,hT,hTs,enters hf hb hc.1,λw F l xs b s vs rows hbd hbox hbF hown hnF hrows hcell hr hok=>ue8 hf hb ?_⟩;have hr':=hrun l xs;unfold KD at hr';simp only[hb,hc,ufk,if_true] at hr';split at hr'<;>try trivial
 rename_i t ht;have hlen:vs.length=ps.length:=rV hr;have hone:=kT hown;have hblt:b<w.heap.size:=(uaf.1 hbox).1;have hFb:∀ k,F k->(k<w.heap.size/\k≠b/\s.ownBlock≠some k):=λk hk=>⟨hbd k hk,λh=>hbF (h ▸ hk),λh=>(hnF k h).1 hk⟩;have hps:cJ P w (λk=>k<w.heap.size/\k≠b/\s.ownBlock≠some k) ps xs vs:=cJ.mono hFb (λ_ _=>rfl) hr;have hargs:∀ R:Nat->Value->Prop,R (9999) (.pointer (some ⟨b,0,none⟩))->bj P w (λk=>k<w.heap.size/\k≠b/\s.ownBlock≠some k) R (AV.c (.ifp pt (9999))::eI ps xs) (.iface pt (.pointer (some ⟨b,0,none⟩))::vs):=λR hR=>⟨⟨rfl,b,hR,rfl⟩,mO hps⟩;have hid:9999≠ba 0:=by unfold ba; omega
 have hstart:I P ⟨w,λk=>k<w.heap.size/\k≠b/\s.ownBlock≠some k,λ_=>.pointer (some ⟨b,0,none⟩),[],0,ufa _⟩ (sk fn.ntmps pt bt e T l (eI ps xs)) { tmps:=(Value.iface pt (.pointer (some ⟨b,0,none⟩))::vs).toArray++Array.replicate (fn.ntmps-(Value.iface pt (.pointer (some ⟨b,0,none⟩))::vs).length) undef,defers:=[] } w:=by
  have hm1:(sk fn.ntmps pt bt e T l (eI ps xs)).mem (9999)=some (.box bt [.own (ba 0)]):=by
   simp only[sk,if_true]
  have hm0:(sk fn.ntmps pt bt e T l (eI ps xs)).mem (ba 0)=some (.arr e T l):=by
   simp only[sk,if_true,if_neg hid.symm]
  have hat:∀ i o,(sk fn.ntmps pt bt e T l (eI ps xs)).mem i=some o->(i=9999/\o = .box bt [.own (ba 0)])\/(i=ba 0/\o = .arr e T l):=λi o ho=>by
   have ho':(if i=9999 then some (Ob.box bt [.own (ba 0)]) else if i=ba 0 then some (.arr e T l) else none)=some o:=ho;split at ho'
   ·rename_i h1;cases ho';exact .inl ⟨h1,rfl⟩
   ·split at ho'
    ·rename_i h1;cases ho';exact .inr ⟨h1,rfl⟩
    ·cases ho'
  have hnm:=nq hown;refine⟨_,λi=>if i=9999 then .pointer (some ⟨b,0,none⟩) else s,?_,rfl,⟨λ_=>undef,⟨λ_ h=>h,λ_ _=>rfl,λ_ _ h=>h.elim,λk hk=>absurd hk (Nat.not_lt_zero k),rfl,rfl,rfl,ue4 _,λk hk=>hk.1,λk hk=>.inl hk⟩⟩,⟨λid o ho=>?_,λi j oi oj k hij hi hj hki hkj=>?_⟩,λt=>?_,λt g want v ht=>?_,λt=>?_⟩
  ·show _=fn.ntmps;simp only[ucn,uco,Array.size_replicate,uc6];omega
  ·rcases hat id o ho with ⟨rfl,rfl⟩|⟨rfl,rfl⟩
   ·refine⟨b,#[s],if_pos rfl,hbox,λh=>h.2.1 rfl,ufa _,rfl,⟨s,rfl,hone,?_⟩,uT⟩;simp only[bc];unfold ap;rw[hm0];exact(if_neg hid.symm).symm
   ·refine .inl ⟨hlt,rows,?_,λg hg h=>?_,hrows.flat hT,hcell⟩
    ·show w.ownsRow 0 e T.size (if ba 0=9999 then _ else s) _ _;rw[if_neg hid.symm];exact hown
    ·have hg':(if ba 0=9999 then Value.pointer (some ⟨b,0,none⟩) else s).ownBlock=some g:=hg;rw[if_neg hid.symm] at hg';exact h.2.2 hg'
  ·have key:bK w (.box bt [.own (ba 0)]) (if 9999=9999 then .pointer (some ⟨b,0,none⟩) else s) k->¬ bK w (.arr e T l) (if ba 0=9999 then .pointer (some ⟨b,0,none⟩) else s) k:=by
    rw[if_pos rfl,if_neg hid.symm];rintro⟨a,h1,h2⟩ h3;cases h1;exact(hnF k ((lE hlt hnm).1 h3)).2 h2.symm
   rcases hat i oi hi with ⟨rfl,rfl⟩|⟨rfl,rfl⟩
   ·rcases hat j oj hj with ⟨rfl,rfl⟩|⟨rfl,rfl⟩
    ·exact hij rfl
    ·exact key hki hkj
   ·rcases hat j oj hj with ⟨rfl,rfl⟩|⟨rfl,rfl⟩
    ·exact key hkj hki
    ·exact hij rfl
  ·have hg:((Value.iface pt (.pointer (some ⟨b,0,none⟩))::vs).toArray++Array.replicate (fn.ntmps-(Value.iface pt (.pointer (some ⟨b,0,none⟩))::vs).length) undef).getD t undef=(Value.iface pt (.pointer (some ⟨b,0,none⟩))::vs).getD t undef:=by
    simp only[uac,uah];rcases uel t (Value.iface pt (.pointer (some ⟨b,0,none⟩))::vs).length with hlt|hge
    ·rw[uai (by simpa using hlt)];simp
    ·rw[uad (by simpa using hge),ua3 hge];simp only[uar];split<;>rfl
   show dP P w _ _ _ ((AV.c (.ifp pt (9999))::eI ps xs).getD t .dead) (((Value.iface pt (.pointer (some ⟨b,0,none⟩))::vs).toArray++Array.replicate (fn.ntmps-(Value.iface pt (.pointer (some ⟨b,0,none⟩))::vs).length) undef).getD t undef);rw[hg];refine vG (ny (hargs _ ?_) t);unfold ap;rw[hm1];exact(if_pos rfl).symm
  ·exfalso;have:=ny (hargs (λ_ _=>True) trivial) t;have ht':(AV.c (.ifp pt (9999))::eI ps xs).getD t .dead = .maybe g want v:=ht;rw[ht'] at this;exact this
  ·show aE P w _ _ (if t=0 then .c (.ptr (9999) 0) else .dead) _;split
   ·refine⟨rfl,b,?_,rfl⟩;unfold ap;rw[hm1];exact(if_pos rfl).symm
   ·trivial
 have hwp:=fR hC c 0 (hΛ c _ hb) ht (tY hr' hok) hstart;have hsz:((Value.iface pt (.pointer (some ⟨b,0,none⟩))::vs).toArray).size=(Value.iface pt (.pointer (some ⟨b,0,none⟩))::vs).length:=by simp
 rw[hsz];refine wp_mono hwp ?_;rintro ex a' w' ⟨xe,st,rfl,⟨F',γ',hi⟩,hxe,n,hend,hnn⟩;have hfin:a'.defers=[]/\∃ u,(results fn a'.tmps).run P w' = .ok u w'/\Nv w ⟨pt,bt,e,T,ps,rs,λl xs=>(fr l xs).get,λl xs=>[(fr l xs).ok]⟩ b s (fr l xs).get (.returned u) w':=by
  unfold qQ at hend;split at hend<;>try trivial
  rename_i i hgs;split at hend<;>try trivial
  rename_i bt' k hmi;split at hend<;>try trivial
  rename_i e' t' l' hmk;split at hend<;>try trivial
  rename_i hty;split at hend<;>try trivial
  rename_i hee;split at hend<;>try trivial
  rename_i vs' n' hres;split at hend<;>try trivial
  rename_i y hdec;injection hend with hend
  obtain⟨hn',hy⟩:=uL hend hnn;subst hty;obtain⟨rfl,rfl⟩:=hee;obtain⟨us,hran,hreps⟩:=nz hi hres hn';obtain⟨γ0,h1⟩:=hi.step;obtain⟨b2,arr,g1,g2,g3,g4,g5,g6⟩:=hi.mem.ob i _ hmi;have hb2:b2=b:=by
   have h2:=hi.gh 0;rw[hgs] at h2;obtain⟨_,b3,h3,h4⟩:=h2;have h5:Value.pointer (some ⟨b3,0,none⟩)=γ' i:=by simpa[ap,hmi] using h3
   have h4':Value.pointer (some ⟨b,0,none⟩) = .pointer (some ⟨b3,0,none⟩):=h4;cases h4';rw[g1] at h5;cases h5;rfl
  subst hb2;obtain⟨⟨sv,z1,z2,z3⟩,_⟩:=g6;have hsv:sv=γ' k:=ez hmk (by simp) z3;subst hsv;have du:arr = #[γ' k]:=by
   refine ucg λj=>?_;cases j with
   |zero=>simpa using z1
   |succ j=>
    have:arr.size=1:=g5;rw[ua0 (by omega),ua0 (by simp)]
  subst du;obtain⟨rows2,q1,q2,q3,q4⟩:=gg.of (hi.mem.ob k _ hmk) hlt;have hki:k≠i:=by rintro rfl; rw[hmk] at hmi; cases hmi
  refine⟨hi.df,_,pz hran,_,γ' k,rows2,rfl,h1.os,h1.tape,h1.output,h1.size,λk hk hne hno=>h1.hw k ⟨hk,hne,hno⟩,g2,?_,λg hg=>⟨?_,λhe=>hi.mem.apart k i _ _ g hki hmk hmi (.inl hg) ⟨_,g1,he.symm⟩⟩,?_,q4,z2,?_⟩
  ·rw[<- hy];exact rD q1 (λ_ _=>ufa _)
  ·rcases uel g w.heap.size with hgl|hgl
   ·by_cases hso:s.ownBlock=some g
    ·exact .inl hso
    ·exfalso;by_cases hgb:g=b2
     ·exact hi.mem.apart k i _ _ g hki hmk hmi (.inl hg) ⟨_,g1,hgb.symm⟩
     ·exact q2 g hg (h1.hF g ⟨hgl,hgb,hso⟩)
   ·exact .inr hgl
  ·rw[<- hy];exact q3.flat hT
  ·rw[<- hy];exact(vH (lC hdec hreps)).flat hTs
 rcases hxe with rfl|rfl
 ·exact hfin
 ·exact hfin
def Bf {ht:Ht} (h:SoundHt P f ht) (g:List ht.T.den->ag ht.ps->List ht.T.den×aa ht.rs) (ok:List ht.T.den->ag ht.ps->List Prop)
  (hg:∀ w F l xs vs,cJ P w F ht.ps xs vs->l.length<=maxLen->(∀ x∈l,Wf ht.T x)->av (ok l xs)->av (ht.ok l xs)/\ht.f l xs=g l xs):SoundHt P f ⟨ht.pt,ht.bt,ht.e,ht.T,ht.ps,ht.rs,g,ok⟩:=by
 refine⟨h.lt,h.flat,h.flats,h.enters,λw F l xs b s vs rows hb ho hn hr hc h1 hp hps hok=>?_⟩;obtain⟨h2,h3⟩:=hg w F l xs vs hps (TP hr) (UH h1) hok;have:=h.calls w F l xs b s vs rows hb ho hn hr hc h1 hp hps h2;rw[h3] at this;exact this
end
end Go.Ab
namespace Go.Proofs.YtmcjmjbeknbddaaGreat
open Go Go.Ab Go.RowKit Go.Proofs Tryz
open Go.Ab.Fr renaming val->Jv,need->Jd,br->Jb
abbrev i64:Ty:=.int .i64
abbrev u64:Ty:=.int .u64
abbrev aK:Ty:=.sl i64
abbrev cn:Ty:=.pair i64 (.pair i64 .unit)
abbrev bm:Ty:=.pair aK (.pair aK .unit)
abbrev dG:Ty:=.pair i64 (.pair i64 (.pair i64 (.pair i64 .unit)))
abbrev ak:Ty:=.pair i64 (.pair i64 (.pair i64 (.pair i64 (.pair i64 .unit))))
abbrev aB:Ty:=.pair cn (.pair .bool (.pair dG (.pair (.sl ak) (.pair i64 .unit))))
def yr:Nat->St->Option Tr:=λ_ _=>none
def C0:Cx:=⟨⟨λ_=>none,λ_=>none⟩,λ_=>none,λ_ _ _ _=>none⟩
def aG:prog.follows .mixedOrders=true:=by kernel_rfl
def s6:CxOK prog C0:=⟨aG,⟨λ_ _ h=>(nomatch h),λ_ _ h=>(nomatch h)⟩,λ_ _ h=>(nomatch h),λ_ _ _ _ _ h=>(nomatch h)⟩
def lN {E:Env}:(c:Code)->(k:Nat)->bP prog E yr c k
 |.seq a b,k=>⟨lN a k,lN b _⟩
 |.cond _ a b,k=>⟨lN a k,lN b _⟩
 |.block _ c,k=>lN c k
 |.loop _,_=>λ_ _ h=>nomatch h
 |.skip,_=>trivial
 |.ret,_=>trivial
 |.exit _,_=>trivial
 |.region _ _ _,_=>trivial
 |.label _,_=>trivial
 |.goto _,_=>trivial
 |.scope c,k=>lN c k
 |.rangeFunc _ _ _ _,_=>trivial
 |.refuse _,_=>trivial
def plain {C:Cx} (hC:CxOK prog C) {fn:Func} {ps:List PT} {rs:List Ty} {fr:ag ps->Fr (aa rs)} (x0:ag ps) (hf:prog.funcs[f]? = some fn)
  (hrun:∀ xs,mf prog C yr fn ps rs xs=some (fr xs)) (g:ag ps->aa rs) (ok:ag ps->List Prop)
  (hg:∀ w F xs vs,cJ prog w F ps xs vs->av (ok xs)->(fr xs).ok/\(fr xs).get=g xs):af prog f ⟨ps,rs,g,ok⟩:=
 conv (cf hC x0 hf (λc E _=>lN c 0) hrun) g ok hg
def iQ (v:Int):Bool:=decide (v >= -4000000000000000000)&&decide (v<=4000000000000000000)
def Gx:Ct:=⟨[.d i64],[.bool],λx=>(iQ x.1,()),λ_=>[]⟩
def qtx:af prog 222 Gx:=
 plain (ps:=[.d i64]) (rs:=[.bool]) s6 (fn:=f222) (fr:=λx=>Jv (bif decide (x.1 >= -4000000000000000000) then decide (x.1<=4000000000000000000) else false,())) (0,()) (by kernel_rfl) (λx=>by kernel_rfl) _ _
  (λ_ _ x _ _ _=>⟨uT,by simp only[Fr.get,iQ]; cases decide (x.1 >= -4000000000000000000)<;>rfl⟩)
def dN (s:cn.den):Bool:=decide (s.1>=1)&&(decide (s.1<s.2.1)&&decide (s.2.1<=292195))
def jT (s:cn.den):Bool:=decide (s.1>=1)&&(decide (s.1<=s.2.1)&&decide (s.2.1<=292195))
def qbr:Ct:=⟨[.d cn],[.bool],λx=>(dN x.1,()),λ_=>[]⟩
def jb:Ct:=⟨[.d cn],[.bool],λx=>(jT x.1,()),λ_=>[]⟩
def Lr (a b c:Bool):(bif bif a then b else false then c else false)=(a&&(b&&c)):=by cases a<;>cases b<;>rfl
def ql7:af prog 206 qbr:=
 plain (ps:=[.d cn]) (rs:=[.bool]) s6 (fn:=f206) (fr:=λx=>Jv (bif bif decide (x.1.1>=1) then decide (x.1.1<x.1.2.1) else false then decide (x.1.2.1<=292195) else false,())) ((0,0,()),()) (by kernel_rfl) (λx=>by kernel_rfl) _ _
  (λ_ _ x _ _ _=>⟨uT,by simp only[Fr.get,dN,Lr]⟩)
def Ky:af prog 82 jb:=
 plain (ps:=[.d cn]) (rs:=[.bool]) s6 (fn:=f82) (fr:=λx=>Jv (bif bif decide (x.1.1>=1) then decide (x.1.1<=x.1.2.1) else false then decide (x.1.2.1<=292195) else false,())) ((0,0,()),()) (by kernel_rfl) (λx=>by kernel_rfl) _ _
  (λ_ _ x _ _ _=>⟨uT,by simp only[Fr.get,jT,Lr]⟩)
def ne (s:aB.den) (e:Int):Bool:=decide (s.1.1>=e)&&(decide (s.1.1<s.1.2.1)&&(decide (s.1.2.1<=292195)&&(decide (s.2.2.2.2.1>=0)&&decide (s.2.2.2.2.1<=4000000000000000000))))
def qw:Ct:=⟨[.d aB,.d i64],[.bool],λx=>(ne x.1 x.2.1,()),λ_=>[]⟩
def qkv (a b c d e:Bool):(bif bif bif bif a then b else false then c else false then d else false then e else false)=(a&&(b&&(c&&(d&&e)))):=by cases a<;>cases b<;>cases c<;>cases d<;>rfl
def ql8:af prog 180 qw:=
 plain (ps:=[.d aB,.d i64]) (rs:=[.bool]) s6 (fn:=f180) (fr:=λx=>Jv (bif bif bif bif decide (x.1.1.1>=x.2.1) then decide (x.1.1.1<x.1.1.2.1) else false then decide (x.1.1.2.1<=292195) else false then decide (x.1.2.2.2.2.1>=0) else false then decide (x.1.2.2.2.2.1<=4000000000000000000) else false,()))
  (aB.dflt,0,()) (by kernel_rfl) (λx=>by kernel_rfl) _ _ (λ_ _ x _ _ _=>⟨uT,by simp only[Fr.get,ne,qkv]⟩)
def ja:Ct:=⟨[.d i64],[.bool],λ_=>(false,()),λ_=>[]⟩
def SX:af prog 238 ja:=
 plain (ps:=[.d i64]) (rs:=[.bool]) s6 (fn:=f238) (fr:=λx=>Jv (x.1 != x.1,())) (0,()) (by kernel_rfl) (λx=>by kernel_rfl) _ _ (λ_ _ x _ _ _=>⟨uT,by simp[Fr.get]⟩)
def JG:af prog 203 ja:=
 plain (ps:=[.d i64]) (rs:=[.bool]) s6 (fn:=f203) (fr:=λx=>Jv (x.1 != x.1,())) (0,()) (by kernel_rfl) (λx=>by kernel_rfl) _ _ (λ_ _ x _ _ _=>⟨uT,by simp[Fr.get]⟩)
def WM:FuncId->Option Ct:=λf=>if f=238 then some ja else if f=203 then some ja else none
def C1:Cx:=⟨WM,λ_=>none,λ_ _ _ _=>none⟩
def JP {Γ:FuncId->Option Ct} (h:∀ f ct,Γ f=some ct->af prog f ct):CxOK prog ⟨Γ,λ_=>none,λ_ _ _ _=>none⟩:=
 ⟨aG,⟨h,λ_ _ h=>(nomatch h)⟩,λ_ _ h=>(nomatch h),λ_ _ _ _ _ h=>(nomatch h)⟩
def WU:CxOK prog C1:=JP λf ct h=>by
 simp only[WM] at h;split at h
 ·rename_i hf; subst hf; cases h; exact SX
 ·split at h
  ·rename_i hf; subst hf; cases h; exact JG
  ·cases h
def wS:Ct:=⟨[.d i64,.d i64],[.bool],λx=>(decide (x.1<x.2.1),()),λ_=>[]⟩
def Sy:af prog 204 wS:=
 plain (ps:=[.d i64,.d i64]) (rs:=[.bool]) WU (fn:=f204) (fr:=λx=>Jv (bif bif (ja.f (x.1,())).1 then !(ja.f (x.2.1,())).1 else false then true else decide (x.1<x.2.1),())) (0,0,()) (by kernel_rfl) (λx=>by kernel_rfl) _ _
  (λ_ _ x _ _ _=>⟨uT,rfl⟩)
abbrev zel:Ty:=.sl aB
def oc (a b:Bool):(bif a then b else false)=(a&&b):=by cases a<;>rfl
def cz {n:Int} (h : -9223372036854775808<=n/\n<=9223372036854775807):I6.wrap n=n:=IntWalk.i64_in _ h
def eF:Pc:=⟨[.d i64],[],λ_=>(),λx=>!(x.1==0),λx=>⟨47,.i64,x.1⟩,λ_=>[]⟩
def JE:jz prog 142 eF:=by
 refine⟨enters (fn:=f142) (by kernel_rfl) rfl rfl,λw F xs vs hb hr _=>?_⟩;obtain⟨v,vs',rfl,hv,hn⟩:=hr;cases hn;obtain⟨n,_⟩:=xs;have hv':v = .int .i64 n:=by
  have h:aE prog w F (λ_ _=>True) (dE i64 n) v:=fT hv;exact h.2.1
 subst hv';by_cases h0:n=0
 ·subst h0
  go_enter func142,ntmps142
  go_wp2
  go_end0
  refine .inl ⟨rfl,.tuple #[],F,rfl,ufd _ _,λ_ h=>h,λb h=>⟨.inl h,hb b h⟩,#[],rfl,rfl⟩
 ·have hne:(n==0)=false:=by simpa using h0
  have hne2:(n != 0)=true:=by simpa using h0
  have hbad:eF.bad (n,())=true:=by show(!(n==0))=true; rw[hne]; rfl
  go_enter func142,ntmps142
  go_wp2
  exact⟨rfl,.inr ⟨hbad,rfl,ufd _ _⟩⟩
def ft (a:Int):Int:=IntKind.u64.wrap ((BitVec.ofInt IntKind.u64.bits a &&& BitVec.ofInt IntKind.u64.bits 4294967295).toNat:Int)
def bC (a:Int):Int:=a.fdiv (2 ^ min (Int.toNat 32) IntKind.u64.bits)
def dx {n:Int} (h:0<=n/\n<=18446744073709551615):IntKind.u64.wrap n=n:=IntWalk.u64_in _ h
def CF (h:0<=a/\a<=18446744073709551615):ft a=a%4294967296:=by
 obtain⟨n,rfl⟩:∃ n:Nat,a=n:=⟨a.toNat,by omega⟩;unfold ft;have e1:(BitVec.ofInt IntKind.u64.bits (n:Int) &&& BitVec.ofInt IntKind.u64.bits 4294967295).toNat=n%4294967296:=by
  have h1:(BitVec.ofInt IntKind.u64.bits (n:Int)).toNat=n:=by
   rw[BitVec.toNat_ofInt];show((n:Int)%((2 ^ 64:Nat):Int)).toNat=n;omega
  have h2:(BitVec.ofInt IntKind.u64.bits (4294967295:Int)).toNat=2 ^ 32-1:=by decide
  rw[BitVec.toNat_and,h1,h2,Nat.and_two_pow_sub_one_eq_mod]
 rw[e1,dx (by omega)];omega
def IJ:bC a=a/4294967296:=by
 unfold bC;have:(2:Int) ^ min (Int.toNat 32) IntKind.u64.bits=4294967296:=by decide
 rw[this,uag _ (by decide)]
def uJ (x y:Int):Int:=IntKind.u64.wrap (IntKind.u64.wrap (bC x*ft y)+bC (IntKind.u64.wrap (ft x*ft y)))
def qla (x:ag [.d u64,.d u64]):Fr (aa [u64,u64]):=
 let b:=uJ x.1 x.2.1;let a:=¬ (32:Int)<0;Jd a (Jd a (Jd a (Jd a (Jd a
  (Jv (IntKind.u64.wrap (IntKind.u64.wrap (IntKind.u64.wrap (bC x.1*bC x.2.1)+bC b)+bC (IntKind.u64.wrap (ft b+IntKind.u64.wrap (ft x.1*bC x.2.1)))),
   IntKind.u64.wrap (x.1*x.2.1),()))))))
def mD:Ct:=⟨[.d u64,.d u64],[u64,u64],λx=>(x.1*x.2.1/18446744073709551616,x.1*x.2.1%18446744073709551616,()),λ_=>[]⟩
def Db {b n:Int} (ha:0<=a/\a<=n) (hb:0<=b/\b<=n):0<=a*b/\a*b<=n*n:=
 ⟨ud7 ha.1 hb.1,Int.mul_le_mul ha.2 hb.2 hb.1 (by omega)⟩
def qt2 (a1 a0 b1 b0:Int):(a1*4294967296+a0)*(b1*4294967296+b0)=a1*b1*18446744073709551616+(a1*b0+a0*b1)*4294967296+a0*b0:=by grind
def qt1 (hx:0<=x/\x<=18446744073709551615) (hy:0<=y/\y<=18446744073709551615) :
  IntKind.u64.wrap (IntKind.u64.wrap (IntKind.u64.wrap (bC x*bC y)+bC (uJ x y))+bC (IntKind.u64.wrap (ft (uJ x y)+IntKind.u64.wrap (ft x*bC y))))=x*y/18446744073709551616:=by
 have ex:x=x/4294967296*4294967296+x%4294967296:=by omega
 have ey:y=y/4294967296*4294967296+y%4294967296:=by omega
 have hs:=qt2 (x/4294967296) (x%4294967296) (y/4294967296) (y%4294967296);rw[<- ex,<- ey] at hs;rw[hs];unfold uJ;rw[CF hx,CF hy];simp only[IJ];have b1:0<=x/4294967296/\x/4294967296<=4294967295:=by omega
 have b2:0<=x%4294967296/\x%4294967296<=4294967295:=by omega
 have b3:0<=y/4294967296/\y/4294967296<=4294967295:=by omega
 have b4:0<=y%4294967296/\y%4294967296<=4294967295:=by omega
 have p11:=Db b1 b3;have p10:=Db b1 b4;have p01:=Db b2 b3;have p00:=Db b2 b4;clear hs ex ey b1 b2 b3 b4;generalize x/4294967296*(y/4294967296)=q11 at *;generalize x/4294967296*(y%4294967296)=q10 at *;generalize x%4294967296*(y/4294967296)=q01 at *;generalize x%4294967296*(y%4294967296)=q00 at *;rw[dx (n:=q11) (by omega),dx (n:=q10) (by omega),dx (n:=q01) (by omega),dx (n:=q00) (by omega),dx (n:=q10+q00/4294967296) (by omega),CF (a:=q10+q00/4294967296) (by omega),
  dx (n:=(q10+q00/4294967296)%4294967296+q01) (by omega)]
 rw[dx (n:=q11+(q10+q00/4294967296)/4294967296) (by omega),dx (by omega)];omega
def pP {n:Int} (h:bu w F u64 n v):0<=n/\n<=18446744073709551615:=h.2.2.2
def uf {n:Int} (h:bu w F i64 n v) : -9223372036854775808<=n/\n<=9223372036854775807:=h.2.2.2
def JD:af prog 210 mD:=
 flat (ps:=[.d u64,.d u64]) (rs:=[u64,u64]) (aP (cs:=[]) (ps:=[]) aG trivial trivial) (fn:=f210) (fr:=qla) (0,0,()) (by kernel_rfl) (λx=>by kernel_rfl) _ _
  (λw F x vs hr _=>by
   obtain⟨a,b,u⟩:=x;obtain⟨v1,vs1,rfl,h1,v2,vs2,rfl,h2,_⟩:=hr;have g1:=pP h1;have g2:=pP h2;refine⟨⟨by decide,by decide,by decide,by decide,by decide,uT⟩,?_⟩;show(IntKind.u64.wrap (IntKind.u64.wrap (IntKind.u64.wrap (bC a*bC b)+bC (uJ a b))+bC (IntKind.u64.wrap (ft (uJ a b)+IntKind.u64.wrap (ft a*bC b)))),IntKind.u64.wrap (a*b),())=(a*b/18446744073709551616,a*b%18446744073709551616,());have hw:IntKind.u64.wrap (a*b)=a*b%18446744073709551616:=by
    rw[IntKind.wrap_u64]
   rw[qt1 g1 g2,hw])
def Iq (x:ag [.d u64,.d u64,.d u64]):Fr (aa [u64,u64]):=
 let a:=x.2.2.1;Jb (a==0) (Jd False (Jv (0,0,())))
  (Jb (decide (a<=x.1)) (Jd False (Jv (0,0,())))
   (Jb (x.1==0) (Jd (a≠0) (Jd (a≠0) (Jv (IntKind.u64.wrap (x.2.1.tdiv a),x.2.1.tmod a,()))))
    (Jd False (Jv (0,0,())))))
def Az:Ct:=⟨[.d u64,.d u64,.d u64],[u64,u64],λx=>(x.2.1/x.2.2.1,x.2.1%x.2.2.1,()),λx=>[x.1=0,0<x.2.2.1]⟩
def qfj {lo:Int} (g2:0<=lo/\lo<=18446744073709551615) (hy:0<y):(Iq (0,lo,y,())).ok/\(Iq (0,lo,y,())).get=(lo/y,lo%y,()):=by
 have e1:(y==0)=false:=by simp; omega
 have e2:decide (y<=(0:Int))=false:=by simp; omega
 have e3:y≠0:=by omega
 refine⟨⟨λhc=>?_,λ_=>⟨λhc=>?_,λ_=>⟨λ_=>⟨e3,e3,uT⟩,λhc=>by cases hc⟩⟩⟩,?_⟩
 ·have hc':(y==0)=true:=hc;rw[e1] at hc';cases hc'
 ·have hc':decide (y<=(0:Int))=true:=hc;rw[e2] at hc';cases hc'
 ·show(if (y==0)=true then ((0:Int),(0:Int),()) else if decide (y<=(0:Int))=true then ((0:Int),(0:Int),()) else (IntKind.u64.wrap (lo.tdiv y),lo.tmod y,()))=(lo/y,lo%y,());rw[e1,e2];simp only[ub1,ufl];rw[IntWalk.u64_quo lo y ⟨g2.1,g2.2,by omega⟩,IntWalk.rem_in lo y g2.1]
def qfi:af prog 211 Az:=
 flat (ps:=[.d u64,.d u64,.d u64]) (rs:=[u64,u64]) (aP (cs:=[]) (ps:=[]) aG trivial trivial) (fn:=f211) (fr:=Iq) (0,0,0,()) (by kernel_rfl) (λx=>by kernel_rfl) _ _
  (λw F x vs hr hok=>by
   obtain⟨hi,lo,y,u⟩:=x;obtain⟨v1,vs1,rfl,h1,v2,vs2,rfl,h2,v3,vs3,rfl,h3,_⟩:=hr;obtain⟨he,hy⟩:=hok;have he':hi=0:=he;subst he';exact qfj (pP h2) hy)
noncomputable def Af:FuncId->Option (Func×(Nat->St->Option Tr)):=cu [(209,(f209,bw))]
noncomputable def Ag:FuncId->Option (Func×(Nat->St->Option Tr)):=cu [(185,(f185,bw)),(184,(f184,bw))]
abbrev Am:List (FuncId×Ct):=[(210,mD),(211,Az)]
def F8:iz prog Am:=⟨JD,qfi,uT⟩
noncomputable def Mc:Cx:=cx Am []
noncomputable def Md:Cx:=cW Am [] (fU prog Mc Af)
noncomputable def XC:Cx:=cW Am [] (fU prog Md Ag)
def XA:CxOK prog Mc:=aP aG F8 trivial
def N5:∀ f fn Λ,Af f=some (fn,Λ)->prog.funcs[f]? = some fn/\∀ c E',fn.body=some c->bP prog E' Λ c 0:=λf fn Λ h=>by
 simp only[Af,cu] at h;split at h
 ·rename_i hf;subst hf;cases h;exact⟨by kernel_rfl,λc E' _=>aY c 0⟩
 ·cases h
def XB:CxOK prog Md:=cZ aG F8 trivial (gG XA N5)
def N6:∀ f fn Λ,Ag f=some (fn,Λ)->prog.funcs[f]? = some fn/\∀ c E',fn.body=some c->bP prog E' Λ c 0:=λf fn Λ h=>by
 simp only[Ag,cu] at h;split at h
 ·rename_i hf;subst hf;cases h;exact⟨by kernel_rfl,λc E' _=>aY c 0⟩
 ·split at h
  ·rename_i hf;subst hf;cases h;exact⟨by kernel_rfl,λc E' _=>aY c 0⟩
  ·cases h
def XD:CxOK prog XC:=cZ aG F8 trivial (gG XB N6)
def mR (q:Int):Fr (aa [i64,i64]):=Jb (decide (q>4000000000000000000)) (Jv (0,5,())) (Jv (I6.wrap q,0,()))
def oI (q r c:Int):Fr (aa [i64,i64]):=
 Jb (decide (q>4000000000000000000)) (Jv (0,5,()))
  (Jd ((r==IntKind.u64.wrap (c-r))=true->decide (r>IntKind.u64.wrap (c-r))=false->(2:Int)≠0)
   (Jb (bif decide (r>IntKind.u64.wrap (c-r)) then true else bif r==IntKind.u64.wrap (c-r) then q.tmod 2==1 else false) (mR (IntKind.u64.wrap (q+1))) (mR q)))
def PG (h l c:Int):Fr (aa [i64,i64]):=
 Jb (decide (h>=c)) (Jv (0,5,())) (Jd (h=0) (Jd (0<c) (oI (Az.f (h,l,c,())).1 (Az.f (h,l,c,())).2.1 c)))
def BS (x:ag [.d i64,.d i64,.d i64]):Fr (aa [i64,i64]):=
 let a:=mD.f (IntKind.u64.wrap x.1,IntKind.u64.wrap x.2.1,());Jb (bif bif decide (x.1<0) then true else decide (x.2.1<0) then true else decide (x.2.2.1<0)) (Jv (0,1,()))
  (Jb (x.2.2.1==0) (Jv (0,6,()))
   (PG a.1 a.2.1 (IntKind.u64.wrap x.2.2.1)))
def jF (p c:Int):Int:=if p%c>c-p%c\/(p%c=c-p%c/\p/c%2=1) then p/c+1 else p/c
def cP (a b c:Int):Int×Int:=if a<0\/b<0\/c<0 then (0,1) else if c=0 then (0,6) else if jF (a*b) c>4000000000000000000 then (0,5) else (jF (a*b) c,0)
def NQ (a b c:Bool):(bif bif a then true else b then true else c)=(a || (b || c)):=by cases a<;>cases b<;>rfl
def PH {q:Int} (h:0<=q):(mR q).ok/\(mR q).get=if q>4000000000000000000 then (0,5,()) else (q,0,()):=by
 refine⟨⟨λ_=>uT,λ_=>uT⟩,?_⟩;show(if decide (q>4000000000000000000)=true then ((0:Int),(5:Int),()) else (I6.wrap q,(0:Int),()))=_;by_cases hq:q>4000000000000000000
 ·rw[if_pos (by simpa using hq),if_pos hq]
 ·have hw:I6.wrap q=q:=cz (by omega);rw[if_neg (by simpa using hq),if_neg hq,hw]
def PJ {q r c:Int} (hr:0<=r/\r<c) (hc:c<=9223372036854775807) (hq:0<=q) :
  (oI q r c).ok/\(oI q r c).get=if (if r>c-r\/(r=c-r/\q%2=1) then q+1 else q)>4000000000000000000 then (0,5,()) else ((if r>c-r\/(r=c-r/\q%2=1) then q+1 else q),0,()):=by
 have hw:IntKind.u64.wrap (c-r)=c-r:=dx (by omega);have hm:q.tmod 2=q%2:=Int.tmod_eq_emod_of_nonneg hq;unfold oI;rw[hw,hm];by_cases h1:q>4000000000000000000
 ·have hd:decide (q>4000000000000000000)=true:=by simpa using h1
  refine⟨⟨λ_=>uT,λhb=>by rw[hd] at hb; cases hb⟩,?_⟩;show(if decide (q>4000000000000000000)=true then ((0:Int),(5:Int),()) else _)=_;rw[hd,if_pos rfl,if_pos];split<;>omega
 ·have hd:decide (q>4000000000000000000)=false:=by simpa using h1
  have hcond:(bif decide (r>c-r) then true else bif r==c-r then q%2==1 else false)=decide (r>c-r\/(r=c-r/\q%2=1)):=by
   rw[udt];simp
  rw[hcond];have hw2:IntKind.u64.wrap (q+1)=q+1:=dx (by omega);rw[hw2];have f1:=PH (q:=q+1) (by omega);have f2:=PH hq;refine⟨⟨λ_=>uT,λ_=>⟨λ_ _=>by decide,λ_=>f1.1,λ_=>f2.1⟩⟩,?_⟩;show(if decide (q>4000000000000000000)=true then ((0:Int),(5:Int),()) else if decide (r>c-r\/(r=c-r/\q%2=1))=true then (mR (q+1)).get else (mR q).get)=_;rw[hd,if_neg (by decide),f1.2,f2.2];by_cases h2:r>c-r\/(r=c-r/\q%2=1)
  ·simp only[h2,decide_true,if_true]
  ·simp only[h2,decide_false,ufl,ub1]
def qg5 {b c:Int} (ha : -9223372036854775808<=a/\a<=9223372036854775807) (hb : -9223372036854775808<=b/\b<=9223372036854775807) (hc : -9223372036854775808<=c/\c<=9223372036854775807)
  (hp:0<=a->0<=b->a*b<18446744073709551616):(BS (a,b,c,())).ok/\(BS (a,b,c,())).get=((cP a b c).1,(cP a b c).2,()):=by
 unfold BS;simp only[NQ];by_cases hn:a<0\/b<0\/c<0
 ·have hd:(decide (a<0) || (decide (b<0) || decide (c<0)))=true:=by simpa using hn
  rw[hd];refine⟨⟨λ_=>uT,λhx=>by cases hx⟩,?_⟩;unfold cP;rw[if_pos hn];rfl
 ·have hd:(decide (a<0) || (decide (b<0) || decide (c<0)))=false:=by simpa using hn
  rw[hd];have ha0:0<=a:=by omega
  have hb0:0<=b:=by omega
  have hc0:0<=c:=by omega
  have hab0:=ud7 ha0 hb0;rw[show IntKind.u64.wrap a=a from dx (by omega),show IntKind.u64.wrap b=b from dx (by omega),show IntKind.u64.wrap c=c from dx (by omega)];have e1:(mD.f (a,b,())).1=0:=by
   show a*b/18446744073709551616=0;omega
  have e2:(mD.f (a,b,())).2.1=a*b:=by
   show a*b%18446744073709551616=a*b;omega
  rw[e1,e2];unfold cP;rw[if_neg hn];by_cases hz:c=0
  ·subst hz;refine⟨⟨λhx=>(by cases hx),λ_=>⟨λ_=>uT,λhx=>by cases hx⟩⟩,rfl⟩
  ·have hz':(c==0)=false:=by simpa using hz
   rw[if_neg hz,hz'];have hcp:0<c:=by omega
   have hge:decide ((0:Int)>=c)=false:=by simpa using hcp
   have key:=PJ (r:=a*b%c) ⟨Int.emod_nonneg _ (by omega),Int.emod_lt_of_pos _ hcp⟩ hc.2 (udg hab0 hc0);unfold PG;rw[hge];refine⟨⟨λhx=>(by cases hx),λ_=>⟨λhx=>(by cases hx),λ_=>⟨λhx=>(by cases hx),λ_=>⟨rfl,hcp,key.1⟩⟩⟩⟩,?_⟩;show(oI (a*b/c) (a*b%c) c).get=_;rw[key.2];unfold jF;generalize (if a*b%c>c-a*b%c\/a*b%c=c-a*b%c/\a*b/c%2=1 then a*b/c+1 else a*b/c)=z;split<;>rfl
def qv:Ct:=⟨[.d i64,.d i64,.d i64],[i64,i64],λx=>((cP x.1 x.2.1 x.2.2.1).1,(cP x.1 x.2.1 x.2.2.1).2,()),λx=>[0<=x.1->0<=x.2.1->x.1*x.2.1<18446744073709551616]⟩
def qg4:af prog 143 qv:=
 flat (ps:=[.d i64,.d i64,.d i64]) (rs:=[i64,i64]) XD (fn:=f143) (fr:=BS) (0,0,0,()) (by kernel_rfl) (λx=>by kernel_rfl) _ _
  (λw F x vs hr hok=>by
   obtain⟨a,b,c,u⟩:=x;obtain⟨v1,vs1,rfl,h1,v2,vs2,rfl,h2,v3,vs3,rfl,h3,_⟩:=hr;exact qg5 (uf h1) (uf h2) (uf h3) hok)
def sw:Fr α->Fr α
 |.br true x _=>sw x
 |.br false _ y=>sw y
 |.need p x=>.need p (sw x)
 |.val v=>.val v
def E5:{f:Fr α}->(sw f).ok->f.ok/\f.get=(sw f).get
 |.br true x _,h=>by
  have:=E5 (f:=x) h;exact⟨⟨λ_=>this.1,λhb=>(by cases hb)⟩,this.2⟩
 |.br false _ y,h=>by
  have:=E5 (f:=y) h;exact⟨⟨λhb=>(by cases hb),λ_=>this.1⟩,this.2⟩
 |.need _ x,h=>by
  have:=E5 h.2;exact⟨⟨h.1,this.1⟩,this.2⟩
 |.val _,_=>⟨uT,rfl⟩
def zdm {f g:Fr α} (h:sw f=g) (hg:g.ok):f.ok/\f.get=g.get:=by
 subst h;exact E5 hg
def cQ {ps:List PT} {rs:List Ty} {fr:ag ps->Fr (aa rs)} (h:af P f (bg ps rs fr)) (g:ag ps->aa rs) (ok:ag ps->List Prop)
  (hg:∀ w F xs vs,cJ P w F ps xs vs->av (ok xs)->(fr xs).ok/\(fr xs).get=g xs):af P f ⟨ps,rs,g,ok⟩:=
 conv h g ok hg
noncomputable def qk8 (x:ag [.d u64]):Fr (aa [i64]):=(mf prog (cx [] []) bw f236 [.d u64] [i64] x).getD (Jd False (Jv (0,())))
def qk9:sw (qk8 (10000,()))=Jd (¬ (8:Int)<0) (Jd (0<=(39:Int)/\(39:Int)<((256:Nat):Int)) (Jv (14,()))):=by kernel_rfl
def Gt:Ct:=⟨[.d u64],[i64],λ_=>(14,()),λx=>[x.1=10000]⟩
def qqh:af prog 236 Gt:=
 cQ (aS (aP (cs:=[]) (ps:=[]) aG trivial trivial) f236) _ _
  (λw F x vs _ hok=>by
   obtain⟨n,_⟩:=x;have hn:=hok;subst hn;exact zdm qk9 ⟨by decide,⟨by decide,by decide⟩,uT⟩)
def Ov:Ct:=⟨[.d u64],[i64],λ_=>(50,()),λx=>[x.1=10000]⟩
def qtk:af prog 227 Ov:=
 conv (aS (aP (cs:=[(236,Gt)]) (ps:=[]) aG ⟨qqh,uT⟩ trivial) f227 (fr:=λx=>Jd (x.1=10000) (Jv (I6.wrap (64-(Gt.f (x.1,())).1),()))) (ps:=[.d u64])) _ _
  (λw F x vs _ hok=>⟨⟨hok,uT⟩,rfl⟩)
abbrev dU:PT:=.d u64
def nR:LS:=⟨[(2,dU),(8,dU),(9,dU),(10,dU),(11,dU),(13,dU),(14,dU),(15,dU),(16,dU)],[]⟩
def nS:LS:=⟨[(2,dU),(8,dU),(9,dU),(10,dU),(13,dU),(14,dU),(15,dU),(16,dU),(17,dU),(18,dU)],[]⟩
def uW:Pt:=⟨135,0,nR,nR,⟨[],[]⟩⟩
def uX:Pt:=⟨135,2,nS,nS,⟨[],[]⟩⟩
def iR (q yn r u:Int):Bool:=bif decide (q>=4294967296) then true else decide (IntKind.u64.wrap (q*yn)>IntKind.u64.wrap (IntKind.u64.wrap (4294967296*r)+u))
def PN (x:nR.X):Fr uW.Out:=
 match x with
 |((y,s,a,b,c,d,e,q,r,_),_)=>Jb (iR q b r d)
  (Jb (decide (IntKind.u64.wrap (r+a)>=4294967296))
   (Jv (Rd.out ((y,s,a,b,c,d,e,IntKind.u64.wrap (q-1),IntKind.u64.wrap (r+a),()),())))
   (Jv (Rd.next ((y,s,a,b,c,d,e,IntKind.u64.wrap (q-1),IntKind.u64.wrap (r+a),()),()))))
  (Jv (Rd.out ((y,s,a,b,c,d,e,q,r,()),())))
def PO (x:nS.X):Fr uX.Out:=
 match x with
 |((y,s,a,b,d,e,q,r,u,v,_),_)=>Jb (iR v b r e)
  (Jb (decide (IntKind.u64.wrap (r+a)>=4294967296))
   (Jv (Rd.out ((y,s,a,b,d,e,q,IntKind.u64.wrap (r+a),u,IntKind.u64.wrap (v-1),()),())))
   (Jv (Rd.next ((y,s,a,b,d,e,q,IntKind.u64.wrap (r+a),u,IntKind.u64.wrap (v-1),()),()))))
  (Jv (Rd.out ((y,s,a,b,d,e,q,r,u,v,()),())))
def Zu (x:nR.X):Fr uW.Out:=Jd (iR x.1.2.2.2.2.2.2.2.1 x.1.2.2.2.1 x.1.2.2.2.2.2.2.2.2.1 x.1.2.2.2.2.2.1=false) (Jv (.out x))
def Zv (x:nS.X):Fr uX.Out:=Jd (iR x.1.2.2.2.2.2.2.2.2.2.1 x.1.2.2.2.1 x.1.2.2.2.2.2.2.2.1 x.1.2.2.2.2.2.1=false) (Jv (.out x))
noncomputable def CD:Cx:=cx [(227,Ov)] []
def EE:CxOK prog CD:=aP aG ⟨qtk,uT⟩ trivial
def qyv:ae prog (au f211 0) nR uW PN:=ae.of_run EE (bs:=0) rfl rfl rfl (λ_=>aY _ 0) (λx=>by kernel_rfl)
def qyw:ae prog (au f211 1) nS uX PO:=ae.of_run EE (bs:=0) rfl rfl rfl (λ_=>aY _ 0) (λx=>by kernel_rfl)
def qf2:ae prog (.loop (au f211 0)) nR uW Zu:=
 ae.loop qyv (μ:=λ_=>0)
  (by
   rintro⟨⟨y,s,a,b,c,d,e,q,r,_⟩,_⟩ hinv Q hq;exact⟨λh=>(by rw[show iR q b r d=false from hinv] at h; cases h),λ_=>hq.2⟩)
  (λx Q h=>h.1)
def qf3:ae prog (.loop (au f211 1)) nS uX Zv:=
 ae.loop qyw (μ:=λ_=>0)
  (by
   rintro⟨⟨y,s,a,b,d,e,q,r,u,v,_⟩,_⟩ hinv Q hq;exact⟨λh=>(by rw[show iR v b r e=false from hinv] at h; cases h),λ_=>hq.2⟩)
  (λx Q h=>h.1)
abbrev wU (n:Int):Int:=IntKind.u64.wrap n
def eh (a:Int):Int:=wU (a*2 ^ min (wU 50).toNat IntKind.u64.bits)
def l9 (hi lo:Int):Int:=wU ((BitVec.ofInt IntKind.u64.bits (eh hi) ||| BitVec.ofInt IntKind.u64.bits (lo.fdiv (2 ^ min (wU (64-wU 50)).toNat IntKind.u64.bits))).toNat:Int)
def dQ (u y:Int):Int:=wU (u.tdiv (bC (eh y)))
def dR (u y:Int):Int:=wU (u-wU (dQ u y*bC (eh y)))
def mJ (hi lo y:Int):Int:=wU (wU (wU (l9 hi lo*4294967296)+bC (eh lo))-wU (dQ (l9 hi lo) y*eh y))
def qk4 (hi lo y:Int):Fr (aa [u64,u64]):=
 let k:=¬ (32:Int)<0;let h:=ft (eh y);let g:=bC (eh y)≠0;let d:=eh lo;let c:=l9 hi lo;let b:=¬ wU 50<0;let a:=mJ hi lo y;Jd (y=10000) (Jd b (Jd k (Jd b (Jd (¬ wU (64-wU 50)<0) (Jd b (Jd k
  (Jd g
   (Jd (iR (dQ c y) h (dR c y) (bC d)=false)
    (Jd g
     (Jd (iR (dQ a y) h (dR a y) (ft d)=false)
      (Jd b
       (Jv (wU (wU (dQ c y*4294967296)+dQ a y),
        (wU (wU (wU (mJ hi lo y*4294967296)+ft d)-wU (dQ a y*eh y))).fdiv (2 ^ min (wU 50).toNat IntKind.u64.bits),())))))))))))))
def xD (x:ag [dU,dU,dU]):Fr (aa [u64,u64]):=
 let a:=x.2.2.1;Jb (a==0) (Jd False (Jv (0,0,())))
  (Jb (decide (a<=x.1)) (Jd False (Jv (0,0,())))
   (Jb (x.1==0) (Jd (a≠0) (Jd (a≠0) (Jv (IntKind.u64.wrap (x.2.1.tdiv a),x.2.1.tmod a,()))))
    (qk4 x.1 x.2.1 a)))
def aR {b:Bool} {x y:Fr α} {v:α} (hb:b=false) (h:y.ok/\y.get=v):(Jb b x y).ok/\(Jb b x y).get=v:=by
 subst hb;exact⟨⟨λh=>(by cases h),λ_=>h.1⟩,h.2⟩
def aZ {b:Bool} {x y:Fr α} {v:α} (hb:b=true) (h:x.ok/\x.get=v):(Jb b x y).ok/\(Jb b x y).get=v:=by
 subst hb;exact⟨⟨λ_=>h.1,λh=>(by cases h)⟩,h.2⟩
def aF {x:Fr α} {v:α} (hp:p) (h:x.ok/\x.get=v):(Jd p x).ok/\(Jd p x).get=v:=⟨⟨hp,h.1⟩,h.2⟩
def qfk:af prog 211 (bg [dU,dU,dU] [u64,u64] xD):=
 oP EE qf2 qf3
def Vi:eh a=wU (a*1125899906842624):=by
 have e1:wU 50=50:=by decide
 have e2:min (50:Int).toNat IntKind.u64.bits=50:=by decide
 unfold eh;rfl
def qvg {b:Int} (h1:0<=a) (h2:0<=b) (h3:b<1125899906842624) (h4:a*1125899906842624<18446744073709551616) :
  wU ((BitVec.ofInt IntKind.u64.bits (a*1125899906842624) ||| BitVec.ofInt IntKind.u64.bits b).toNat:Int)=a*1125899906842624+b:=by
 obtain⟨m,rfl⟩:∃ m:Nat,a=m:=⟨a.toNat,by omega⟩;obtain⟨n,rfl⟩:∃ n:Nat,b=n:=⟨b.toNat,by omega⟩;have e1:(BitVec.ofInt IntKind.u64.bits ((m:Int)*1125899906842624)).toNat=m*1125899906842624:=by
  show(((m:Int)*1125899906842624)%((2 ^ 64:Nat):Int)).toNat=m*1125899906842624;omega
 have e2:(BitVec.ofInt IntKind.u64.bits (n:Int)).toNat=n:=by
  show((n:Int)%((2 ^ 64:Nat):Int)).toNat=n;omega
 have e3:(m*1125899906842624 ||| n)=m*1125899906842624+n:=by
  have:=Nat.shiftLeft_add_eq_or_of_lt (i:=50) (b:=n) (by omega) m;rw[Nat.shiftLeft_eq] at this;have e:(2:Nat) ^ 50=1125899906842624:=by decide
  exact this.symm
 rw[BitVec.toNat_or,e1,e2,e3];show IntKind.u64.wrap _=_;rw[dx (by omega)];omega
def qfh {hi lo q1 q0 un32 un10 un1 un0 r1 un21:Int} (h1:0<=hi/\hi<10000) (h2:0<=lo/\lo<=18446744073709551615)
  (e32:un32=hi*1125899906842624+lo/16384) (e10:un10=lo*1125899906842624%18446744073709551616) (e1:un1=un10/4294967296) (e0:un0=un10%4294967296)
  (eq1:q1=un32/2621440000) (er:r1=un32-q1*2621440000) (e21:un21=r1*4294967296+un1) (eq0:q0=un21/2621440000) :
  un0=0/\0<=un1/\un1<4294967296/\0<=q1/\q1<4294967296/\0<=r1/\r1<2621440000/\0<=q0/\q0<4294967296/\q1*4294967296+q0=(hi*18446744073709551616+lo)/10000/\(un21-q0*2621440000)*4294967296/1125899906842624=(hi*18446744073709551616+lo)%10000:=by
 have a1:un1=(lo%16384)*262144:=by omega
 have a0:un0=0:=by omega
 have a2:0<=un1/\un1<4294967296:=by omega
 have b1:0<=q1/\q1<4294967296:=by omega
 have b2:0<=r1/\r1<2621440000:=by omega
 have b3:0<=q0/\q0<4294967296:=by omega
 refine⟨a0,a2.1,a2.2,b1.1,b1.2,b2.1,b2.2,b3.1,b3.2,?_,?_⟩
 ·omega
 ·omega
def SV {q r u:Int} (h1:0<=q/\q<4294967296):iR q 0 r u=false:=by
 unfold iR;have e1:decide (q>=4294967296)=false:=by simp; omega
 rw[e1,Int.mul_zero];have e2:IntKind.u64.wrap 0=0:=by decide
 have:0<=IntKind.u64.wrap (IntKind.u64.wrap (4294967296*r)+u):=by
  rw[IntKind.wrap_u64];omega
 simp;omega
def Pv {u:Int} (h:0<=u/\u<18446744073709551616):wU (u.tdiv 2621440000)=u/2621440000:=by
 rw[Int.tdiv_eq_ediv_of_nonneg h.1];exact dx (by omega)
def g1L {q1 q0:Int} (h1:0<=q1/\q1<4294967296) (h0:0<=q0/\q0<4294967296):wU (wU (q1*4294967296)+q0)=q1*4294967296+q0:=by
 rw[show wU (q1*4294967296)=q1*4294967296 from dx (by omega)];exact dx (by omega)
def g2L {u q0:Int} (hq:q0=u/2621440000) (hu:0<=u/\u<18446744073709551616):wU (wU (wU (u*4294967296)+0)-wU (q0*11258999068426240000))=(u-q0*2621440000)*4294967296:=by
 simp only[IntKind.wrap_u64];omega
def qgd {u q1 u1:Int} (h:0<=u-q1*2621440000/\u-q1*2621440000<2621440000) (h1:0<=u1/\u1<4294967296):wU (wU (wU (u*4294967296)+u1)-wU (q1*11258999068426240000))=(u-q1*2621440000)*4294967296+u1:=by
 simp only[IntKind.wrap_u64];omega
def zch {r u1:Int} (h:0<=r/\r<2621440000) (h1:0<=u1/\u1<4294967296):0<=r*4294967296+u1/\r*4294967296+u1<18446744073709551616:=by omega
def zci {hi lo:Int} (h1:0<=hi/\hi<10000) (h2:0<=lo/\lo<=18446744073709551615):0<=hi*1125899906842624+lo/16384/\hi*1125899906842624+lo/16384<18446744073709551616:=by omega
def qfg {hi lo:Int} (h0:hi≠0) (h1:0<=hi/\hi<10000) (h2:0<=lo/\lo<=18446744073709551615) :
  (xD (hi,lo,10000,())).ok/\(xD (hi,lo,10000,())).get=((hi*18446744073709551616+lo)/10000,(hi*18446744073709551616+lo)%10000,()):=by
 have ey:eh 10000=11258999068426240000:=by decide
 have ey1:bC (eh 10000)=2621440000:=by decide
 have ey0:ft (eh 10000)=0:=by decide
 have es:eh hi=hi*1125899906842624:=by rw[Vi]; exact dx (by omega)
 have eu:l9 hi lo=hi*1125899906842624+lo/16384:=by
  unfold l9;have e1:lo.fdiv (2 ^ min (wU (64-wU 50)).toNat IntKind.u64.bits)=lo/16384:=by
   have:(2:Int) ^ min (wU (64-wU 50)).toNat IntKind.u64.bits=16384:=by decide
   rw[this,uag _ (by decide)]
  rw[e1,es];exact qvg (by omega) (by omega) (by omega) (by omega)
 have el:eh lo=lo*1125899906842624%18446744073709551616:=by rw[Vi]; exact IntKind.wrap_u64 _
 have hs:0<=eh lo/\eh lo<=18446744073709551615:=by rw[el]; omega
 have eU1:bC (eh lo)=eh lo/4294967296:=IJ;have eU0:=CF hs;have eq1:dQ (l9 hi lo) 10000=l9 hi lo/2621440000:=by
  unfold dQ;rw[ey1,eu];exact Pv (zci h1 h2)
 obtain⟨k0,k1,k2,k3,k4,k5,k6,k7,k8,k9,k10⟩:=qfh h1 h2 eu el eU1 eU0 eq1 rfl rfl rfl;have e21:mJ hi lo 10000=(l9 hi lo-dQ (l9 hi lo) 10000*2621440000)*4294967296+bC (eh lo):=by
  unfold mJ;exact qgd ⟨k5,k6⟩ ⟨k1,k2⟩
 have b21:=zch ⟨k5,k6⟩ ⟨k1,k2⟩;rw[<- e21] at k7 k8 k9 k10 b21;have eq0:dQ (mJ hi lo 10000) 10000=mJ hi lo 10000/2621440000:=by
  unfold dQ;exact Pv b21
 rw[<- eq0] at k7 k8 k9 k10;have g1:wU (wU (dQ (l9 hi lo) 10000*4294967296)+dQ (mJ hi lo 10000) 10000)=(hi*18446744073709551616+lo)/10000:=by
  rw[<- k9];exact g1L ⟨k3,k4⟩ ⟨k7,k8⟩
 have g2:(wU (wU (wU (mJ hi lo 10000*4294967296)+ft (eh lo))-wU (dQ (mJ hi lo 10000) 10000*eh 10000))).fdiv (2 ^ min (wU 50).toNat IntKind.u64.bits)=(hi*18446744073709551616+lo)%10000:=by
  have e50:(2:Int) ^ min (wU 50).toNat IntKind.u64.bits=1125899906842624:=by decide
  rw[e50,ey,k0,uag _ (by decide),<- k10,g2L eq0 b21]
 have hge:¬ (10000:Int)<=hi:=by omega
 have h0':(hi==0)=false:=by simpa using h0
 refine aR rfl (aR (udr hge) (aR h0' ?_));refine aF rfl (aF (by decide) (aF (by decide) (aF (by decide) (aF (by decide) (aF (by decide) (aF (by decide) (aF ?_ (aF ?_ (aF ?_ (aF ?_ (aF (by decide) ⟨uT,?_⟩)))))))))))
 ·rw[ey1]; decide
 ·rw[ey0]; exact SV ⟨k3,k4⟩
 ·rw[ey1]; decide
 ·rw[ey0]; exact SV ⟨k7,k8⟩
 ·exact ufn g1 (ufn g2 rfl)
def A0:Ct:=⟨[dU,dU,dU],[u64,u64],λx=>((x.1*18446744073709551616+x.2.1)/x.2.2.1,(x.1*18446744073709551616+x.2.1)%x.2.2.1,()),λx=>[(x.1=0/\0<x.2.2.1)\/(x.2.2.1=10000/\x.1<10000)]⟩
def qfe {lo:Int} (b2:0<=lo/\lo<=18446744073709551615) (hy:0<y):(xD (0,lo,y,())).ok/\(xD (0,lo,y,())).get=((0*18446744073709551616+lo)/y,(0*18446744073709551616+lo)%y,()):=by
 rw[Int.zero_mul,Int.zero_add];have e1:(y==0)=false:=by simp; omega
 have e2:¬ y<=(0:Int):=by omega
 have e3:y≠0:=by omega
 refine aR e1 (aR (udr e2) (aZ rfl (aF e3 (aF e3 ⟨uT,?_⟩))));exact ufn (IntWalk.u64_quo lo y ⟨b2.1,b2.2,by omega⟩) (ufn (IntWalk.rem_in lo y b2.1) rfl)
def qff : af prog 211 A0 :=
  cQ qfk _ _ (λw F x vs hr hok => by
    obtain⟨hi, lo, y, _⟩ := x
    obtain⟨v1, vs1, rfl, h1, v2, vs2, rfl, h2, v3, vs3, rfl, h3, _⟩ := hr
    have b1 := pP h1
    have b2 := pP h2
    have hok' : (hi = 0 /\ 0 < y) \/ (y = 10000 /\ hi < 10000) := hok
    have hcase : (hi = 0 /\ 0 < y) \/ (hi ≠ 0 /\ y = 10000 /\ hi < 10000) := by
      by_cases hz : hi = 0
      · exact .inl ⟨hz, by rcases hok' with h | h
                           · exact h.2
                           · rw[h.1]; decide⟩
      · rcases hok' with h | h
        · exact absurd h.1 hz
        · exact .inr ⟨hz, h⟩
    rcases hcase with ⟨rfl, hy⟩ | ⟨h0, rfl, hlt⟩
    · exact qfe b2 hy
    · exact qfg h0 ⟨b1.1, hlt⟩ b2)
abbrev An:List (FuncId×Ct):=[(210,mD),(211,A0)]
def F9:iz prog An:=⟨JD,qff,uT⟩
noncomputable def M8:Cx:=cx An []
noncomputable def M9:Cx:=cW An [] (fU prog M8 Af)
noncomputable def Zq:Cx:=cW An [] (fU prog M9 Ag)
def Zo:CxOK prog M8:=aP aG F9 trivial
def Zp:CxOK prog M9:=cZ aG F9 trivial (gG Zo N5)
def Zr:CxOK prog Zq:=cZ aG F9 trivial (gG Zp N6)
def Bq (h l c:Int):Fr (aa [i64,i64]):=
 Jb (decide (h>=c)) (Jv (0,5,())) (Jd ((h=0/\0<c)\/(c=10000/\h<10000)) (oI (A0.f (h,l,c,())).1 (A0.f (h,l,c,())).2.1 c))
def BT (x:ag [.d i64,.d i64,.d i64]):Fr (aa [i64,i64]):=
 let a:=mD.f (IntKind.u64.wrap x.1,IntKind.u64.wrap x.2.1,());Jb (bif bif decide (x.1<0) then true else decide (x.2.1<0) then true else decide (x.2.2.1<0)) (Jv (0,1,()))
  (Jb (x.2.2.1==0) (Jv (0,6,()))
   (Bq a.1 a.2.1 (IntKind.u64.wrap x.2.2.1)))
def qgx {p c:Int} (hp:0<=p) (hc:0<c) (hc2:c<=9223372036854775807) (h:p<18446744073709551616\/c=10000) :
  (Bq (p/18446744073709551616) (p%18446744073709551616) c).ok/\(Bq (p/18446744073709551616) (p%18446744073709551616) c).get=if jF p c>4000000000000000000 then (0,5,()) else (jF p c,0,()):=by
 have hsum:p/18446744073709551616*18446744073709551616+p%18446744073709551616=p:=by omega
 have hr1:=Int.emod_nonneg p (b:=c) (by omega);have hr2:=Int.emod_lt_of_pos p hc;have hq:=udg hp (uep hc);by_cases hge:p/18446744073709551616>=c
 ·refine aZ (ud6 hge) ⟨uT,?_⟩;rcases h with h|h
  ·omega
  ·subst h;have:jF p 10000>4000000000000000000:=by
    unfold jF;split<;>omega
   rw[if_pos this];rfl
 ·have hneed:(p/18446744073709551616=0/\0<c)\/(c=10000/\p/18446744073709551616<10000):=by
   rcases h with h|h
   ·exact .inl ⟨by omega,hc⟩
   ·exact .inr ⟨h,by omega⟩
  refine aR (udr hge) (aF hneed ?_);show(oI ((p/18446744073709551616*18446744073709551616+p%18446744073709551616)/c) ((p/18446744073709551616*18446744073709551616+p%18446744073709551616)%c) c).ok/\(oI ((p/18446744073709551616*18446744073709551616+p%18446744073709551616)/c) ((p/18446744073709551616*18446744073709551616+p%18446744073709551616)%c) c).get=_;rw[hsum];have key:=PJ ⟨hr1,hr2⟩ hc2 hq;refine⟨key.1,?_⟩;rw[key.2];rfl
def qg3 {b c:Int} (ha : -9223372036854775808<=a/\a<=9223372036854775807) (hb : -9223372036854775808<=b/\b<=9223372036854775807) (hc : -9223372036854775808<=c/\c<=9223372036854775807)
  (hp:0<=a->0<=b->a*b<18446744073709551616\/c=10000):(BT (a,b,c,())).ok/\(BT (a,b,c,())).get=((cP a b c).1,(cP a b c).2,()):=by
 unfold BT;simp only[NQ];by_cases hn:a<0\/b<0\/c<0
 ·have hd:(decide (a<0) || (decide (b<0) || decide (c<0)))=true:=by simpa using hn
  refine aZ hd ⟨uT,?_⟩;unfold cP;rw[if_pos hn];rfl
 ·have hd:(decide (a<0) || (decide (b<0) || decide (c<0)))=false:=by simpa using hn
  have ha0:0<=a:=by omega
  have hb0:0<=b:=by omega
  have hab0:=ud7 ha0 hb0;refine aR hd ?_;rw[show IntKind.u64.wrap a=a from dx (by omega),show IntKind.u64.wrap b=b from dx (by omega),show IntKind.u64.wrap c=c from dx (by omega)];unfold cP;rw[if_neg hn];by_cases hz:c=0
  ·refine aZ (by simpa using hz) ⟨uT,?_⟩;rw[if_pos hz];rfl
  ·refine aR (by simpa using hz) ?_;have key:=qgx hab0 (by omega) hc.2 (hp ha0 hb0);refine⟨key.1,?_⟩;show(Bq (a*b/18446744073709551616) (a*b%18446744073709551616) c).get=_;rw[key.2];split<;>rfl
def Gj:Ct:=⟨[.d i64,.d i64,.d i64],[i64,i64],λx=>((cP x.1 x.2.1 x.2.2.1).1,(cP x.1 x.2.1 x.2.2.1).2,()),λx=>[0<=x.1->0<=x.2.1->x.1*x.2.1<18446744073709551616\/x.2.2.1=10000]⟩
def qg2:af prog 143 Gj:=
 flat (ps:=[.d i64,.d i64,.d i64]) (rs:=[i64,i64]) Zr (fn:=f143) (fr:=BT) (0,0,0,()) (by kernel_rfl) (λx=>by kernel_rfl) _ _
  (λw F x vs hr hok=>by
   obtain⟨a,b,c,u⟩:=x;obtain⟨v1,vs1,rfl,h1,v2,vs2,rfl,h2,v3,vs3,rfl,h3,_⟩:=hr;exact qg3 (uf h1) (uf h2) (uf h3) hok)
def bpF (m b:Int):Int×Int:=cP m b 10000
def iC:Ct:=⟨[.d i64,.d i64],[i64,i64],λx=>((bpF x.1 x.2.1).1,(bpF x.1 x.2.1).2,()),λ_=>[]⟩
noncomputable def Zs:Cx:=cx [(143,Gj)] []
def Zt:CxOK prog Zs:=aP aG ⟨qg2,uT⟩ trivial
def wL:af prog 96 iC:=
 flat (ps:=[.d i64,.d i64]) (rs:=[i64,i64]) Zt (fn:=f96) (fr:=λx=>Jd (0<=x.1->0<=x.2.1->x.1*x.2.1<18446744073709551616\/(10000:Int)=10000) (Jv (Gj.f (x.1,x.2.1,10000,())))) (0,0,()) (by kernel_rfl) (λx=>by kernel_rfl) _ _
  (λw F x vs hr hok=>⟨⟨λ_ _=>.inr rfl,uT⟩,rfl⟩)
end Go.Proofs.YtmcjmjbeknbddaaGreat
