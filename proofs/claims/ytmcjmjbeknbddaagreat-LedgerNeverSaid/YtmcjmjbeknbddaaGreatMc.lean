/-
  Parts of the proof, one behind the other.
-/
import Derived.Test.YtmcjmjbeknbddaaGreatMb
import Derived.Orders
import Derived.Scope
import Derived.Laws.Sem
import Derived.KernelRfl
import Derived.Recover
import Derived.Carry
import Derived.ChangeSame
import Derived.ProofKit
import Derived.OpenShut
import Derived.ChangeCalls
set_option linter.all false
set_option maxRecDepth 100000
set_option maxHeartbeats 4000000
open Go Go.RowKit
variable {T α σ ρ β:Type} {P:Program} {ad:Addr} {arr cs cur:Array Value} {f:FuncId} {x a y day:Int} {k:IntKind} {l:List Int} {xs vs news:List Value} {off i n b c d j B m len:Nat} {F F' K:Nat->Prop} {R g R':Nat->Value->Prop} {o:Oper} {p:Prop} {e ety t ty el:TypeId} {v u vx:Value} {w w' W' W:World}
namespace Go.Ab
open Go Go.RowKit
structure Env where
 w0:World
 F0:Nat->Prop
 G:Nat->Value
 D:List Deferred
 B:Nat
 hB:B<=w0.heap.size
section
variable {P:Program} {B:Nat} {o:Oper} {a:Act} {w w':World} {E:Env} {F F':Nat->Prop} {γ γ' γ0:Nat->Value} {M m:aT} {R:Nat->Value->Prop} {Γ:Gm}
def Wp {tm:Tmp->Value} {c:Operand} {want:Bool} {x:AV} (hc:∀ t,c = .tmp t->tm t = .bool want) (h:i7 P w F R tm x u):i7 P w F R tm (Ev c want x) u:=by
 unfold Ev;split
 ·rename_i g w0 v;split
  ·rename_i t;split
   ·rename_i hgt;obtain⟨rfl,rfl⟩:=hgt;have hv:=h (hc g rfl);cases v<;>first|exact hv|exact hv.elim
   ·exact h
  ·exact h
 ·exact h
def qwe {p:Bool} {x y v:AV} (h:yA p x y=some v):fX x=true/\fX y=true:=by
 unfold yA at h;split at h<;>first|exact⟨rfl,rfl⟩|cases h
def Hi (hΓ:kN P Γ) {op:Op} {vs:List AV} {e:Eff} (ho:o.op=op) (hm:MemOK P B w F γ M) (hb:∀ b,F b->b<w.heap.size) (hB:B<=w.heap.size)
  (hsub:∀ i y,m i=some y->M i=some y) (hd:m d=none->M d=none) (hc:Bg P Γ d op vs m=some e) (hn:av e.need)
  (hr:nV P w F (ap M γ) (λg=>a.tmps.getD g undef) vs (op.operands.toList.map a.eval)):sV P B o a w F γ M e.v e.wr:=by
 unfold Bg at hc;split at hc
 ·rename_i c ao bo;split at hc<;>try trivial
  rename_i p x y;split at hc<;>try trivial
  rename_i v hv;cases hc;obtain⟨hcv,hx,hy,_⟩:=hr;obtain⟨_,hcv⟩:=hcv;simp only[bc] at hcv;obtain⟨n1,n2⟩:=qwe hv;have htm:∀ want,p=want->∀ t,c = .tmp t->a.tmps.getD t undef = .bool want:=by
   rintro want rfl t rfl;exact hcv
  have hx':=λhp=>(Wp (htm true hp) hx).plain n1;have hy':=λhp=>(Wp (htm false hp) hy).plain n2;have hrr:=qwf hv hx' hy';refine dl hm hb ?_ hrr;unfold execOp;rw[ho];simp[hcv,asBool]
 ·split at hc<;>try trivial
  rename_i hnm;split at hc
  ·rename_i h2;cases hc;exact qeg hΓ ho hm hb hB hsub hd h2 hn (hr.plain hnm)
  ·exact qef hΓ ho hm hb hB hsub hd hc hn (hr.plain hnm)
def dP (P:Program) (w:World) (F:Nat->Prop) (R:Nat->Value->Prop) (tm:Tmp->Value):AV->Value->Prop
 |.maybe g want v,u=>(tm g = .bool want->aE P w F R v u)/\(tm g ≠ .bool want->u=undef)
 |v,u=>aE P w F R v u
def dP.toM {tm:Tmp->Value} {x:AV} (h:dP P w F R tm x u):i7 P w F R tm x u:=by
 cases x<;>first|exact h|exact h.1
def dP.mono {tm:Tmp->Value} {x:AV} (hF:∀ b,F b->F' b) (hw:∀ b,F b->w'.heap[b]? = w.heap[b]?) (hR:∀ id v,R id v->R' id v) (h:dP P w F R tm x u):dP P w' F' R' tm x u:=by
 cases x with
 |maybe g want v=>exact⟨λhg=>aE.mono hF hw hR v (h.1 hg),h.2⟩
 |dead=>trivial
 |c a=>exact aE.mono hF hw hR (.c a) h
 |agg cs=>exact aE.mono hF hw hR (.agg cs) h
 |tup vs=>exact aE.mono hF hw hR (.tup vs) h
 |optr _ _ _ _=>exact aE.mono (P:=P) hF hw hR (.optr _ _ _ _) h
 |aptr _ _ _=>exact aE.mono hF hw hR (.aptr _ _ _) h
structure InvG (P:Program) (E:Env) (st:St) (a:Act) (w:World) (W:List Tmp) (F:Nat->Prop) (γ:Nat->Value):Prop where
 n:a.tmps.size=st.n
 df:a.defers=E.D
 step:∃ γ0,Step E.B E.w0 E.F0 γ0 (λ_=>none) w F γ st.mem
 mem:MemOK P E.B w F γ st.mem
 sl:∀ t,dP P w F (ap st.mem γ) (λg=>a.tmps.getD g undef) (st.sl t) (a.tmps.getD t undef)
 hg:∀ t g want v,st.sl t = .maybe g want v->g∈W
 gh:∀ t,aE P w F (ap st.mem γ) (st.gs t) (E.G t)
def Rp {sl:Nat->AV} {tm:Tmp->Value} (h:∀ t,dP P w F R tm (sl t) (tm t)):(n:Nat) -> {g:Tmp} -> {want:Bool} -> {gs:List (Tmp×Bool×Bool)}->nh sl n g want=some gs->tm g = .bool want ->
  ∀ x∈gs,tm x.1 = .bool x.2.1/\x.2.2=x.2.1
 |0,_,_,_,hh,_=>by simp[nh] at hh
 |n+1,g,want,gs,hh,hg=>by
  have hs:=h g;unfold nh at hh;split at hh<;>try trivial
  ·rename_i b hsl;cases hh;rw[hsl] at hs;have:tm g = .bool b:=hs.2;rw[hg] at this;cases this;intro x hx;simp at hx;subst hx;exact⟨hg,rfl⟩
  ·rename_i g0 w0 b hsl;split at hh<;>try trivial
   rename_i l hl;cases hh;rw[hsl] at hs;by_cases hg0:tm g0 = .bool w0
   ·have:=(hs.1 hg0).2;rw[hg] at this;cases this;intro x hx;rcases uee.1 hx with rfl|hx
    ·exact⟨hg,rfl⟩
    ·exact Rp h n hl hg0 x hx
   ·have:=hs.2 hg0;rw[hg] at this;simp[undef] at this
def zck {gs:List (Tmp×Bool×Bool)} (h:gs.foldr (λx q=>x.2.2=x.2.1->q) p) (hg:∀ x∈gs,x.2.2=x.2.1):p:=by
 induction gs with
 |nil=>exact h
 |cons x gs ih=>exact ih (h (hg x (by simp))) (λy hy=>hg y (by simp[hy]))
def zcj {gs:List (Tmp×Bool×Bool)} {ns:List Prop} (h:av (L4 gs ns)) (hg:∀ x∈gs,x.2.2=x.2.1):av ns:=by
 induction ns with
 |nil=>trivial
 |cons p ns ih=>
  have h':av (gs.foldr (λx q=>x.2.2=x.2.1->q) p::L4 gs ns):=h;rw[je] at h' |-;exact⟨zck h'.1 hg,ih h'.2⟩
def zcm {tm:Tmp->Value} {gs:List (Tmp×Bool×Bool)} {x:AV} (hg:∀ x∈gs,tm x.1 = .bool x.2.1) (h:i7 P w F R tm x u):i7 P w F R tm (pZ gs x) u:=by
 unfold pZ;split
 ·rename_i g want v;split
  ·rename_i hany;obtain⟨y,hy,he⟩:=List.any_eq_true.1 hany;simp at he;obtain⟨rfl,rfl⟩:=he;have hv:=h (hg y hy);cases v<;>first|exact hv|exact hv.elim
  ·exact h
 ·exact h
def Du (a:Act) (d:Option Tmp) (v:Value) (t:Tmp) (hd:∀ x,d=some x->x<a.tmps.size):(a.put d v).tmps.getD t undef=if d=some t then v else a.tmps.getD t undef:=by
 cases d with
 |none=>simp[Act.put]
 |some x=>
  have hx:=hd x rfl;by_cases h:x=t
  ·subst h;simp[Act.put,hx]
  ·have:(some x=some t)=False:=by simp[h]
   simp only[Act.put,this];simp[uaa h]
def Br {sl:Nat->AV} (h:∀ t,dP P w F R (λg=>a.tmps.getD g undef) (sl t) (a.tmps.getD t undef)) (x:Operand):i7 P w F R (λg=>a.tmps.getD g undef) (gC sl x) (a.eval x):=by
 cases x with
 |tmp t=>exact(h t).toM
 |const v=>
  have:=tf (P:=P) (w:=w) (F:=F) (R:=R) v;show i7 _ _ _ _ _ (lu v) v;unfold lu at *;split
  ·split<;>simp_all[i7]
  ·trivial
  ·simp_all[i7]
 |global g=>trivial
 |func f=>exact⟨rfl,#[],rfl,rfl,uT⟩
def oH {sl:Nat->AV} (h:∀ t,dP P w F R (λg=>a.tmps.getD g undef) (sl t) (a.tmps.getD t undef)):(xs:List Operand)->nV P w F R (λg=>a.tmps.getD g undef) (xs.map (gC sl)) (xs.map a.eval)
 |[]=>trivial
 |x::r=>⟨Br h x,oH h r⟩
def PK {sl:Nat->AV} {gs:List (Tmp×Bool×Bool)} (hg:∀ x∈gs,a.tmps.getD x.1 undef = .bool x.2.1) (h:∀ t,dP P w F R (λg=>a.tmps.getD g undef) (sl t) (a.tmps.getD t undef)) :
  (xs:List Operand)->nV P w F R (λg=>a.tmps.getD g undef) (xs.map λx=>pZ gs (gC sl x)) (xs.map a.eval)
 |[]=>trivial
 |x::r=>⟨zcm hg (Br h x),PK hg h r⟩
def yV (sl:Nat->AV) (d:Option Tmp) (v:AV) (t:Nat):e8 sl d v t=if d=some t then v else sl t:=by
 cases d with
 |none=>simp[e8]
 |some x=>
  by_cases h:t=x
  ·subst h; simp[e8]
  ·simp[e8,h,Ne.symm h]
def lJ {st:St} {W:List Tmp} {d:Option Tmp} {v:AV} {wr:List (Nat×Ob)} (hi:InvG P E st a w W F γ) (hd:∀ x,d=some x->x<st.n/\x ∉ W) (hs:Step E.B w F γ st.mem w' F' γ' (ax st.mem wr)) (hm:MemOK P E.B w' F' γ' (ax st.mem wr))
  (hv:dP P w' F' (ap (ax st.mem wr) γ') (λg=>a.tmps.getD g undef) v u) (hvg:∀ g want y,v = .maybe g want y->g∈W) :
  InvG P E ⟨st.n,e8 st.sl d v,ax st.mem wr,st.gs⟩ (a.put d u) w' (d.toList++W) F' γ':=by
 have hget:=λt=>Du a d u t (λx hx=>by rw[hi.n]; exact(hd x hx).1);have htm:∀ g,g∈W->(a.put d u).tmps.getD g undef=a.tmps.getD g undef:=λg hg=>by
  rw[hget,if_neg];intro he;exact(hd g he).2 hg
 have hcongr:∀ (x:AV) (y:Value),(∀ g want z,x = .maybe g want z->g∈W)->dP P w' F' (ap (ax st.mem wr) γ') (λg=>a.tmps.getD g undef) x y->dP P w' F' (ap (ax st.mem wr) γ') (λg=>(a.put d u).tmps.getD g undef) x y:=by
  intro x y hx h;cases x with
  |maybe g want z=>
   have:=htm g (hx g want z rfl);exact⟨λhh=>h.1 (this.symm.trans hh),λhh=>h.2 (λh3=>hh (this.trans h3))⟩
  |_=>exact h
 refine⟨?_,?_,?_,hm,λt=>?_,λt g want z ht=>?_,λt=>hs.repA (hi.gh t)⟩
 ·show(a.put d u).tmps.size=st.n;rw[<- hi.n];cases d<;>simp[Act.put]
 ·rw[<- hi.df];cases d<;>rfl
 ·obtain⟨γ0,h0⟩:=hi.step;exact⟨γ0,h0.trans hs⟩
 ·rw[hget];simp only[yV];by_cases h:d=some t
  ·rw[if_pos h,if_pos h];exact hcongr v u hvg hv
  ·rw[if_neg h,if_neg h];exact hcongr _ _ (hi.hg t) ((hi.sl t).mono hs.hF hs.hw hs.hR)
 ·simp only[yV] at ht;by_cases h:d=some t
  ·rw[if_pos h] at ht;exact ua5 _ (hvg g want z ht)
  ·rw[if_neg h] at ht;exact ua5 _ (hi.hg t g want z ht)
def nM {st:St} {W:List Tmp} (hi:InvG P E st a w W F γ):E.B<=w.heap.size:=by
 obtain⟨γ0,h⟩:=hi.step;exact uek E.hB h.size
def dv {st:St} {W:List Tmp} (hi:InvG P E st a w W F γ):∀ b,F b->b<w.heap.size:=by
 obtain⟨γ0,h⟩:=hi.step;exact h.bd
def JQ (hΓ:kN P Γ) {ops:Array Oper} {st:St} {W:List Tmp} {e:Ef} {bs:Nat} (hi:InvG P E st a w W F γ) (he:dY P Γ bs ops.toList o st.sl st.mem=some e) (hn:av e.need)
  (hd:∀ x,o.dst=some x->x<st.n/\x ∉ W) (hgW:∀ j want g,o.guard=some (j,want)->(ops[j]?).bind (·.dst)=some g->g∈W) (K:Act->World->Prop) (Q:Exit->Act->World->Prop)
  (hK:∀ a' w' F' γ',InvG P E (e.go st) a' w' (o.dst.toList++W) F' γ'->K a' w') :
  if Region.wanted o (yielded ops a.tmps) then o.wp P a w K Q else K (a.put o.dst undef) w:=by
 have hrest:∀ (ks:List Nat) (i:Nat) (y:Ob),jq ks st.mem i=some y->st.mem i=some y:=by
  intro ks i y h;unfold jq at h;split at h
  ·exact h
  ·cases h
 have hrd:∀ (ks:List Nat) (d:Nat),jq (d::ks) st.mem d=none->st.mem d=none:=by
  intro ks d h;unfold jq at h;simpa using h
 unfold dY at he;split at he
 ·
  rename_i hgd;have hw:Region.wanted o (yielded ops a.tmps)=true:=by simp[Region.wanted,hgd]
  rw[if_pos hw];simp only at he;split at he<;>try trivial
  rename_i ef hcore;cases he;have howes:=Hi hΓ rfl hi.mem (dv hi) (nM hi) (hrest _) (hrd _ _) hcore hn (oH hi.sl _);refine howes K Q λu w' F' γ' hs hm ha=>hK _ w' F' γ' ?_;have hnm:fX ef.v=true:=by
   cases hv:ef.v with
   |maybe _ _ _=>rw[hv] at ha; exact ha.elim
   |_=>rfl
  refine lJ hi hd hs hm ?_ (λg want y hv=>by have hv':ef.v=_:=hv; rw[hv'] at hnm; cases hnm);cases hv:ef.v with
  |maybe _ _ _=>rw[hv] at hnm; cases hnm
  |_=>rw[hv] at ha; exact ha
 ·
  rename_i j want hgd;split at he<;>try trivial
  rename_i g hg;have hgj:(ops[j]?).bind (·.dst)=some g:=by simpa using hg
  have hgW':=hgW j want g hgd hgj;have hyield:(yielded ops a.tmps j==some want)=true↔a.tmps.getD g undef = .bool want:=by
   unfold yielded;rw[hgj];simp;cases hx:a.tmps[g]? with
   |none=>simp[hx,undef]
   |some y=>
    simp only[uac,hx,uda];cases y<;>simp
  split at he<;>try trivial
  rename_i gs hgs;simp only at he;split at he<;>try trivial
  rename_i ef hcore;split at he<;>try trivial
  rename_i hwr;cases he;by_cases hw:Region.wanted o (yielded ops a.tmps)=true
  ·rw[if_pos hw];have hgt:=hyield.1 (by simpa[Region.wanted,hgd] using hw);have hall:=Rp hi.sl 5 hgs hgt;have hneed:=zcj hn (λx hx=>(hall x hx).2);have howes:=Hi hΓ rfl hi.mem (dv hi) (nM hi) (hrest _) (hrd _ _) hcore hneed (PK (λx hx=>(hall x hx).1) hi.sl _);rw[hwr] at howes;refine howes K Q λu w' F' γ' hs hm ha=>hK _ w' F' γ' ?_;exact lJ hi hd hs hm ⟨λ_=>ha,λh=>absurd hgt h⟩ (λg' w'' y hv=>by cases hv; exact hgW')
  ·rw[if_neg hw];have hgt:=λh=>hw (by simpa[Region.wanted,hgd] using hyield.2 h);refine hK _ w F γ (lJ hi hd (Step.refl (dv hi)) hi.mem ⟨λh=>absurd h hgt,λ_=>rfl⟩ (λg' w'' y hv=>by cases hv; exact hgW'))
end
section
variable {P:Program} {B:Nat} {o:Oper} {a:Act} {w w':World} {E:Env} {F F':Nat->Prop} {b:Nat} {γ γ' γ0:Nat->Value} {M m:aT} {R:Nat->Value->Prop} {Γ:Gm}
def VU {op:Op} {t:Tmp} (h : .tmp t∈op.operands.toList):t∈wh op:=ub7.2 ⟨.tmp t,h,rfl⟩
def PM {sl sl':Nat->AV} {op:Op} (h:∀ t∈wh op,sl' t=sl t):op.operands.toList.map (gC sl')=op.operands.toList.map (gC sl):=
 List.map_congr_left λx hx=>by
  cases x with
  |tmp t=>exact h t (VU hx)
  |_=>rfl
def Ro {sl sl':Nat->AV}:(n:Nat) -> {g:Tmp} -> {want:Bool} -> {gs:List (Tmp×Bool×Bool)}->nh sl n g want=some gs->(∀ t∈gs.map (·.1),sl' t=sl t)->nh sl' n g want=some gs
 |0,_,_,_,h,_=>by simp[nh] at h
 |n+1,g,want,gs,h,hs=>by
  unfold nh at h |-;split at h<;>try trivial
  ·rename_i b hb;cases h;rw[hs g (by simp),hb]
  ·rename_i g0 w0 b hb;split at h<;>try trivial
   rename_i l hl;cases h;rw[hs g (by simp),hb];simp only;rw[Ro n hl (λt ht=>hs t (by simp only[ueg,uee]; exact .inr ht))]
def qkx {A C:Type} {l:List A} {f g:A->List C} (h:∀ i∈l,f i=g i):l.flatMap f=l.flatMap g:=by
 induction l with
 |nil=>rfl
 |cons x l ih=>rw[List.flatMap_cons,List.flatMap_cons,h x (by simp),ih (λi hi=>h i (ubh _ hi))]
def Sj {op:Op} {vs:List AV} {m m':aT} (h:∀ k∈uw op vs m,m' k=m k):uw op vs m'=uw op vs m:=by
 unfold uw at *;split
 ·rename_i hm;refine ufm (List.flatMap uh vs ++ ·) (qkx λi hi=>?_);rw[h i (ubi _ hi)]
 ·rfl
 ·rfl
def U4 {ks:List Nat} {m m':aT} (h:∀ k∈ks,m' k=m k):jq ks m'=jq ks m:=by
 funext i;unfold jq;split
 ·rename_i hc;exact h i (by simpa using hc)
 ·rfl
def P2 {ops:List Oper} {sl sl':Nat->AV} {m m':aT} {e:Ef} (he:dY P Γ b ops o sl m=some e) (hs:∀ t∈e.rd,sl' t=sl t) (hk:∀ k∈e.ks,m' k=m k):dY P Γ b ops o sl' m'=some e:=by
 unfold dY at he |-;split at he
 ·rename_i hgd;simp only at he |-;split at he<;>try trivial
  rename_i ef hcore;cases he;have h1:=PM hs;rw[h1,Sj (λk hk'=>hk k (ubh _ hk')),U4 hk,hcore]
 ·rename_i j want hgd;split at he<;>try trivial
  split at he<;>try trivial
  rename_i gs hgs;simp only at he;split at he<;>try trivial
  rename_i ef hcore;split at he<;>try trivial
  rename_i hwr;cases he;rw[Ro 5 hgs (λt ht=>hs t (ubi _ ht))];simp only;have h1:(o.op.operands.toList.map λx=>pZ gs (gC sl' x))=(o.op.operands.toList.map λx=>pZ gs (gC sl x)):=
   List.map_congr_left λx hx=>by
    cases x with
    |tmp t=>show pZ gs (sl' t)=pZ gs (sl t); rw[hs t (ua5 _ (VU hx))]
    |_=>rfl
  rw[h1,Sj (λk hk'=>hk k (ubh _ hk')),U4 hk,hcore];simp only[hwr]
def Wt {u:List (Nat×Ob)} {k:Nat} (h:∀ x∈u,x.1≠k) (M:aT):ax M u k=M k:=by
 induction u generalizing M with
 |nil=>rfl
 |cons x u ih=>
  obtain⟨id,ob⟩:=x;simp only[ax];rw[ih (λy hy=>h y (ubh _ hy)),fa _ _ (Ne.symm (h (id,ob) (by simp)))]
def zcn {x y:Ob} (h:i≠j) (M:aT):upd (upd M i x) j y=upd (upd M j y) i x:=by
 funext k;unfold upd;by_cases h1:k=i<;>by_cases h2:k=j<;>simp_all
def zcr {u:List (Nat×Ob)} {x:Ob} (h:∀ y∈u,i≠y.1) (M:aT):ax (upd M i x) u=upd (ax M u) i x:=by
 induction u generalizing M with
 |nil=>rfl
 |cons y u ih=>
  obtain⟨id,ob⟩:=y;simp only[ax];rw[zcn (h (id,ob) (by simp)),ih (λz hz=>h z (ubh _ hz))]
def zcq {u v:List (Nat×Ob)} (h:∀ x∈u,∀ y∈v,x.1≠y.1) (M:aT):ax (ax M u) v=ax (ax M v) u:=by
 induction u generalizing M with
 |nil=>rfl
 |cons x u ih=>
  obtain⟨id,ob⟩:=x;simp only[ax];rw[ih (λy hy z hz=>h y (ubh _ hy) z hz),zcr (λy hy=>h (id,ob) (by simp) y hy)]
def Cn {e f:Ef} (h:jI e f=true):(∀ t,e.dst=some t->t ∉ f.rd/\f.dst≠some t)/\(∀ t,f.dst=some t->t ∉ e.rd) /\
  (∀ x∈e.wr,x.1 ∉ f.ks)/\(∀ x∈e.wr,∀ y∈f.wr,x.1≠y.1)/\∀ y∈f.wr,y.1 ∉ e.ks:=by
 unfold jI at h;simp only[uc9] at h;obtain⟨⟨⟨h1,h2⟩,h3⟩,h4⟩:=h;refine⟨λt ht=>?_,λt ht=>?_,λx hx=>?_,λx hx y hy=>?_,λy hy=>?_⟩
 ·rw[ht] at h1;simpa using h1
 ·rw[ht] at h2;simpa using h2
 ·have:=uc5.1 h3 x hx;simp at this;simpa using this.1
 ·have:=uc5.1 h3 x hx;simp only[uc9] at this;have:=uc5.1 this.2 y hy;simpa using this
 ·have:=uc5.1 h4 y hy;simpa using this
def qz0 (sl:Nat->AV) {d e:Option Tmp} {x y:AV} (h:∀ t,d=some t->e≠some t):e8 (e8 sl d x) e y=e8 (e8 sl e y) d x:=by
 funext t;simp only[yV];by_cases h1:d=some t<;>by_cases h2:e=some t<;>simp_all
def QS {e f:Ef} (h:jI e f=true) (s:St):f.go (e.go s)=e.go (f.go s):=by
 obtain⟨h1,h2,h3,h4,h5⟩:=Cn h;unfold Ef.go;simp only[St.mk.injEq,true_and];exact⟨qz0 _ (λt ht=>(h1 t ht).2),zcq h4 _,uT⟩
def P0 {ops:List Oper} {e f:Ef} {s:St} (h:jI e f=true) (hf:dY P Γ b ops o (e.go s).sl (e.go s).mem=some f):dY P Γ b ops o s.sl s.mem=some f:=by
 obtain⟨h1,h2,h3,h4,h5⟩:=Cn h;refine P2 hf (λt ht=>?_) (λk hk=>?_)
 ·simp only[Ef.go,yV];rw[if_neg (λhh=>(h1 t hh).1 ht)]
 ·simp only[Ef.go];exact(Wt (λx hx hh=>h3 x hx (hh ▸ hk)) _).symm
def P1 {ops:List Oper} {e f:Ef} {s:St} (h:jI e f=true) (he:dY P Γ b ops o s.sl s.mem=some e):dY P Γ b ops o (f.go s).sl (f.go s).mem=some e:=by
 obtain⟨h1,h2,h3,h4,h5⟩:=Cn h;refine P2 he (λt ht=>?_) (λk hk=>?_)
 ·simp only[Ef.go,yV];rw[if_neg (λhh=>h2 t hh ht)]
 ·simp only[Ef.go];exact Wt (λx hx hh=>h5 x hx (hh ▸ hk)) _
end
section
variable {P:Program} {w w':World} {E:Env} {F F':Nat->Prop} {b:Nat} {γ γ' γ0:Nat->Value} {Γ:Gm} {ops:Array Oper} {es:List Ef}
structure StatOK (n:Nat) (ops:Array Oper):Prop where
 lt:∀ (i:Nat) (o:Oper) (t:Nat),ops[i]? = some o->o.dst=some t->t<n
 once:∀ (i j:Nat) (o o':Oper) (t:Nat),ops[i]? = some o->ops[j]? = some o'->o.dst=some t->o'.dst=some t->i=j
 guard:∀ (i:Nat) (o:Oper) (j:Nat) (want:Bool),ops[i]? = some o->o.guard=some (j,want)->j<i/\∃ e∈o.after,e.on=j/\Region.binds .any e=true
 back:∀ (i:Nat) (o:Oper),ops[i]? = some o->∀ e∈o.after,Region.binds .any e=true->e.on<i
def Vz:(l:List Oper)->(k:Nat)->(W:List Tmp)->pM n k W l=true->∀ (i:Nat) (o:Oper),l[i]? = some o ->
  (∀ t,o.dst=some t->t<n/\t ∉ W/\∀ (i':Nat) (o':Oper),i'<i->l[i']? = some o'->o'.dst≠some t) /\
  (∀ j want,o.guard=some (j,want)->j<k+i/\∃ e∈o.after,e.on=j/\Region.binds .any e=true) /\
  (∀ e∈o.after,Region.binds .any e=true->e.on<k+i)
 |[],_,_,_,i,o,h=>by simp at h
 |x::r,k,W,hs,i,o,h=>by
  simp only[pM,uc9] at hs;obtain⟨⟨⟨h1,h2⟩,h3⟩,h4⟩:=hs;cases i with
  |zero=>
   simp at h;subst h;refine⟨λt ht=>?_,λj want hg=>?_,λe he hb=>?_⟩
   ·rw[ht] at h1;simp at h1;exact⟨h1.1,h1.2,λi' _ hi'=>absurd hi' (Nat.not_lt_zero _)⟩
   ·rw[hg] at h2;simp only[uc9,ucs,List.any_eq_true,ufc] at h2;obtain⟨a,e,he,hb⟩:=h2;exact⟨a,e,ubf.1 he,hb⟩
   ·have:=uc5.1 h3 e (ubf.2 he);rw[hb] at this;simpa using this
  |succ i=>
   obtain⟨g1,g2,g3⟩:=Vz r (k+1) _ h4 i o h;refine⟨λt ht=>?_,λj want hg=>?_,λe he hb=>?_⟩
   ·obtain⟨a,b,c⟩:=g1 t ht;refine⟨a,λhh=>b (ua5 _ hh),λi' o' hi' ho'=>?_⟩;cases i' with
    |zero=>
     simp at ho';subst ho';intro hh;exact b (ubi _ (by simp[hh]))
    |succ i'=>
     exact c i' o' (by omega) ho'
   ·obtain⟨a,b⟩:=g2 j want hg;exact⟨by omega,b⟩
   ·have:=g3 e he hb;omega
def DH (h:pM n 0 [] ops.toList=true):StatOK n ops:=by
 have hs:=Vz ops.toList 0 [] h;have hget:∀ (i:Nat) (o:Oper),ops[i]? = some o->ops.toList[i]? = some o:=λi o ho=>by simpa using ho
 refine⟨λi o t ho ht=>((hs i o (hget i o ho)).1 t ht).1,λi j o o' t ho ho' ht ht'=>?_,λi o j want ho hg=>?_,λi o ho e he hb=>?_⟩
 ·rcases ucr i j with hlt|heq|hgt
  ·exact absurd ht (((hs j o' (hget j o' ho')).1 t ht').2.2 i o hlt (hget i o ho))
  ·exact heq
  ·exact absurd ht' (((hs i o (hget i o ho)).1 t ht).2.2 j o' hgt (hget j o' ho'))
 ·have:=(hs i o (hget i o ho)).2.1 j want hg;exact⟨by omega,this.2⟩
 ·have:=(hs i o (hget i o ho)).2.2 e he hb;omega
def fh (P:Program) (Γ:Gm) (b:Nat) (ops:Array Oper) (es:List Ef) (s':St):List Nat->St->Prop
 |[],s=>s=s'
 |i::r,s=>∃ o e,ops[i]? = some o/\es[i]? = some e/\dY P Γ b ops.toList o s.sl s.mem=some e/\fh P Γ b ops es s' r (e.go s)
def UW {s':St}:(l:List Oper)->(k:Nat)->(s:St)->(fs:List Ef)->pE P Γ b ops.toList l s=some (fs,s')->(∀ i o,l[i]? = some o->ops[k+i]? = some o) ->
  (∀ i e,fs[i]? = some e->es[k+i]? = some e)->fh P Γ b ops es s' (List.range' k l.length) s
 |[],k,s,fs,h,_,_=>by
  simp only[pE,ucj,uec] at h;exact h.2
 |o::r,k,s,fs,h,ho,he=>by
  simp only[pE] at h;split at h<;>try trivial
  rename_i e heff;split at h<;>try trivial
  rename_i es' s2 hr;cases h;refine⟨o,e,by simpa using ho 0 o rfl,by simpa using he 0 e rfl,heff,?_⟩;refine UW r (k+1) _ es' hr (λi o' hi=>?_) (λi e' hi=>?_)
  ·have:=ho (i+1) o' (by simpa using hi)
   rwa [show k+1+i=k+(i+1) by omega]
  ·have:=he (i+1) e' (by simpa using hi)
   rwa [show k+1+i=k+(i+1) by omega]
def yq:{l:List Nat}->l.Pairwise (· < ·)->l.Nodup
 |[],_=>List.Pairwise.nil
 |x::r,h=>by
  obtain⟨h1,h2⟩:=ub8.1 h;exact ub8.2 ⟨λy hy=>Nat.ne_of_lt (h1 y hy),yq h2⟩
def QJ {s':St}:(rem:List Nat)->(s:St)->fh P Γ b ops es s' rem s->rem.Pairwise (· < ·)->j∈rem ->
  (∀ i∈rem,i<j->∀ e f,es[i]? = some e->es[j]? = some f->jI e f=true) ->
  ∃ o f,ops[j]? = some o/\es[j]? = some f/\dY P Γ b ops.toList o s.sl s.mem=some f/\fh P Γ b ops es s' (rem.erase j) (f.go s)
 |[],_,_,_,hj,_=>by simp at hj
 |i::r,s,hr,hp,hj,hi=>by
  obtain⟨o,e,ho,he,heff,hr'⟩:=hr;by_cases hij:i=j
  ·subst hij;refine⟨o,e,ho,he,heff,?_⟩;rw[ubj];exact hr'
  ·have hjr:j∈r:=by
    rcases uee.1 hj with h|h
    ·exact absurd h.symm hij
    ·exact h
   have hlt:=(ub8.1 hp).1 j hjr;obtain⟨oj,f,hoj,hfj,hf,hrr⟩:=QJ r (e.go s) hr' (ub8.1 hp).2 hjr (λk hk hkj=>hi k (ubh _ hk) hkj);have hind:=hi i (by simp) hlt e f he hfj;refine⟨oj,f,hoj,hfj,P0 hind hf,?_⟩;rw[List.erase_cons_tail (by simpa using hij)];refine⟨o,e,ho,he,P1 hind heff,?_⟩;rw[<- QS hind];exact hrr
def nU (P:Program) (E:Env) (Γ:Gm) (b:Nat) (ops:Array Oper) (es:List Ef) (s':St) (rem:List Nat) (a:Act) (w:World):Prop:=
 ∃ st W F γ,InvG P E st a w W F γ/\(∀ t,t∈W↔∃ k o,ops[k]? = some o/\k ∉ rem/\o.dst=some t)/\fh P Γ b ops es s' rem st/\st.n=s'.n
def Uv (hΓ:kN P Γ) {s':St} {rem:List Nat} {a:Act} (hi:nU P E Γ b ops es s' rem a w) (hj:j∈rem) (hp:rem.Pairwise (· < ·))
  (hfront:∀ i∈rem,i<j->∀ e f,es[i]? = some e->es[j]? = some f->jI e f=true) (hguard:∀ o j' want,ops[j]? = some o->o.guard=some (j',want)->j' ∉ rem) (hst:StatOK s'.n ops)
  (hneed:∀ e∈es,av e.need) (K:Act->World->Prop) (Q:Exit->Act->World->Prop) (hK:∀ a' w',nU P E Γ b ops es s' (rem.erase j) a' w'->K a' w'):wpOp P ops Q j K a w:=by
 obtain⟨st,W,F,γ,hinv,hW,hruns,hn⟩:=hi;obtain⟨o,f,ho,hf,heff,hr⟩:=QJ rem st hruns hp hj hfront;have hnd:=yq hp;unfold wpOp;rw[ho];simp only;have key:=JQ hΓ hinv heff (hneed f (ube hf)) (λx hx=>⟨by rw[hn]; exact hst.lt j o x ho hx,λhxW=>by
   obtain⟨k,ok,hok,hk,hd⟩:=(hW x).1 hxW;have:=hst.once j k o ok x ho hok hx hd;subst this;exact hk hj⟩)
  (λj' want g hg hd=>by
   have h1:=hguard o j' want ho hg;cases ho':ops[j']? with
   |none=>rw[ho'] at hd; cases hd
   |some o'=>
    rw[ho'] at hd;exact(hW g).2 ⟨j',o',ho',h1,hd⟩)
  K Q (λa' w' F' γ' hinv'=>hK a' w' ⟨f.go st,_,F',γ',hinv',λt=>?_,hr,hn⟩)
 ·split
  ·rename_i hw;rw[if_pos hw] at key;exact .inl key
  ·rename_i hw;rw[if_neg hw] at key;exact key
 ·have hmem:∀ k,k ∉ rem.erase j↔k=j\/k ∉ rem:=λk=>by
   rw[hnd.mem_erase_iff];constructor
   ·intro h;by_cases hk:k=j
    ·exact .inl hk
    ·exact .inr λh'=>h ⟨hk,h'⟩
   ·rintro(h|h) ⟨h1,h2⟩
    ·exact h1 h
    ·exact h h2
  rw[udo,hW];constructor
  ·rintro(h|⟨k,ok,h1,h2,h3⟩)
   ·exact⟨j,o,ho,(hmem j).2 (.inl rfl),by simpa using h⟩
   ·exact⟨k,ok,h1,(hmem k).2 (.inr h2),h3⟩
  ·rintro⟨k,ok,h1,h2,h3⟩;rcases(hmem k).1 h2 with rfl|h
   ·rw[ho] at h1;cases h1;exact .inl (by simp[h3])
   ·exact .inr ⟨k,ok,h1,h,h3⟩
def TS {l:List Nat} (h:l.Pairwise (· < ·)) (j:Nat):(l.erase j).Pairwise (· < ·):=h.sublist List.erase_sublist
def Uw (hΓ:kN P Γ) {s':St} (hst:StatOK s'.n ops) (hneed:∀ e∈es,av e.need) (Q:Exit->Act->World->Prop) (hQ:∀ a w,nU P E Γ b ops es s' [] a w->Q .normal a w) :
  (m k:Nat)->∀ (a:Act) (w:World),nU P E Γ b ops es s' (List.range' k m) a w->wpOps P ops Q (List.range' k m) a w
 |0,k,a,w,h=>hQ a w h
 |m+1,k,a,w,h=>by
  rw[udb] at h;have hp:(k::List.range' (k+1) m).Pairwise (· < ·):=by
   rw[<- udb];exact uav
  refine Uv hΓ h (by simp) hp (λi hi hlt=>?_) (λo j' want ho hg hmem=>?_) hst hneed _ Q (λa' w' h'=>?_)
  ·rw[<- udb,ucu] at hi;omega
  ·have:=(hst.guard k o j' want ho hg).1;rw[<- udb,ucu] at hmem;omega
  ·rw[ubj] at h';exact Uw hΓ hst hneed Q hQ m (k+1) a' w' h'
def JA:(l:List Oper)->(acc:List Nat)->(∀ i,i<acc.length->(fW acc l)[i]? = acc[i]?) /\
  ∀ i o,l[i]? = some o->∃ m,(fW acc l)[acc.length+i]? = some m/\∀ b,m.testBit b=true->∃ e∈o.after,Region.binds .any e=true/\(b=e.on\/((fW acc l).getD e.on 0).testBit b=true)
 |[],acc=>⟨λi hi=>rfl,λi o h=>by simp at h⟩
 |x::r,acc=>by
  simp only[fW];generalize hm:x.after.toList.foldr (λe s=>if Region.binds .any e then 2 ^ e.on ||| acc.getD e.on 0 ||| s else s) 0=m;obtain⟨h1,h2⟩:=JA r (acc++[m]);have hpre:∀ i,i<acc.length->(fW (acc++[m]) r)[i]? = acc[i]? := λi hi=>by
   rw[h1 i (by simp; omega),uaj hi]
  refine⟨hpre,λi o ho=>?_⟩;cases i with
  |zero=>
   simp at ho;subst ho;refine⟨m,by rw[ueu,h1 acc.length (by simp)]; simp,λb hb=>?_⟩;have hfold:∀ (l:List Edge) , (∀ e∈l,e∈x.after)->(l.foldr (λe s=>if Region.binds .any e then 2 ^ e.on ||| acc.getD e.on 0 ||| s else s) 0).testBit b=true ->
     ∃ e∈x.after,Region.binds .any e=true/\(b=e.on\/((fW (acc++[m]) r).getD e.on 0).testBit b=true):=by
    intro l
    induction l with
    |nil=>intro _ h; simp at h
    |cons e l ih=>
     intro hl h;simp only[List.foldr_cons] at h;split at h
     ·rename_i hb';simp only[Nat.testBit_or,Nat.testBit_two_pow,udp,ucs] at h;rcases h with (h|h)|h
      ·exact⟨e,hl e (by simp),hb',.inl h.symm⟩
      ·refine⟨e,hl e (by simp),hb',.inr ?_⟩;by_cases hlt:e.on<acc.length
       ·rw[uah,hpre _ hlt,<- uah];exact h
       ·rw[uah,ua3 (by omega)] at h;simp at h
      ·exact ih (λe' he'=>hl e' (ubh _ he')) h
     ·exact ih (λe' he'=>hl e' (ubh _ he')) h
   exact hfold x.after.toList (λe he=>ubf.1 he) (by rw[hm]; exact hb)
  |succ i=>
   obtain⟨m',h3,h4⟩:=h2 i o ho;refine⟨m',?_,h4⟩;rw[ub4,ua6] at h3
   rwa [show acc.length+(i+1)=acc.length+1+i by omega]
def TR {k mask:Nat} {f:Ef}:(l:List Ef)->(i0:Nat)->CX k mask f i0 l=true->∀ i e,l[i]? = some e->i0+i<k->mask.testBit (i0+i)=true\/jI e f=true
 |[],_,_,i,e,h,_=>by simp at h
 |x::r,i0,hp,i,e,h,hlt=>by
  simp only[CX] at hp;rw[if_pos (by omega)] at hp;simp at hp;cases i with
  |zero=>
   simp at h;subst h;exact hp.1
  |succ i=>
   have:=TR r (i0+1) hp.2 i e h (by omega)
   rwa [show i0+(i+1)=i0+1+i by omega]
def TA (h:r9 ops.toList es=true) {e f:Ef} (hi:es[i]? = some e) (hj:es[j]? = some f) (hlt:i<j) :
  ((fW [] ops.toList).getD j 0).testBit i=true\/jI e f=true:=by
 unfold r9 at h;have:=uc5.1 h j (ud5.2 (uak.1 hj).1);rw[hj] at this;cases hm:(fW [] ops.toList)[j]? with
 |none=>rw[hm] at this; cases this
 |some m=>
  rw[hm] at this;have:=TR es 0 this i e hi (by omega);rw[uah,hm];simpa using this
def Uu (hΓ:kN P Γ) {s':St} (hst:StatOK s'.n ops) (hneed:∀ e∈es,av e.need) (hord:r9 ops.toList es=true) (Q:Exit->Act->World->Prop)
  (hQ:∀ a w,nU P E Γ b ops es s' [] a w->Q .normal a w) :
  (fuel:Nat)->∀ (rem:List Nat) (listed:Array Bool) (a:Act) (w:World),rem.length<=fuel->rem.Pairwise (· < ·)->listed.size=ops.size->(∀ i,i<ops.size->(listed.getD i true=false↔i∈rem))->(∀ i∈rem,i<ops.size) ->
   (∀ k,k<ops.size->k ∉ rem->∀ i,((fW [] ops.toList).getD k 0).testBit i=true->i ∉ rem)->nU P E Γ b ops es s' rem a w->wpAny P .any ops Q fuel listed a w
 |fuel,[],listed,a,w,_,_,hsz,hl,_,_,hi=>by
  have hnil:Region.ready .any ops listed=[]:=by
   apply List.eq_nil_iff_forall_not_mem.2;intro i hmem;obtain⟨h1,o,ho,_⟩:=ufi.1 hmem;have hlt:=(uaf.1 ho).1;simpa using (hl i hlt).1 h1
  cases fuel with
  |zero=>exact⟨hnil,hQ a w hi⟩
  |succ fuel=>exact⟨λ_=>hQ a w hi,λi hmem=>by rw[hnil] at hmem; simp at hmem⟩
 |0,i::r,_,_,_,hlen,_,_,_,_,_,_=>by simp at hlen
 |fuel+1,i::r,listed,a,w,hlen,hp,hsz,hl,hlt,hmask,hi=>by
  have hready:i∈Region.ready .any ops listed:=by
   have hio:=hlt i (by simp);refine ufi.2 ⟨(hl i hio).2 (by simp),ops[i],by simp,λe he hb=>?_⟩;have hback:=hst.back i ops[i] (by simp) e he hb;have hnot:e.on ∉ i::r:=λhh=>by
    rcases uee.1 hh with h|h
    ·omega
    ·have:=(ub8.1 hp).1 _ h;omega
   have h1:=λh=>hnot ((hl e.on (by omega)).1 h);have hsz':e.on<listed.size:=by omega
   simp only[uac,uam hsz'] at h1 |-;simpa using h1
  refine⟨λhnil=>by rw[hnil] at hready; simp at hready,λj hj=>?_⟩;obtain⟨hj1,o,ho,hjall⟩:=ufi.1 hj;have hjlt:=(uaf.1 ho).1;have hjrem:=(hl j hjlt).1 hj1;have hlisted:∀ b,listed.getD b false=true->b<ops.size/\b ∉ i::r:=λb hb=>by
   have hbs:b<listed.size:=by
    rcases uel b listed.size with h|h
    ·exact h
    ·simp[ua0 h] at hb
   refine⟨by omega,λhmem=>?_⟩;have:=(hl b (by omega)).2 hmem;simp only[uac,uam hbs,uda] at hb this;rw[hb] at this;cases this
  obtain⟨m,hm1,hm2⟩:=(JA ops.toList []).2 j o (by simpa using ho);simp at hm1;have hmj:∀ b,((fW [] ops.toList).getD j 0).testBit b=true->b ∉ i::r:=λb hb=>by
   rw[uah,hm1] at hb;obtain⟨e,he,hb',hor⟩:=hm2 b hb;obtain⟨h1,h2⟩:=hlisted e.on (hjall e he hb');rcases hor with rfl|h
   ·exact h2
   ·exact hmask e.on h1 h2 b h
  have hnd:=yq hp;refine Uv hΓ hi hjrem hp (λk hk hkj e f he hf=>?_) (λo' j' want ho' hg hmem=>?_) hst hneed _ Q (λa' w' h'=>?_)
  ·exact(TA hord he hf hkj).resolve_left λh=>hmj k h hk
  ·obtain⟨_,e,he,heq,hb⟩:=hst.guard j o' j' want ho' hg;rw[ho] at ho';cases ho';have:=(hlisted e.on (hjall e he hb)).2;rw[heq] at this;exact this hmem
  ·refine Uu hΓ hst hneed hord Q hQ fuel _ (listed.setIfInBounds j true) a' w' ?_ (TS hp j) (by simpa using hsz) (λk hk=>?_) (λk hk=>hlt k (ua7 hk)) (λk hk hkr b hb=>?_) h'
   ·rw[List.length_erase_of_mem hjrem];omega
   ·rw[hnd.mem_erase_iff];by_cases hkj:j=k
    ·subst hkj;simp[hsz]
    ·simp only[uac,uaa hkj];rw[<- uac,hl k hk];constructor
     ·exact λh=>⟨Ne.symm hkj,h⟩
     ·exact λh=>h.2
   ·rw[hnd.mem_erase_iff] at hkr |-;rintro⟨h1,h2⟩;by_cases hkj:k=j
    ·subst hkj;exact hmj b hb h2
    ·exact hmask k hk (λhh=>hkr ⟨hkj,hh⟩) b hb h2
end
section
variable {P:Program} {w w':World} {E:Env} {F F':Nat->Prop} {bs:Nat} {γ γ' γ0:Nat->Value} {Γ:Gm} {es:List Ef} {R:Nat->Value->Prop}
def I (P:Program) (E:Env) (s:St) (a:Act) (w:World):Prop:=∃ F γ,InvG P E s a w [] F γ
def RQ {st:St} {a:Act} {W:List Tmp} (h:InvG P E st a w W F γ):InvG P E st a { w with drawn:=w.drawn+1 } W F γ:=by
 obtain⟨h1,h2,⟨γ0,h3⟩,h4,h5,h6,h7⟩:=h;refine⟨h1,h2,⟨γ0,⟨h3.hF,h3.hw,h3.hR,h3.old,h3.os,h3.tape,h3.output,h3.size,h3.bd,h3.new⟩⟩,⟨λid o ho=>?_,h4.apart⟩,λt=>?_,h6,λt=>aE.mono (w:=w) (w':={ w with drawn:=w.drawn+1 }) (λ_ h=>h) (λ_ _=>rfl) (λ_ _ h=>h) _ (h7 t)⟩
 ·refine(h4.ob id o ho).keep (λ_ h=>h) (λ_ _=>rfl) (λ_ _ h=>h) (λb hb=>⟨rfl,?_⟩);exact(gZ (h4.ob id o ho) hb).2.1
 ·exact dP.mono (w:=w) (λ_ h=>h) (λ_ _=>rfl) (λ_ _ h=>h) (h5 t)
def oV {st:St} {a:Act} {W:List Tmp} (h:InvG P E st a w W F γ):InvG P E (fk st) a w [] F γ:=by
 obtain⟨h1,h2,h3,h4,h5,h6,h7⟩:=h;refine⟨h1,h2,h3,h4,λt=>?_,λt g want v ht=>?_,h7⟩
 ·have:=h5 t;show dP P w F _ _ (iF st.sl t) _;unfold iF;split
  ·trivial
  ·exact this
 ·exfalso;have ht':iF st.sl t = .maybe g want v:=ht;unfold iF at ht';split at ht'
  ·cases ht'
  ·rename_i hne;exact hne _ _ _ ht'
def UO {ops:List Oper} {s':St}:(l:List Oper)->(s:St)->(fs:List Ef)->pE P Γ bs ops l s=some (fs,s')->s'.n=s.n
 |[],s,fs,h=>by
  simp only[pE,ucj,uec] at h;rw[h.2]
 |o::r,s,fs,h=>by
  simp only[pE] at h;split at h<;>try trivial
  split at h<;>try trivial
  rename_i es' s2 hr;cases h;have:=UO r _ es' hr;exact this
def Tr.sat (Q:XE->St->Prop):Tr->Prop
 |.leaf e s=>Q e s
 |.br b x y=>(b=true->x.sat Q)/\(b=false->y.sat Q)
 |.need p x=>p/\x.sat Q
 |.two p x y=>(p->x.sat Q)/\y.sat Q
def wo {Q Q':XE->St->Prop} (h:∀ e s,Q e s->Q' e s):{t:Tr}->t.sat Q->t.sat Q'
 |.leaf _ _,hq=>h _ _ hq
 |.br _ _ _,hq=>⟨λhb=>wo h (hq.1 hb),λhb=>wo h (hq.2 hb)⟩
 |.need _ _,hq=>⟨hq.1,wo h hq.2⟩
 |.two _ _ _,hq=>⟨λhb=>wo h (hq.1 hb),wo h hq.2⟩
def jm {Q:XE->St->Prop} {t:Tr}:(ns:List Prop)->(needL ns t).sat Q->av ns/\t.sat Q
 |[],h=>⟨uT,h⟩
 |p::ns,h=>by
  have h':=h;obtain⟨h1,h2⟩:=jm ns h'.2;exact⟨je.2 ⟨h'.1,h1⟩,h2⟩
def JI {Q:XE->St->Prop} {t:Tr}:(es:List Ef)->(JH es t).sat Q->(∀ e∈es,av e.need)/\t.sat Q
 |[],h=>⟨λ_ he=>by simp at he,h⟩
 |e::es,h=>by
  have h':=jm _ h;obtain⟨h1,h2⟩:=JI es h'.2;exact⟨λx hx=>by
   rcases uee.1 hx with rfl|hx
   ·exact h'.1
   ·exact h1 x hx,h2⟩
def XE.ex:XE->Exit
 |.normal=>.normal
 |.exit id=>.exit id
 |.ret=>.ret
 |.panic p=>.panic [{ v:=p.val,recovered:=false }]
 |.val _=>.goto 0
 |.jump l=>.goto l
def eq (P:Program) (E:Env) (Q:XE->St->Prop) (e:Exit) (a:Act) (w:World):Prop:=∃ x s,x.ex=e/\I P E s a w/\Q x s
def Fb (P:Program) (E:Env) (a:Act) (Q:XE->St->Prop) (e:Ending) (w':World):Prop:=
 ∃ x s' F' γ',Q x s'/\InvG P E s' a w' [] F' γ'/\match x with
  |.val v=>∃ u,e = .returned u/\aE P w' F' (ap s'.mem γ') v u
  |.panic p=>e = .panicked [{ v:=p.val,recovered:=false }]
  |_=>False
def gQ (P:Program) (K:Nat->FuncId->List AV->St->Option Tr):Prop:=
 ∀ d f args s t,K d f args s=some t->(∀ args w,(callFunc f args).run P w = .ok (.enter f args) w) /\
  ∀ (E:Env) (a:Act) (w:World) (F:Nat->Prop) (γ:Nat->Value) (vs:List Value) (Q:XE->St->Prop),InvG P E s a w [] F γ->bj P w F (ap s.mem γ) args vs->t.sat Q->Calls P f vs.toArray w (Fb P E a Q)
structure CxOK (P:Program) (C:Cx):Prop where
 mo:P.follows .mixedOrders=true
 ct:kN P C.Γ
 pc:∀ f pc,C.Pi f=some pc->jz P f pc
 kk:gQ P C.K
def InvG.weaken {st:St} {a:Act} (h:InvG P E st a w [] F γ) (W:List Tmp):InvG P E st a w W F γ:=
 ⟨h.n,h.df,h.step,h.mem,h.sl,λt g want v ht=>absurd (h.hg t g want v ht) (by simp),h.gh⟩
def rW {tm:Tmp->Value}:{xs:List AV} -> {vs:List Value}->nV P w F R tm xs vs->xs.all fX=true->bj P w F R xs vs
 |[],[],_,_=>trivial
 |x::xs,v::vs,h,hn=>by
  simp only[uef,uc9] at hn;exact⟨h.1.plain hn.1,rW h.2 hn.2⟩
def OA {caps:List AC} (h1:arr.size=caps.length) (h2:aN P w F R caps (λj u=>arr[j]? = some u)):bj P w F R (caps.map .c) arr.toList:=by
 have:∀ (caps:List AC) (l:List Value),l.length=caps.length->aN P w F R caps (λj u=>l[j]? = some u)->bj P w F R (caps.map .c) l:=by
  intro caps
  induction caps with
  |nil=>
   intro l hl _;cases l with
   |nil=>trivial
   |cons _ _=>simp at hl
  |cons c r ih=>
   intro l hl h;cases l with
   |nil=>simp at hl
   |cons v l=>
    obtain⟨⟨u,h1,h2,h3⟩,h4⟩:=h;simp at h1;subst h1;exact⟨⟨h2,h3⟩,ih l (by simpa using hl) (by simpa using h4)⟩
 exact this caps arr.toList (by simpa using h1) (by simpa using h2)
def Dz:{xs ys:List AV} -> {vs us:List Value}->bj P w F R xs vs->bj P w F R ys us->bj P w F R (xs++ys) (vs++us)
 |[],_,[],_,_,h=>h
 |_::_,_,_::_,_,h,k=>⟨h.1,Dz h.2 k⟩
def Ko {tm:Tmp->Value}:{x:AV} -> {u:Value}->aE P w F R x u->dP P w F R tm x u
 |.dead,_,h=>h
 |.c _,_,h=>h
 |.agg _,_,h=>h
 |.tup _,_,h=>h
 |.optr _ _ _ _,_,h=>h
 |.aptr _ _ _,_,h=>h
 |.maybe _ _ _,_,h=>h.elim
def Tr.sat.turn {Q Q':XE->St->Prop} {t:Tr} (h:t.sat Q) (hq:∀ e s,Q e s->Q' e s):t.sat Q':=wo hq h
def JJ {A:Option Addr} (hu:P.underlying t=some (.slice el)):(Op.equalIn (d+1) t (.slice A n c) (.slice none 0 0)).run P w = .ok A.isNone w:=by
 cases A<;>simp[Op.equalIn,ud1 hu]
def qt8 {A:Option Addr} (hu:P.underlying t=some (.slice el)) (x y:Operand) :
  (do eqGuard .eql t x y (.slice A n c) (.slice none 0 0); binOp .eql t (.slice A n c) (.slice none 0 0):Sem Value).run P w = .ok (.bool A.isNone) w:=by
 have h1:binOp .eql t (.slice A n c) (.slice none 0 0)=(do pure (.bool (<- Op.equal t (.slice A n c) (.slice none 0 0)))):=rfl;have h2:Op.equal t (.slice A n c) (.slice none 0 0)=Op.equalIn (9999+1) t (.slice A n c) (.slice none 0 0):=rfl;have h3:=JJ (w:=w) (A:=A) (n:=n) (c:=c) (d:=9999) hu;rw[h1,h2];simp[eqGuard,h3]
def C7 {C:Cx} (hC:CxOK P C) {st:St} {a:Act} {t:Tr} {args:List AV} (hcl:InvG P E (fk st) a w [] F γ) (h:C.K d f args (fk st)=some t) (hargs:bj P w F (ap st.mem γ) args vs) (K:Act->World->Prop) (Q:Exit->Act->World->Prop)
  (hrun:(∀ args w,(callFunc f args).run P w = .ok (.enter f args) w)->(execOp a.eval o).run P w = .ok (.enter f vs.toArray) w)
  (hq:t.sat λx s'=>match x with
   |.val v=>∀ u w' F' γ',InvG P E s' a w' [] F' γ'->aE P w' F' (ap s'.mem γ') v u->K (a.put o.dst u) w'
   |.panic p=>∀ w',I P E s' a w'->Q (.panic [{ v:=p.val,recovered:=false }]) a w'
   |_=>True):o.wp P a w K Q:=by
 obtain⟨hen,hcalls⟩:=hC.kk _ _ _ _ _ h;have hc:=hcalls E a w F γ _ _ hcl hargs hq;unfold Oper.wp;rw[hrun hen];refine hc.mono λe w2 hp=>?_;obtain⟨x,s',F',γ',hx,hinv,hend⟩:=hp;cases x with
 |val v=>
  obtain⟨u,rfl,hu⟩:=hend;exact hx u w2 F' γ' hinv hu
 |panic p=>
  have he:e = .panicked [{ v:=p.val,recovered:=false }]:=hend;subst he;exact hx w2 ⟨F',γ',hinv⟩
 |normal=>exact hend.elim
 |exit _=>exact hend.elim
 |ret=>exact hend.elim
 |jump _=>exact hend.elim
def RR {a:Act} {recv:Operand} {name:String} {cargs:Array Operand} {ts:Array TypeId} {v0:Value} (ho:o.op = .call ⟨.invoke recv name,cargs,ts⟩) (hv:a.eval recv = .iface ty v0)
  (hm:(callMethod (.iface ty v0) name (cargs.map a.eval)).run P w=(callFunc f (#[u]++cargs.map a.eval)).run P w) (hen:∀ args w,(callFunc f args).run P w = .ok (.enter f args) w):(execOp a.eval o).run P w = .ok (.enter f (u::(cargs.map a.eval).toList).toArray) w:=by
 unfold execOp;rw[ho];simp only[resolve,ueo,ueq,uck,invoke,hv];have q1:(#[Value.iface ty v0]++Array.map a.eval cargs)[0]? = some (.iface ty v0):=by simp[Array.getElem?_append]
 have q2:(Array.map a.eval cargs).extract 0 cargs.size=Array.map a.eval cargs:=by
  have:cargs.size=(Array.map a.eval cargs).size:=by simp
  rw[this];exact Array.extract_size
 rw[q1];have q3:(#[Value.iface ty v0]++Array.map a.eval cargs).extract 1 (#[Value.iface ty v0]++Array.map a.eval cargs).size=Array.map a.eval cargs:=by simp[q2]
 simp only[q3];rw[hm,hen];simp
def Vp {C:Cx} (hC:CxOK P C) {st:St} {a:Act} {W:List Tmp} {t:Tr} (hi:InvG P E st a w W F γ) (h:ze P C b o st=some t) (K:Act->World->Prop) (Q:Exit->Act->World->Prop)
  (hq:t.sat λx s'=>match x with
   |.val v=>∀ u w' F' γ',InvG P E s' a w' [] F' γ'->aE P w' F' (ap s'.mem γ') v u->K (a.put o.dst u) w'
   |.panic p=>∀ w',I P E s' a w'->Q (.panic [{ v:=p.val,recovered:=false }]) a w'
   |_=>True):o.guard=none/\o.wp P a w K Q:=by
 have hcl:=oV hi;unfold ze at h;split at h<;>try trivial
 rotate_left
 ·rename_i f0 cargs ts f id args hg ho hvs;refine⟨hg,?_⟩;split at h<;>try trivial
  rename_i hall;have hev:=oH hi.sl o.op.operands.toList;rw[hvs] at hev;have hops:o.op.operands.toList.map a.eval=a.eval f0::(cargs.map a.eval).toList:=by simp[ho,Op.operands,Call.operands]
  rw[hops] at hev;obtain⟨⟨_,b',e1,e2⟩,hargs⟩:=hev;refine C7 hC hcl h (vs:=.pointer (some ⟨b',0,none⟩)::(cargs.map a.eval).toList) ⟨⟨rfl,b',e1,rfl⟩,rW hargs hall⟩ K Q (λhen=>?_) hq;unfold execOp;rw[ho];simp[resolve,e2,Deferred.ofValue,invoke,hen]
 ·rename_i recv name cargs ts ty id args hg ho hvs;refine⟨hg,?_⟩;have hev:=oH hi.sl o.op.operands.toList;rw[hvs] at hev;have hops:o.op.operands.toList.map a.eval=a.eval recv::(cargs.map a.eval).toList:=by simp[ho,Op.operands,Call.operands]
  rw[hops] at hev;obtain⟨⟨_,b',e1,e2⟩,hargs⟩:=hev;split at h<;>try trivial
  ·rename_i f hmeth;split at h<;>try trivial
   rename_i ety r hid;split at h<;>try trivial
   rename_i hall;obtain⟨b2,arr,q1,q2,q3,q4,q5,q6,q7⟩:=lw (off:=0) hi.mem hid ⟨b',e1,rfl⟩;cases q2;obtain⟨u,z1,z2,z3⟩:=q7.1;have hcell:w.cell? ⟨b',0,none⟩=some u:=by rw[tG q3]; exact z1
   exact C7 hC hcl h (vs:=u::(cargs.map a.eval).toList) ⟨⟨z2,z3⟩,rW hargs hall⟩ K Q (λhen=>RR ho e2 ((UU hmeth _ _).2 rfl u hcell) hen) hq
  ·rename_i f hmeth;split at h<;>try trivial
   rename_i hall;exact C7 hC hcl h (vs:=.pointer (some ⟨b',0,none⟩)::(cargs.map a.eval).toList) ⟨⟨rfl,b',e1,rfl⟩,rW hargs hall⟩ K Q (λhen=>RR ho e2 ((UU hmeth _ _).1 rfl) hen) hq
 ·rename_i t0 x0 y0 yt T l hg ho hvs;split at h<;>try (simp at h; done)
  rename_i el hu;simp at h;subst h;refine⟨hg,?_⟩;have hev:=oH hi.sl o.op.operands.toList;rw[hvs] at hev;have hops:o.op.operands.toList.map a.eval=[a.eval x0,a.eval y0]:=by simp[ho,Op.operands]
  rw[hops] at hev;obtain⟨⟨_,A,c,e1,e2,e3,e4⟩,⟨_,e5⟩,_⟩:=hev;have e1':=e1.symm;have e5':=e5;have hrun:(execOp a.eval o).run P w = .ok (.value (.bool A.isNone)) w:=by
   refine cL (by unfold execOp; rw[ho]) ?_;rw[e1',e5'];exact qt8 hu x0 y0
  unfold Oper.wp;rw[hrun];cases A with
  |none=>
   have hl:l=[]:=by
    cases l with
    |nil=>rfl
    |cons x r=>obtain⟨ad,h,_⟩:=e4 0 x rfl; cases h
   exact hq.1 hl _ w F γ hcl ⟨rfl,rfl⟩
  |some ad=>exact hq.2 _ w F γ hcl ⟨rfl,rfl⟩
 rename_i f0 cargs ts f caps args hg ho hvs;refine⟨hg,?_⟩;have hev:=oH hi.sl o.op.operands.toList;rw[hvs] at hev;have hops:o.op.operands.toList.map a.eval=a.eval f0::(cargs.map a.eval).toList:=by simp[ho,Op.operands,Call.operands]
 rw[hops] at hev;obtain⟨⟨_,hfv⟩,hargs⟩:=hev;obtain⟨cv,e1,e2,e3⟩:=hfv;have hcaps:=OA e2 e3;have hrun:(∀ args w,(callFunc f args).run P w = .ok (.enter f args) w)->(execOp a.eval o).run P w = .ok (.enter f (cargs.map a.eval++cv)) w:=λhen=>by
  unfold execOp;rw[ho];simp[resolve,e1,Deferred.ofValue,invoke,hen]
 have du:((cargs.map a.eval).toList++cv.toList).toArray=cargs.map a.eval++cv:=by simp
 split at h
 ·rename_i pc hpc;split at h<;>try trivial
  rename_i xs u hrs;split at h<;>try trivial
  rename_i x n hdec;cases h;obtain⟨hn,hq⟩:=jm _ hq;obtain⟨hn1,hn2⟩:=jd.1 hn;have hall:(args++caps.map AV.c).all fX=true:=by
   have:∀ (l:List AV) (u:List Value),(∃ xs u',dK st.mem l=some (xs,u'))->l.all fX=true:=by
    intro l
    induction l with
    |nil=>intros; rfl
    |cons y l ih=>
     rintro us ⟨xs,u',hx⟩;simp only[dK] at hx;split at hx<;>try trivial
     rename_i h1 h2;simp only[uef,uc9];refine⟨?_,ih [] ⟨_,_,h2⟩⟩;cases y<;>first|rfl|(simp[pD] at h1)
   exact this _ [] ⟨_,_,hrs⟩
  have hargs':bj P w F (ap st.mem γ) (args++caps.map AV.c) ((cargs.map a.eval).toList++cv.toList):=by
   refine Dz (rW hargs ?_) hcaps;rw[udj,uc9] at hall;exact hall.1
  obtain⟨F1,s1,m1,_,r1⟩:=iy hi.mem (dv hi) (cX.of λ_ _ h=>h) hrs hargs';have hps:=mK hC.ct hdec hn1 r1;obtain⟨hen,hcalls⟩:=hC.pc f pc hpc;have hc:=hcalls w F1 x _ s1.bd hps hn2;unfold Oper.wp;rw[hrun hen];rw[du] at hc;have hstate:∀ w2 F2,(∀ b,F1 b->F2 b)->(∀ b,F2 b->(F1 b\/w.heap.size<=b)/\b<w2.heap.size)->Below w.heap.size w w2->InvG P E (fk ⟨st.n,st.sl,ax st.mem u,st.gs⟩) a w2 [] F2 γ:=λw2 F2 hF2 hF2' hbel=>by
   obtain⟨s2,m2⟩:=Step.below m1 (nM hi) s1.bd hbel hF2 hF2';have s3:=s1.trans s2;refine oV ⟨hi.n,hi.df,?_,m2,λt=>(hi.sl t).mono s3.hF s3.hw s3.hR,hi.hg,λt=>s3.repA (hi.gh t)⟩;obtain⟨γ0,h0⟩:=hi.step;exact⟨γ0,h0.trans s3⟩
  refine hc.mono λe w2 hp=>?_;rcases hp with ⟨hbad,v2,F2,rfl,hbel,hF2,hF2',hrep⟩|⟨hbad,rfl,hbel⟩
  ·exact hq.2 hbad v2 w2 F2 γ (hstate w2 F2 hF2 hF2' hbel) (tN hrep)
  ·exact hq.1 hbad w2 ⟨F1,γ,hstate w2 F1 (λ_ h=>h) (λb hb=>⟨.inl hb,ub9 (s1.bd b hb) hbel.size⟩) hbel⟩
 ·
  split at h<;>try trivial
  rename_i hall;refine C7 hC hcl h (Dz (rW hargs hall) hcaps) K Q (λhen=>?_) hq;rw[du];exact hrun hen
def sy {f:AV->St->Option Tr} {Q:XE->St->Prop}:{t t':Tr}->t.bindV f=some t'->t'.sat Q->t.sat λe s=>match e with
  |.val v=>∃ u,f v s=some u/\u.sat Q
  |.panic p=>Q (.panic p) s
  |_=>False
 |.leaf e s,t',h,hq=>by
  cases e with
  |val v=>exact⟨t',h,hq⟩
  |panic p=>
   simp only[Tr.bindV,ucj] at h;subst h;exact hq
  |normal=>simp[Tr.bindV] at h
  |exit _=>simp[Tr.bindV] at h
  |ret=>simp[Tr.bindV] at h
  |jump _=>simp[Tr.bindV] at h
 |.br b x y,t',h,hq=>by
  simp only[Tr.bindV] at h;split at h<;>try trivial
  rename_i x' y' hx hy;cases h;exact⟨λhb=>sy hx (hq.1 hb),λhb=>sy hy (hq.2 hb)⟩
 |.need p x,t',h,hq=>by
  simp only[Tr.bindV] at h;split at h<;>try trivial
  rename_i x' hx;cases h;exact⟨hq.1,sy hx hq.2⟩
 |.two p x y,t',h,hq=>by
  simp only[Tr.bindV] at h;split at h<;>try trivial
  rename_i x' y' hx hy;cases h;exact⟨λhb=>sy hx (hq.1 hb),sy hy hq.2⟩
def JR {C:Cx} (hC:CxOK P C) {ops:Array Oper} (hst:StatOK n ops) {Q:XE->St->Prop}:(l:List Oper)->(k:Nat)->(∀ i o,l[i]? = some o->ops[k+i]? = some o)->∀ (st:St) (a:Act) (w:World) (W:List Tmp) (F:Nat->Prop) (γ:Nat->Value) (t:Tr),
  InvG P E st a w W F γ->st.n=n->(∀ x,x∈W↔∃ i o,i<k/\ops[i]? = some o/\o.dst=some x)->uR P C bs ops.toList l st=some t->t.sat Q->wpOps P ops (eq P E Q) (List.range' k l.length) a w
 |[],k,_,st,a,w,W,F,γ,t,hi,hn,hW,h,hq=>by
  simp only[uR,ucj] at h;subst h;exact⟨.normal,_,rfl,⟨F,γ,oV hi⟩,hq⟩
 |o::r,k,hl,st,a,w,W,F,γ,t,hi,hn,hW,h,hq=>by
  have hok:ops[k]? = some o:=by simpa using hl 0 o rfl
  have hl':∀ i o,r[i]? = some o->ops[k+1+i]? = some o:=λi o' hi'=>by
   have:=hl (i+1) o' (by simpa using hi')
   rwa [show k+1+i=k+(i+1) by omega]
  have hd:∀ x,o.dst=some x->x<st.n/\x ∉ W:=λx hx=>⟨by rw[hn]; exact hst.lt k o x hok hx,λhxW=>by
   obtain⟨i,oi,hik,hoi,hdi⟩:=(hW x).1 hxW;have:=hst.once k i o oi x hok hoi hx hdi;omega⟩
  have hW':∀ x,x∈o.dst.toList++W↔∃ i oi,i<k+1/\ops[i]? = some oi/\oi.dst=some x:=λx=>by
   rw[udo,hW];constructor
   ·rintro(h|⟨i,oi,h1,h2,h3⟩)
    ·exact⟨k,o,by omega,hok,by simpa using h⟩
    ·exact⟨i,oi,by omega,h2,h3⟩
   ·rintro⟨i,oi,h1,h2,h3⟩;by_cases hik:i=k
    ·subst hik;rw[hok] at h2;cases h2;exact .inl (by simp[h3])
    ·exact .inr ⟨i,oi,by omega,h2,h3⟩
  rw[uc6,udb,wpOps_cons];unfold wpOp;rw[hok];simp only;simp only[uR] at h;split at h
  ·rename_i e he;split at h<;>try trivial
   rename_i t' ht';cases h;obtain⟨hne,hq⟩:=jm _ hq;have key:=JQ hC.ct hi he hne hd (λj want g hg hdj=>by
    have hj:=(hst.guard k o j want hok hg).1;cases ho':ops[j]? with
    |none=>rw[ho'] at hdj; cases hdj
    |some o'=>
     rw[ho'] at hdj;exact(hW g).2 ⟨j,o',hj,ho',hdj⟩) (wpOps P ops (eq P E Q) (List.range' (k+1) r.length)) (eq P E Q)
    (λa' w' F' γ' hinv=>JR hC hst r (k+1) hl' _ a' w' _ F' γ' t' hinv hn hW' ht' hq)
   split
   ·rename_i hw;rw[if_pos hw] at key;exact .inl key
   ·rename_i hw;rw[if_neg hw] at key;exact key
  ·split at h<;>try trivial
   rename_i t1 ht1;have hsat:=sy h hq;obtain⟨hg,hwp⟩:=Vp hC hi ht1 (wpOps P ops (eq P E Q) (List.range' (k+1) r.length)) (eq P E Q) (hsat.turn λx s' hx=>by
    cases x with
    |val v=>
     obtain⟨u,hu,hqu⟩:=hx;intro v2 w2 F2 γ2 hinv hrep;have hn2:s'.n=n:=by
      have h1:=hinv.n;have h2:=hi.n;omega
     have hput:=lJ (wr:=[]) (hinv.weaken W) (λx hx=>⟨by rw[hn2]; exact hst.lt k o x hok hx,(hd x hx).2⟩) (Step.refl (dv hinv)) hinv.mem (Ko hrep) (λg want y hv=>by
      subst hv;exact hrep.elim)
     exact JR hC hst r (k+1) hl' _ _ w2 _ F2 γ2 u hput hn2 hW' hu hqu
    |panic p=>exact λw2 hinv=>⟨.panic p,s',rfl,hinv,hx⟩
    |normal=>trivial
    |exit _=>trivial
    |ret=>trivial
    |jump _=>trivial)
   have hw:Region.wanted o (yielded ops a.tmps)=true:=by simp[Region.wanted,hg]
   rw[if_pos hw];exact .inl hwp
def qvd (hΓ:kN P Γ) {ops:Array Oper} {st:St} {a:Act} {W:List Tmp} {e:Ef} (hg:o.guard=none) (hi:InvG P E st a w W F γ) (he:dY P Γ bs ops.toList o st.sl st.mem=some e) (hn:av e.need)
  (hd:∀ x,o.dst=some x->x<st.n/\x ∉ W) (K:Act->World->Prop) (Q:Exit->Act->World->Prop)
  (hK:∀ u w' F' γ',InvG P E (e.go st) (a.put o.dst u) w' (o.dst.toList++W) F' γ'->K (a.put o.dst u) w'):o.wp P a w K Q:=by
 have hrest:∀ (ks:List Nat) (i:Nat) (y:Ob),jq ks st.mem i=some y->st.mem i=some y:=by
  intro ks i y h;unfold jq at h;split at h
  ·exact h
  ·cases h
 have hrd:∀ (ks:List Nat) (d:Nat),jq (d::ks) st.mem d=none->st.mem d=none:=by
  intro ks d h;unfold jq at h;simpa using h
 unfold dY at he;rw[hg] at he;simp only at he;split at he<;>try trivial
 rename_i ef hcore;cases he;have howes:=Hi hΓ rfl hi.mem (dv hi) (nM hi) (hrest _) (hrd _ _) hcore hn (oH hi.sl _);refine howes K Q λu w' F' γ' hs hm ha=>hK u w' F' γ' ?_;have hnm:fX ef.v=true:=by
  cases hv:ef.v with
  |maybe _ _ _=>rw[hv] at ha; exact ha.elim
  |_=>rfl
 refine lJ hi hd hs hm ?_ (λg want y hv=>by have hv':ef.v=_:=hv; rw[hv'] at hnm; cases hnm);cases hv:ef.v with
 |maybe _ _ _=>rw[hv] at hnm; cases hnm
 |_=>rw[hv] at ha; exact ha
def jw (a:Act) (W:List Tmp) (kn:List (Tmp×Bool)):Prop:=∀ x∈kn,x.1∈W/\a.tmps.getD x.1 undef = .bool x.2
def Jq:{kn:List (Tmp×Bool)} -> {t:Tmp} -> {v:Bool}->ux kn t=some v->(t,v)∈kn
 |[],_,_,h=>by simp[ux] at h
 |(x,c)::r,t,v,h=>by
  simp only[ux] at h;split at h
  ·rename_i hx;injection h with h
   subst hx;subst h;exact uca
  ·exact ubh _ (Jq h)
def Ap {a:Act} {W:List Tmp} {kn:List (Tmp×Bool)} (hk:jw a W kn) {x:Operand} {c:Bool} (h:Ao kn x=some c):a.eval x = .bool c:=by
 unfold Ao at h;split at h
 ·exact(hk _ (Jq h)).2
 ·cases h;rfl
 ·cases h
def qmb {a:Act} {W:List Tmp} {kn:List (Tmp×Bool)} (hk:jw a W kn) {x:Operand} (h:IC kn o.op=some x):(execOp a.eval o).run P w = .ok (.value (a.eval x)) w:=by
 unfold IC at h;split at h
 ·rename_i y ho;cases h;unfold execOp;rw[ho];simp
 ·rename_i c y z ho;split at h
  ·rename_i hc;cases h;have hv:=Ap hk hc;unfold execOp;rw[ho];simp[hv,asBool]
  ·rename_i hc;cases h;have hv:=Ap hk hc;unfold execOp;rw[ho];simp[hv,asBool]
  ·cases h
 ·cases h
def jw.put {a:Act} {W:List Tmp} {kn:List (Tmp×Bool)} {d:Option Tmp} (hk:jw a W kn) (hd:∀ x,d=some x->x<a.tmps.size/\x ∉ W):jw (a.put d u) (d.toList++W) kn:=λx hx=>by
 obtain⟨h1,h2⟩:=hk x hx;refine⟨ua5 _ h1,?_⟩;rw[Du a d u x.1 (λy hy=>(hd y hy).1),if_neg (λhe=>(hd x.1 he).2 h1)];exact h2
def qu6 {C:Cx} (hC:CxOK P C) {ops:Array Oper} {Q:XE->St->Prop} {kn:List (Tmp×Bool)} {st:St} {a:Act} {W:List Tmp} {kf:List (Tmp×Bool)->St->Option Tr} {t:Tr} (K:Act->World->Prop)
  (hi:InvG P E st a w W F γ) (hk:jw a W kn) (hn:st.n=n) (hd:∀ x,o.dst=some x->x<st.n/\x ∉ W) (h:uQ P C bs ops.toList kn o st kf=some t) (hq:t.sat Q)
  (hcont:∀ kn' st' a' w' F' γ' t',kf kn' st'=some t'->t'.sat Q->InvG P E st' a' w' (o.dst.toList++W) F' γ'->jw a' (o.dst.toList++W) kn'->st'.n=n->K a' w'):o.wp P a w K (eq P E Q):=by
 have hsz:∀ x,o.dst=some x->x<a.tmps.size/\x ∉ W:=λx hx=>by rw[hi.n]; exact hd x hx
 have hother:∀ t,(match dY P C.Γ bs ops.toList (Cb o) st.sl st.mem with
   |some e=>match kf kn (e.go st) with
    |some t=>some (needL e.need t)
    |none=>none
   |none=>match ze P C bs (Cb o) st with
    |some t=>t.bindV λv s'=>kf kn ⟨s'.n,e8 s'.sl o.dst v,s'.mem,s'.gs⟩
    |none=>none)=some t->t.sat Q->o.wp P a w K (eq P E Q):=by
  intro t h hq;split at h
  ·rename_i e he;split at h<;>try trivial
   rename_i t' ht';cases h;obtain⟨hne,hq⟩:=jm _ hq;exact qvd hC.ct rfl hi he hne hd K _ λu w' F' γ' hinv=>hcont kn _ _ w' F' γ' t' ht' hq hinv (hk.put hsz) hn
  ·split at h<;>try trivial
   rename_i t1 ht1;have hsat:=sy h hq;refine(Vp hC hi ht1 K (eq P E Q) (hsat.turn λx s' hx=>?_)).2;cases x with
   |val v=>
    obtain⟨u,hu,hqu⟩:=hx;intro v2 w2 F2 γ2 hinv hrep;have hn2:s'.n=n:=by
     have h1:=hinv.n;have h2:=hi.n;omega
    have hput:=lJ (wr:=[]) (hinv.weaken W) (λx hx=>⟨by rw[hn2,<- hn]; exact(hd x hx).1,(hd x hx).2⟩) (Step.refl (dv hinv)) hinv.mem (Ko hrep) (λg want y hv=>by
     subst hv;exact hrep.elim)
    exact hcont kn _ _ w2 F2 γ2 u hu hqu hput (hk.put hsz) hn2
   |panic p=>exact λw2 hinv=>⟨.panic p,s',rfl,hinv,hx⟩
   |normal=>trivial
   |exit _=>trivial
   |ret=>trivial
   |jump _=>trivial
 unfold uQ at h;split at h
 ·rename_i x d hx hdst;have hrun:=qmb (P:=P) (w:=w) hk hx;have hwp:K (a.put o.dst (a.eval x)) w->o.wp P a w K (eq P E Q):=λhK=>by
   unfold Oper.wp;rw[hrun];exact hK
  have hx1:=Br hi.sl x;split at h
  ·rename_i c hc;refine hwp (hcont _ _ _ w F γ t h hq ?_ ?_ hn)
   ·have hv:=Ap hk hc;rw[hv,<- hdst];exact lJ (wr:=[]) hi hd (Step.refl (dv hi)) hi.mem (show dP P w F _ _ (AV.c (.bool c)) (.bool c) from ⟨rfl,rfl⟩) (λg want y hv=>by cases hv)
   ·intro y hy;rcases uee.1 hy with rfl|hy
    ·refine⟨by simp[hdst],?_⟩;rw[Du a o.dst _ d (λy hy=>(hsz y hy).1),if_pos hdst];exact Ap hk hc
    ·exact hk.put hsz y hy
  ·split at h
   ·cases h
   ·rename_i v hnm;refine hwp (hcont _ _ _ w F γ t h hq ?_ (hk.put hsz) hn);have hnv:fX (gC st.sl x)=true:=by
     cases hv:gC st.sl x with
     |maybe g want y=>exact absurd hv (hnm g want y)
     |_=>rfl
    rw[<- hdst];exact lJ (wr:=[]) hi hd (Step.refl (dv hi)) hi.mem (Ko (hx1.plain hnv)) (λg want y hv=>by rw[hv] at hnv; cases hnv)
 ·exact hother t h hq
def JS {C:Cx} (hC:CxOK P C) {ops:Array Oper} (hst:StatOK n ops) {Q:XE->St->Prop}:(l:List Oper)->(k:Nat)->(∀ i o,l[i]? = some o->ops[k+i]? = some o)->∀ (kn:List (Tmp×Bool)) (st:St) (a:Act) (w:World) (W:List Tmp) (F:Nat->Prop) (γ:Nat->Value) (t:Tr),
  InvG P E st a w W F γ->jw a W kn->st.n=n->(∀ x,x∈W↔∃ i o,i<k/\ops[i]? = some o/\o.dst=some x)->kS P C bs ops.toList kn l st=some t->t.sat Q->wpOps P ops (eq P E Q) (List.range' k l.length) a w
 |[],k,_,kn,st,a,w,W,F,γ,t,hi,hk,hn,hW,h,hq=>by
  simp only[kS,ucj] at h;subst h;exact⟨.normal,_,rfl,⟨F,γ,oV hi⟩,hq⟩
 |o::r,k,hl,kn,st,a,w,W,F,γ,t,hi,hk,hn,hW,h,hq=>by
  have hok:ops[k]? = some o:=by simpa using hl 0 o rfl
  have hl':∀ i o,r[i]? = some o->ops[k+1+i]? = some o:=λi o' hi'=>by
   have:=hl (i+1) o' (by simpa using hi')
   rwa [show k+1+i=k+(i+1) by omega]
  have hd:∀ x,o.dst=some x->x<st.n/\x ∉ W:=λx hx=>⟨by rw[hn]; exact hst.lt k o x hok hx,λhxW=>by
   obtain⟨i,oi,hik,hoi,hdi⟩:=(hW x).1 hxW;have:=hst.once k i o oi x hok hoi hx hdi;omega⟩
  have hW':∀ x,x∈o.dst.toList++W↔∃ i oi,i<k+1/\ops[i]? = some oi/\oi.dst=some x:=λx=>by
   rw[udo,hW];constructor
   ·rintro(h|⟨i,oi,h1,h2,h3⟩)
    ·exact⟨k,o,by omega,hok,by simpa using h⟩
    ·exact⟨i,oi,by omega,h2,h3⟩
   ·rintro⟨i,oi,h1,h2,h3⟩;by_cases hik:i=k
    ·subst hik;rw[hok] at h2;cases h2;exact .inl (by simp[h3])
    ·exact .inr ⟨i,oi,by omega,h2,h3⟩
  have hon:∀ kn' t',jw a W kn'->uQ P C bs ops.toList kn' o st (λkn s=>kS P C bs ops.toList kn r s)=some t'->t'.sat Q->o.wp P a w (wpOps P ops (eq P E Q) (List.range' (k+1) r.length)) (eq P E Q):=λkn' t' hk' h' hq'=>
   qu6 hC (wpOps P ops (eq P E Q) (List.range' (k+1) r.length)) hi hk' hn hd h' hq' λkn2 st2 a2 w2 F2 γ2 t2 h2 hq2 hi2 hk2 hn2=>JS hC hst r (k+1) hl' kn2 st2 a2 w2 _ F2 γ2 t2 hi2 hk2 hn2 hW' h2 hq2
  have hsz:∀ x,o.dst=some x->x<a.tmps.size/\x ∉ W:=λx hx=>by rw[hi.n]; exact hd x hx
  have hoff:∀ kn' t',jw a W kn'->kS P C bs ops.toList kn' r ⟨st.n,e8 st.sl o.dst .dead,st.mem,st.gs⟩=some t'->t'.sat Q->wpOps P ops (eq P E Q) (List.range' (k+1) r.length) (a.put o.dst undef) w:=λkn' t' hk' h' hq'=>
   JS hC hst r (k+1) hl' kn' _ _ w _ F γ t' (lJ (wr:=[]) (v:=.dead) hi hd (Step.refl (dv hi)) hi.mem trivial (λg want y hv=>by cases hv)) (hk'.put hsz) hn hW' h' hq'
  rw[uc6,udb,wpOps_cons];unfold wpOp;rw[hok];simp only;simp only[kS] at h;split at h
  ·rename_i hg;have hw:Region.wanted o (yielded ops a.tmps)=true:=by simp[Region.wanted,hg]
   rw[if_pos hw];exact .inl (hon kn t hk h hq)
  ·rename_i j want hgd;split at h<;>try trivial
   rename_i g hg;have hgj:(ops[j]?).bind (·.dst)=some g:=by simpa using hg
   have hgW:g∈W:=by
    have hj:=(hst.guard k o j want hok hgd).1;cases ho':ops[j]? with
    |none=>rw[ho'] at hgj; cases hgj
    |some o'=>
     rw[ho'] at hgj;exact(hW g).2 ⟨j,o',hj,ho',hgj⟩
   have hyield:Region.wanted o (yielded ops a.tmps)=true↔a.tmps.getD g undef = .bool want:=by
    have:(yielded ops a.tmps j==some want)=true↔a.tmps.getD g undef = .bool want:=by
     unfold yielded;rw[hgj];simp;cases hx:a.tmps[g]? with
     |none=>simp[hx,undef]
     |some y=>
      simp only[uac,hx,uda];cases y<;>simp
    simpa[Region.wanted,hgd] using this
   have hval:∀ v,a.tmps.getD g undef = .bool v->∀ kn',jw a W kn'->jw a W ((g,v)::kn'):=λv hv kn' hk' y hy=>by
    rcases uee.1 hy with rfl|hy
    ·exact⟨hgW,hv⟩
    ·exact hk' y hy
   split at h
   ·rename_i v hv;have hgv:=(hk _ (Jq hv)).2;split at h
    ·rename_i hvw;subst hvw;rw[if_pos (hyield.2 hgv)];exact .inl (hon kn t hk h hq)
    ·rename_i hvw;rw[if_neg (λhw=>hvw (by have:=hyield.1 hw; rw[hgv] at this; cases this; rfl))];exact hoff kn t hk h hq
   ·split at h<;>try trivial
    rename_i p hsl;split at h<;>try trivial
    rename_i x y hx hy;cases h;have hs:=hi.sl g;rw[hsl] at hs;have hgp:=hs.2;by_cases hpw:p=want
    ·subst hpw;rw[if_pos (hyield.2 hgp)];refine .inl (hon _ x (hval p hgp kn hk) hx ?_);cases p with
     |true=>exact hq.1 rfl
     |false=>exact hq.2 rfl
    ·rw[if_neg (λhw=>hpw (by have:=hyield.1 hw; rw[hgp] at this; cases this; rfl))];have hpn:p = !want:=by cases p<;>cases want<;>first|rfl|exact absurd rfl hpw
     refine hoff _ y (hval (!want) (by rw[hgp,hpn]) kn hk) hy ?_;cases want with
     |true=>
      subst hpn;exact hq.2 rfl
     |false=>
      subst hpn;exact hq.1 rfl
def Ux {C:Cx} (hC:CxOK P C) {id:Nat} {ops:Array Oper} {draw:Bool} {s:St} {t:Tr} (h:Dx P C.Γ bs ops.toList draw s=some t) {Q:XE->St->Prop} (hq:t.sat Q) {a:Act}
  (hi:I P E s a w):(Code.region id ops draw).wp P (eq P E Q) a w:=by
 unfold Dx at h;split at h<;>try trivial
 rename_i hstat;split at h<;>try trivial
 rename_i es s' hrun;split at h<;>try trivial
 rename_i hord;cases h;obtain⟨hneed,hq⟩:=JI es hq;have hn:=UO _ _ _ hrun;have hst:StatOK s'.n ops:=by rw[hn]; exact DH hstat
 have hruns:fh P C.Γ bs ops es s' (List.range' 0 ops.size) s:=by
  have:=UW ops.toList 0 s es hrun (λi o hi=>by simpa using hi) (λi e hi=>by simpa using hi);simpa using this
 obtain⟨F,γ,hi⟩:=hi;have hend:∀ a' w',nU P E C.Γ bs ops es s' [] a' w'->eq P E Q .normal a' w':=by
  rintro a' w' ⟨st,W,F',γ',hinv,_,hr,_⟩;have hr':=hr;subst hr';exact⟨.normal,_,rfl,⟨F',γ',oV hinv⟩,hq⟩
 have hstart:∀ w',InvG P E s a w' [] F γ->nU P E C.Γ bs ops es s' (List.range' 0 ops.size) a w':=λw' hi'=>by
  refine⟨s,[],F,γ,hi',λt=>?_,hruns,hn.symm⟩;constructor
  ·intro hh; simp at hh
  ·rintro⟨k,o,hk,hnot,_⟩;exfalso;apply hnot;rw[ucu];have:=(uaf.1 hk).1;omega
 cases draw with
 |false=>
  refine ufj ?_;rw[ubk];exact Uw hC.ct hst hneed _ hend _ 0 a w (hstart w hi)
 |true=>
  have hord':r9 ops.toList es=true:=by simpa using hord
  refine wp_region_any hC.mo ?_;refine Uu hC.ct hst hneed hord' _ hend ops.size (List.range' 0 ops.size) _ a _ (by simp) uav (by simp) (λi hi'=>?_) (λi hi'=>?_) (λk hk hnot=>?_) (hstart _ (RQ hi))
  ·simp only[ucu,uac,uar,hi',if_true,uda,true_iff];omega
  ·rw[ucu] at hi';omega
  ·exfalso;apply hnot;rw[ucu];omega
def i5 (P:Program) (E:Env) (c:Code) (f:St->Option Tr):Prop:=
 ∀ s t,f s=some t->∀ Q,t.sat Q->∀ a w,I P E s a w->(Code.loop c).wp P (eq P E Q) a w
def bP (P:Program) (E:Env) (Λ:Nat->St->Option Tr):Code->Nat->Prop
 |.seq a b,k=>bP P E Λ a k/\bP P E Λ b (k+ce a)
 |.cond _ a b,k=>bP P E Λ a k/\bP P E Λ b (k+ce a)
 |.block _ c,k=>bP P E Λ c k
 |.scope c,k=>bP P E Λ c k
 |.loop c,k=>i5 P E c (Λ k)
 |_,_=>True
def sx {f:St->Option Tr} {Q:XE->St->Prop}:{t t':Tr}->t.bind f=some t'->t'.sat Q->t.sat λe s=>match e with
  |.normal=>∃ u,f s=some u/\u.sat Q
  |e=>Q e s
 |.leaf e s,t',h,hq=>by
  cases e with
  |normal=>exact⟨t',h,hq⟩
  |exit i=>
   simp only[Tr.bind,ucj] at h;subst h;exact hq
  |ret=>
   simp only[Tr.bind,ucj] at h;subst h;exact hq
  |panic p=>
   simp only[Tr.bind,ucj] at h;subst h;exact hq
  |val v=>
   simp only[Tr.bind,ucj] at h;subst h;exact hq
  |jump l=>
   simp only[Tr.bind,ucj] at h;subst h;exact hq
 |.br b x y,t',h,hq=>by
  simp only[Tr.bind] at h;split at h<;>try trivial
  rename_i x' y' hx hy;cases h;exact⟨λhb=>sx hx (hq.1 hb),λhb=>sx hy (hq.2 hb)⟩
 |.need p x,t',h,hq=>by
  simp only[Tr.bind] at h;split at h<;>try trivial
  rename_i x' hx;cases h;exact⟨hq.1,sx hx hq.2⟩
 |.two p x y,t',h,hq=>by
  simp only[Tr.bind] at h;split at h<;>try trivial
  rename_i x' y' hx hy;cases h;exact⟨λhb=>sx hx (hq.1 hb),sx hy hq.2⟩
def wm {id:Nat} {Q:XE->St->Prop}:{t:Tr}->(t.block id).sat Q->t.sat λe s=>match e with
  |.exit i=>if i=id then Q .normal s else Q (.exit i) s
  |e=>Q e s
 |.leaf e s,hq=>by
  cases e with
  |normal=>exact hq
  |exit i=>
   simp only[Tr.block] at hq;simp only[Tr.sat];split
   ·rename_i h;rw[if_pos h] at hq;exact hq
   ·rename_i h;rw[if_neg h] at hq;exact hq
  |ret=>exact hq
  |panic p=>exact hq
  |val v=>exact hq
  |jump l=>exact hq
 |.br b x y,hq=>⟨λhb=>wm (hq.1 hb),λhb=>wm (hq.2 hb)⟩
 |.need p x,hq=>⟨hq.1,wm hq.2⟩
 |.two p x y,hq=>⟨λhb=>wm (hq.1 hb),wm hq.2⟩
def wq {Q:XE->St->Prop}:{t:Tr}->t.scope.sat Q->t.sat λe s=>match e with
  |.jump _=>False
  |.val _=>False
  |e=>Q e s
 |.leaf e s,hq=>by
  cases e with
  |normal=>exact hq
  |exit i=>exact hq
  |ret=>exact hq
  |panic p=>exact hq
  |val v=>exact hq.1
  |jump l=>exact hq.1
 |.br b x y,hq=>⟨λhb=>wq (hq.1 hb),λhb=>wq (hq.2 hb)⟩
 |.need p x,hq=>⟨hq.1,wq hq.2⟩
 |.two p x y,hq=>⟨λhb=>wq (hq.1 hb),wq hq.2⟩
def qgv {s:St} {a:Act} {c:Operand} {p:Bool} (hi:InvG P E s a w [] F γ) (h:gC s.sl c = .c (.bool p)):a.eval c = .bool p:=by
 have:=Br hi.sl c;rw[h] at this;exact this.2
def ql6 {st:St} {a:Act} {γ:Nat->Value} {m:aT} (hi:InvG P E ⟨st.n,st.sl,m,st.gs⟩ a w [] F γ) (id:Nat):∃ F',InvG P E ⟨st.n,st.sl,Cc m id,st.gs⟩ a w [] F' γ:=by
 unfold Cc;split
 ·rename_i x u h;have h0:=h;have hne:∃ v,bc P w F (ap m γ) (.own id) v:=by
   unfold me at h;simp only[bc];unfold ap;split at h
   ·split at h
    ·rename_i heq _ _ _ _ hm;cases heq;simp[hm]
    ·rename_i heq _ _ _ hm;cases heq;simp[hm]
    ·cases h
   ·rename_i h1;exact absurd rfl (h1 _)
  obtain⟨v,hv⟩:=hne;obtain⟨F',s1,m1,_,_⟩:=D5 hi.mem (dv hi) (cX.of λ_ _ h=>h) h0 hv;refine⟨F',hi.n,hi.df,?_,m1,λt=>(hi.sl t).mono s1.hF s1.hw s1.hR,hi.hg,λt=>s1.repA (hi.gh t)⟩;obtain⟨γ0,h0⟩:=hi.step;exact⟨γ0,h0.trans s1⟩
 ·exact⟨F,hi⟩
def Cd {st:St} {a:Act} {γ:Nat->Value}:(ids:List Nat) -> {m:aT} -> {F:Nat->Prop}->InvG P E ⟨st.n,st.sl,m,st.gs⟩ a w [] F γ->∃ F',InvG P E ⟨st.n,st.sl,ids.foldl Cc m,st.gs⟩ a w [] F' γ
 |[],_,F,hi=>⟨F,hi⟩
 |id::r,_,_,hi=>by
  obtain⟨F1,h1⟩:=ql6 hi id;exact Cd r h1
def fR {C:Cx} (hC:CxOK P C) {Λ:Nat->St->Option Tr}:(c:Code)->(k:Nat)->bP P E Λ c k->∀ {s:St} {t:Tr},cr P C bs Λ c k s=some t ->
  ∀ {Q:XE->St->Prop},t.sat Q->∀ {a:Act} {w:World},I P E s a w->c.wp P (eq P E Q) a w
 |.skip,k,_,s,t,h,Q,hq,a,w,hi=>by
  simp only[cr,ucj] at h
  subst h
  exact wp_skip ⟨.normal,s,rfl,hi,hq⟩
 |.ret,k,_,s,t,h,Q,hq,a,w,hi=>by
  simp only[cr,ucj] at h
  subst h
  exact wp_ret ⟨.ret,s,rfl,hi,hq⟩
 |.exit id,k,_,s,t,h,Q,hq,a,w,hi=>by
  simp only[cr,ucj] at h
  subst h
  exact wp_exit ⟨.exit id,s,rfl,hi,hq⟩
 |.region id ops draw,k,_,s,t,h,Q,hq,a,w,hi=>by
  simp only[cr] at h
  split at h
  ·rename_i t' ht'
   simp at h
   subst h
   exact Ux hC ht' hq hi
  ·split at h
   ·rename_i t' ht'
    simp at h
    subst h
    split at ht'<;>try (cases ht'; done)
    rename_i hc
    obtain⟨rfl,hstat⟩:=hc
    obtain⟨F,γ,hinv⟩:=hi
    refine ufj ?_
    rw[ubk]
    have:=JR hC (DH hstat) ops.toList 0 (λi o hi=>by simpa using hi) s a w [] F γ t' hinv rfl (λx=>⟨λhh=>by simp at hh,λ⟨i,_,hi,_⟩=>by omega⟩) ht' hq
    simpa using this
   ·split at h
    ·rename_i t' ht'
     simp at h
     subst h
     split at ht'<;>try (cases ht'; done)
     rename_i hc
     obtain⟨rfl,hstat⟩:=hc
     obtain⟨F,γ,hinv⟩:=hi
     refine ufj ?_
     rw[ubk]
     have:=JS hC (DH hstat) ops.toList 0 (λi o hi=>by simpa using hi) [] s a w [] F γ t' hinv (λx hx=>by simp at hx) rfl (λx=>⟨λhh=>by simp at hh,λ⟨i,_,hi,_⟩=>by omega⟩) ht' hq
     simpa using this
    ·split at h
     ·rename_i t' ht'
      simp at h
      subst h
      obtain⟨F,γ,hinv⟩:=hi
      obtain⟨F',h'⟩:=Cd _ hinv
      exact Ux hC ht' hq ⟨F',γ,h'⟩
     ·simp at h
      subst h
      exact hq.1.elim
 |.seq x y,k,hl,s,t,h,Q,hq,a,w,hi=>by
  simp only[cr] at h
  split at h<;>try (cases h; done)
  rename_i t1 h1
  refine wp_seq (wp_mono (fR hC x k hl.1 h1 (sx h hq) hi) ?_)
  rintro e a' w' ⟨xe,s',rfl,hi',hq'⟩
  cases xe with
  |normal=>
   obtain⟨u,hu,hqu⟩:=hq'
   exact fR hC y _ hl.2 hu hqu hi'
  |exit i=>exact⟨.exit i,s',rfl,hi',hq'⟩
  |ret=>exact⟨.ret,s',rfl,hi',hq'⟩
  |panic p=>exact⟨.panic p,s',rfl,hi',hq'⟩
  |val v=>exact⟨.val v,s',rfl,hi',hq'⟩
  |jump l=>exact⟨.jump l,s',rfl,hi',hq'⟩
 |.cond c x y,k,hl,s,t,h,Q,hq,a,w,hi=>by
  simp only[cr] at h
  split at h<;>try (cases h; done)
  rename_i p hp
  split at h<;>try (cases h; done)
  rename_i x' y' hx hy
  simp at h
  subst h
  obtain⟨F,γ,hinv⟩:=id hi
  exact wp_cond_split (qgv hinv hp) (λhb=>fR hC x _ hl.1 hx (hq.1 hb) hi) (λhb=>fR hC y _ hl.2 hy (hq.2 hb) hi)
 |.block id c,k,hl,s,t,h,Q,hq,a,w,hi=>by
  simp only[cr] at h
  split at h<;>try (cases h; done)
  rename_i t1 h1
  simp at h
  subst h
  refine wp_block (wp_mono (fR hC c k hl h1 (wm hq) hi) ?_)
  rintro e a' w' ⟨xe,s',rfl,hi',hq'⟩
  cases xe with
  |normal=>exact⟨.normal,s',rfl,hi',hq'⟩
  |exit i=>
   simp only at hq'
   show Exit.inBlock id _ (.exit i) a' w'
   unfold Exit.inBlock
   simp only
   split
   ·rename_i h
    rw[if_pos h] at hq'
    exact⟨.normal,s',rfl,hi',hq'⟩
   ·rename_i h
    rw[if_neg h] at hq'
    exact⟨.exit i,s',rfl,hi',hq'⟩
  |ret=>exact⟨.ret,s',rfl,hi',hq'⟩
  |panic p=>exact⟨.panic p,s',rfl,hi',hq'⟩
  |val v=>exact⟨.val v,s',rfl,hi',hq'⟩
  |jump l=>exact⟨.jump l,s',rfl,hi',hq'⟩
 |.loop c,k,hl,s,t,h,Q,hq,a,w,hi=>by
  simp only[cr] at h
  split at h
  ·rename_i t' ht'
   simp at h
   subst h
   exact hl s t' ht' Q hq a w hi
  ·simp at h
   subst h
   exact hq.1.elim
 |.label _,_,_,_,_,h,_,hq,_,_,hi=>by
  simp only[cr,ucj] at h
  subst h
  exact wp_label ⟨.normal,_,rfl,hi,hq⟩
 |.goto l,_,_,_,_,h,_,hq,_,_,hi=>by
  simp only[cr,ucj] at h
  subst h
  exact wp_goto ⟨.jump l,_,rfl,hi,hq⟩
 |.scope c,k,hl,s,t,h,Q,hq,a,w,hi=>by
  simp only[cr] at h
  split at h<;>try (cases h; done)
  rename_i t1 h1
  simp at h
  subst h
  refine wp_scope_straight (wp_mono (fR hC c k hl h1 (wq hq) hi) ?_)
  rintro e a' w' ⟨xe,s',rfl,hi',hq'⟩
  cases xe with
  |normal=>exact⟨.normal,s',rfl,hi',hq'⟩
  |exit i=>exact⟨.exit i,s',rfl,hi',hq'⟩
  |ret=>exact⟨.ret,s',rfl,hi',hq'⟩
  |panic p=>exact⟨.panic p,s',rfl,hi',hq'⟩
  |val v=>exact hq'.elim
  |jump l=>exact hq'.elim
 |.rangeFunc ..,_,_,_,_,h,_,hq,_,_,_=>by
  simp only[cr,ucj] at h
  subst h
  exact hq.1.elim
 |.refuse _,_,_,_,_,h,_,hq,_,_,_=>by
  simp only[cr,ucj] at h
  subst h
  exact hq.1.elim
end
abbrev YF:Type:=Option TypeId×Ty
inductive MI where
 |o (t:Tmp) (e:TypeId) (ty:Ty)
 |x (id:Nat) (e:TypeId) (ty:Ty)
 |r (t:Tmp) (id off:Nat)
 |y (id:Nat) (e:TypeId) (fs:List YF)
 |g (t:Tmp) (f:FuncId) (ids:List Nat)
 |al (t s:Tmp)
@[reducible] def jD:List YF->Type
 |[]=>Unit
 |(some _,t)::r=>List t.den×jD r
 |(none,t)::r=>t.den×jD r
@[reducible] def cR:List MI->Type
 |[]=>Unit
 |.o _ _ ty::r=>List ty.den×cR r
 |.x _ _ ty::r=>ty.den×cR r
 |.r _ _ _::r=>cR r
 |.y _ _ fs::r=>jD fs×cR r
 |.g _ _ _::r=>cR r
 |.al _ _::r=>cR r
def jS (id off:Nat):AC:=if off<1000000 then .ptr id off else if off<1000000000 then .ifp (off-1000000) id else .fb (off-1000000000) id
def Kk:AV->Option (Nat×Nat)
 |.c (.ptr i o)=>if o<1000000 then some (i,o) else none
 |.c (.ifp ty i)=>if ty<999000000 then some (i,ty+1000000) else none
 |.c (.fb f i)=>some (i,f+1000000000)
 |_=>none
def qwz {a:AV} {o:Nat} (h:Kk a=some (i,o)):a = .c (jS i o):=by
 unfold Kk at h;split at h<;>try trivial
 ·split at h<;>try trivial
  rename_i ho;cases h;rw[jS,if_pos ho]
 ·split at h<;>try trivial
  rename_i ty i' ht;cases h;rw[jS,if_neg (Nat.not_lt.2 (Nat.le_add_left _ _)),if_pos (by rw[show(1000000000:Nat)=999000000+1000000 from rfl]; exact Nat.add_lt_add_right ht _),uby]
 ·cases h;rw[jS,if_neg (Nat.not_lt.2 (uek (show 1000000<=1000000000 by decide) (Nat.le_add_left _ _))),if_neg (Nat.not_lt.2 (Nat.le_add_left _ _)),uby]
def qwx {o:Nat} (h:bc P w F R (jS i o) v):∃ b,R i (.pointer (some ⟨b,0,none⟩))/\∀ R':Nat->Value->Prop,R' i (.pointer (some ⟨b,0,none⟩))->bc P w F R' (jS i o) v:=by
 unfold jS at h |-;by_cases h1:o<1000000
 ·rw[if_pos h1] at h |-;obtain⟨b,h1,h2⟩:=h;exact⟨b,h1,λR' h=>⟨b,h,h2⟩⟩
 ·rw[if_neg h1] at h |-;by_cases h2:o<1000000000
  ·rw[if_pos h2] at h |-;obtain⟨b,h1,h2⟩:=h;exact⟨b,h1,λR' h=>⟨b,h,h2⟩⟩
  ·rw[if_neg h2] at h |-;obtain⟨b,h1,h2⟩:=h;exact⟨b,h1,λR' h=>⟨b,h,h2⟩⟩
def cg (id:Nat):Nat:=2000000000000000000000000000000+id*1000
def cH (cs:List AC) (j:Nat):Option Nat:=match cs[j]? with
 |some (.own k)=>some k
 |_=>none
def it (id:Nat):(fs:List YF)->jD fs->Nat->List AC
 |[],_,_=>[]
 |(some _,_)::r,x,j=>.own (cg id+j)::it id r x.2 (j+1)
 |(none,t)::r,x,j=>(enc t x.1).headD .nil::it id r x.2 (j+1)
def kI:(fs:List YF)->jD fs->Nat->Option Ob
 |[],_,_=>none
 |(some e,t)::_,x,0=>some (.arr e t x.1)
 |(none,_)::_,_,0=>none
 |(some _,_)::r,x,j+1=>kI r x.2 j
 |(none,_)::r,x,j+1=>kI r x.2 j
def gD (m:aT):(fs:List YF)->List AC->List Nat->Option (jD fs×List Nat)
 |[],[],us=>some ((),us)
 |(some e,t)::r,c::cs,us=>match c with
  |.nil=>if e<dL then match gD m r cs us with
   |some (y,us')=>some (([],y),us')
   |none=>none
   else none
  |.own k=>if us.contains k then none else match m k with
   |some (.arr e' ty' l)=>if h:ty'=t then if e'=e then match gD m r cs (k::us) with
     |some (y,us')=>some ((cA h l,y),us')
     |none=>none
    else none else none
   |_=>none
  |_=>none
 |(none,t)::r,c::cs,us=>match dec t [c] with
  |some (x,[])=>match gD m r cs us with
   |some (y,us')=>some ((x,y),us')
   |none=>none
  |_=>none
 |_,_,_=>none
def ql (fs:List YF) (j:Nat):Prop:=∃ e t,fs[j]? = some (some e,t)
def ql.lt {fs:List YF} (h:ql fs j):j<fs.length:=by
 obtain⟨e,t,h⟩:=h;exact(uak.1 h).1
def CV (id:Nat):(fs:List YF)->(x:jD fs)->(j:Nat)->(it id fs x j).length=fs.length
 |[],_,_=>rfl
 |(some _,_)::r,x,j=>by simp[it,CV id r x.2]
 |(none,_)::r,x,j=>by simp[it,CV id r x.2]
def Hz {k:Nat}:(t:Ty) -> {cs:List AC} -> {x:t.den} -> {r:List AC}->dec t (.own k::cs)=some (x,r)->r = .own k::cs
 |.int _,_,_,_,h=>by simp[dec,oB] at h
 |.bool,_,_,_,h=>by simp[dec,oA] at h
 |.str,_,_,_,h=>by simp[dec,oD] at h
 |.sl _,_,_,_,h=>by simp[dec,oC] at h
 |.unit,_,_,_,h=>by
  simp only[dec,ucj,uec] at h;exact h.2.symm
 |.pair a b,cs,x,r,h=>by
  simp only[dec] at h;split at h<;>try trivial
  rename_i x1 r1 h1;split at h<;>try trivial
  rename_i x2 r2 h2;obtain⟨_,rfl⟩:=h;have e1:=Hz a h1;subst e1;exact Hz b h2
 |.fm _,_,_,_,h=>by simp[dec,qO] at h
 |.ic _ _,_,_,_,h=>by simp[dec,qN] at h
 |.fc _,_,_,_,h=>by simp[dec,qM] at h
def MB (id:Nat) (fs:List YF) (cs:List AC) (j0 j:Nat) (c:AC):Prop:=
 (c = .own (cg id+(j0+j))/\ql fs j) \/ ∃ (t:Ty) (x:t.den) (c0:AC),cs[j]? = some c0/\dec t [c0]=some (x,[])/\[c]=enc t x
def HE {m:aT} {id:Nat}:{fs:List YF} -> {cs:List AC} -> {us us':List Nat} -> {y:jD fs}->gD m fs cs us=some (y,us')->∀ j0 j c,(it id fs y j0)[j]? = some c->MB id fs cs j0 j c
 |[],[],_,_,_,_,j0,j,c,hc=>by simp[it] at hc
 |f::r,[],us,us',y,h,_,_,_,_=>by
  obtain⟨o,t⟩:=f;cases o<;>simp[gD] at h
 |[],c::cs,us,us',y,h,_,_,_,_=>by simp[gD] at h
 |(some e,t)::r,c::cs,us,us',y,h,j0,j,c',hc=>by
  have key:∀ {us1 us2:List Nat} {y':jD r},gD m r cs us1=some (y',us2)->(it id r y' (j0+1))[j-1]? = some c'->j≠0->MB id ((some e,t)::r) (c::cs) j0 j c':=by
   intro us1 us2 y' hy hcc hj;obtain⟨i,rfl⟩:∃ i,j=i+1:=⟨j-1,by omega⟩;rcases HE hy (j0+1) i c' hcc with ⟨a,e1,t1,b⟩|⟨t1,x1,c0,a,b,d⟩
   ·exact .inl ⟨by rw[a]; congr 2; omega,e1,t1,by simpa using b⟩
   ·exact .inr ⟨t1,x1,c0,by simpa using a,b,d⟩
  simp only[gD] at h;split at h<;>try trivial
  ·split at h<;>try trivial
   rename_i hrw;split at h<;>try trivial
   rename_i y' us2 hy;cases h;cases j with
   |zero=>
    simp only[it,uat,ucj] at hc;exact .inl ⟨hc.symm,e,t,rfl⟩
   |succ i=>exact key hy (by simpa[it] using hc) (by omega)
  ·split at h<;>try trivial
   split at h<;>try trivial
   split at h<;>try trivial
   split at h<;>try trivial
   split at h<;>try trivial
   rename_i y' us2 hy;cases h;cases j with
   |zero=>
    simp only[it,uat,ucj] at hc;exact .inl ⟨hc.symm,e,t,rfl⟩
   |succ i=>exact key hy (by simpa[it] using hc) (by omega)
 |(none,t)::r,c::cs,us,us',y,h,j0,j,c',hc=>by
  simp only[gD] at h;split at h<;>try trivial
  rename_i x hx;split at h<;>try trivial
  rename_i y' us2 hy;cases h;cases j with
  |zero=>
   simp only[it,uat,ucj] at hc;have hl:=ku t hx;have he:(enc t x).length=1:=by
    rw[fl];simpa using hl.symm
   refine .inr ⟨t,x,c,rfl,hx,?_⟩
   match hq:enc t x,he with
   |[a],_=>
    rw[hq] at hc;rw[<- hc];rfl
  |succ i=>
   rcases HE hy (j0+1) i c' (by simpa[it] using hc) with ⟨a,e1,t1,b⟩|⟨t1,x1,c0,a,b,d⟩
   ·exact .inl ⟨by rw[a]; congr 2; omega,e1,t1,by simpa using b⟩
   ·exact .inr ⟨t1,x1,c0,by simpa using a,b,d⟩
def px (ids:List Nat):List AC:=ids.map λid=>.ptr id 0
def yH:List AC->Option (List Nat)
 |[]=>some []
 |.ptr i 0::r=>match yH r with
  |some l=>some (i::l)
  |none=>none
 |_=>none
def Um:{cs:List AC} -> {ids:List Nat}->yH cs=some ids->cs=px ids
 |[],ids,h=>by
  simp only[yH,ucj] at h
  subst h
  rfl
 |c::r,ids,h=>by
  unfold yH at h
  split at h<;>try (cases h; done)
  ·rename_i heq
   cases heq
  ·rename_i i r' heq
   cases heq
   split at h<;>try (cases h; done)
   rename_i l hl
   simp at h
   subst h
   rw[Um hl]
   rfl
def ba (t:Tmp):Nat:=1000000000000000000000000000000+t
def iN (id:Nat):List MI->Bool
 |[]=>false
 |.x i _ _::r=>i==id || iN id r
 |.y i _ _::r=>i==id || iN id r
 |_::r=>iN id r
def jj (s:Tmp):List MI->Bool
 |[]=>false
 |.o t _ _::r=>t==s || jj s r
 |_::r=>jj s r
def bB (all:List MI) (sl:Nat->AV) (m:aT):(L:List MI)->List Nat->Option (cR L)
 |[],_=>some ()
 |.o t e ty::r,us=>match sl t with
  |.c .nil=>if e<dL then match bB all sl m r us with
   |some y=>some ([],y)
   |none=>none
   else none
  |.c (.own id)=>if us.contains id then none else match m id with
   |some (.arr e' ty' l)=>if h:ty'=ty then if e'=e then match bB all sl m r (id::us) with
     |some y=>some (cA h l,y)
     |none=>none
    else none else none
   |_=>none
  |_=>none
 |.x id e ty::r,us=>match m id with
  |some (.box e' cs)=>if e'=e then match dec ty cs with
    |some (x,[])=>match bB all sl m r us with
     |some y=>some (x,y)
     |none=>none
    |_=>none
   else none
  |_=>none
 |.r t id off::r,us=>match Kk (sl t) with
  |some (i,o)=>if i=id/\o=off/\iN id all=true then bB all sl m r us else none
  |none=>none
 |.g t f ids::r,us=>match sl t with
  |.c (.fn f' cs)=>if f'=f/\yH cs=some ids/\ids.all (λid=>iN id all)=true then bB all sl m r us else none
  |_=>none
 |.al t s::r,us=>match sl t,sl s with
  |.c (.own i),.c (.own j)=>if i=j/\jj s all=true then bB all sl m r us else none
  |.c .nil,.c .nil=>if jj s all=true then bB all sl m r us else none
  |_,_=>none
 |.y id e fs::r,us=>match m id with
  |some (.box e' cs)=>if e'=e then match gD m fs cs us with
    |some (x,us')=>match bB all sl m r us' with
     |some y=>some (x,y)
     |none=>none
    |none=>none
   else none
  |_=>none
def bG:(L:List MI)->cR L->aT
 |[],_=>λ_=>none
 |.o t e ty::r,x=>λi=>if i=ba t then some (.arr e ty x.1) else bG r x.2 i
 |.x id e ty::r,x=>λi=>if i=id then some (.box e (enc ty x.1)) else bG r x.2 i
 |.r _ _ _::r,x=>bG r x
 |.g _ _ _::r,x=>bG r x
 |.al _ _::r,x=>bG r x
 |.y id e fs::r,x=>λi=>if i=id then some (.box e (it id fs x.1 0)) else if cg id<=i/\i<cg id+fs.length then kI fs x.1 (i-cg id) else bG r x.2 i
def bx:List MI->Nat->AV
 |[],_=>.dead
 |.o t _ _::r,i=>if i=t then .c (.own (ba t)) else bx r i
 |.x _ _ _::r,i=>bx r i
 |.r t id off::r,i=>if i=t then .c (jS id off) else bx r i
 |.y _ _ _::r,i=>bx r i
 |.g t f ids::r,i=>if i=t then .c (.fn f (px ids)) else bx r i
 |.al t s::r,i=>if i=t then .c (.own (ba s)) else bx r i
def H4:(p:PT)->p.den->AV
 |.d t,x=>dE t x
 |.ptr t,x=>.c (.sptr (enc t x))
 |.fn ps rs,g=>.c (.fv ps rs g)
 |.pf ps rs,g=>.c (.pv ps rs g.1 g.2)
 |.pfn ps rs,g=>.c (.sptr [.fv ps rs g])
 |.pk f,_=>.c (.sptr [.fn f []])
def pL:(vs:List (Tmp×PT))->ag (vs.map (·.2))->(Nat->AV)->Nat->AV
 |[],_,f,i=>f i
 |(t,p)::r,x,f,i=>if i=t then H4 p x.1 else pL r x.2 f i
def CG (m:aT):MI->aT
 |.x id _ _=>match m id with
  |some (.box e cs)=>match jr m cs with
   |some (cs',u)=>match ax m u id with
    |some (.box _ _)=>ax m (u++[(id,.box e cs')])
    |_=>m
   |none=>m
  |_=>m
 |_=>m
def yk:List MI->aT->aT
 |[],m=>m
 |i::r,m=>yk r (CG m i)
structure LS where
 vs:List (Tmp×PT)
 ms:List MI
@[reducible] def LS.X (L:LS):Type:=ag (L.vs.map (·.2))×cR L.ms
def LS.ext (Γ:Gm) (L:LS) (s:St):Option (L.X×List Prop):=
 match dK s.mem (L.vs.map λv=>s.at v.1) with
 |some (xs,u)=>match jf Γ (L.vs.map (·.2)) xs with
  |some (x,n)=>match bB L.ms s.at (yk L.ms (ax s.mem u)) L.ms [] with
   |some y=>some ((x,y),n)
   |none=>none
  |none=>none
 |none=>none
def LS.tpl (L:LS) (n:Nat) (x:L.X):St:=⟨n,λi=>if i<10000 then pL L.vs x.1 (bx L.ms) i else .dead,bG L.ms x.2,λi=>pL L.vs x.1 (bx L.ms) (i+10000)⟩
section
variable {P:Program} {B:Nat} {w w':World} {E:Env} {F F':Nat->Prop} {γ γ' γ0:Nat->Value} {Γ:Gm} {M m:aT} {R:Nat->Value->Prop}
def P4:{p:PT} -> {x:p.den} -> {v:Value}->Fg P w F p x v->aE P w F R (H4 p x) v
 |.d t,x,v,h=>fT h
 |.ptr t,x,v,h=>by
  obtain⟨ad,rfl,h2,h3⟩:=h;exact⟨rfl,ad,rfl,h2,aA.enc t x h3⟩
 |.fn ps rs,g,v,h=>by
  have h':=h;obtain⟨f,caps,rfl,_⟩:=id h';exact⟨rfl,h'⟩
 |.pf ps rs,g,v,h=>by
  have h':=h;obtain⟨f,caps,rfl,_⟩:=id h';exact⟨rfl,h'⟩
 |.pfn ps rs,g,v,h=>by
  obtain⟨ad,u,rfl,h2,h3,h4⟩:=h;have h5:u.oneCell'=true:=by
   obtain⟨f,caps,rfl,_⟩:=id h4;rfl
  exact⟨rfl,ad,rfl,h2,⟨u,h3,h5,by simp only[bc]; exact h4⟩,uT⟩
 |.pk f,_,v,h=>by
  obtain⟨ad,rfl,h2,h3⟩:=h;exact⟨rfl,ad,rfl,h2,⟨_,h3,rfl,by simp only[bc]; exact⟨#[],rfl,rfl,uT⟩⟩,uT⟩
def bz (sl:Nat->AV) (m:aT):List MI->Nat->Option Nat
 |[],_=>none
 |.o t _ _::r,i=>if i=ba t then (match sl t with
  |.c (.own id)=>some id
  |_=>none) else bz sl m r i
 |.x id _ _::r,i=>if i=id then some id else bz sl m r i
 |.r _ _ _::r,i=>bz sl m r i
 |.g _ _ _::r,i=>bz sl m r i
 |.al _ _::r,i=>bz sl m r i
 |.y id _ fs::r,i=>if i=id then some id else if cg id<=i/\i<cg id+fs.length then (match m id with
  |some (.box _ cs)=>cH cs (i-cg id)
  |_=>none) else bz sl m r i
def bQ (γ:Nat->Value) (sl:Nat->AV) (m:aT) (L:List MI) (i:Nat):Value:=match bz sl m L i with
 |some k=>γ k
 |none=>.slice none 0 0
def qT:{fs:List YF} -> {cs:List AC} -> {us us':List Nat} -> {y:jD fs}->gD m fs cs us=some (y,us') ->
  cs.length=fs.length/\(∀ k,k∈us->k∈us')/\(∀ j k,cH cs j=some k->k ∉ us/\k∈us'/\∃ e t l,m k=some (.arr e t l)) /\
  (∀ i j k,cH cs i=some k->cH cs j=some k->i=j)/\∀ j o,kI fs y j=some o->(cs[j]? = some .nil/\∃ e t,o = .arr e t []/\e<dL) \/ ∃ k,cs[j]? = some (.own k)/\m k=some o
 |[],[],us,us',y,h=>by
  simp only[gD,ucj,uec] at h;refine⟨rfl,λk hk=>h.2 ▸ hk,λj k hj=>by simp[cH] at hj,λi j k hi=>by simp[cH] at hi,λj o hj=>by simp[kI] at hj⟩
 |f::r,[],us,us',y,h=>by
  obtain⟨o,t⟩:=f;cases o<;>simp[gD] at h
 |[],c::cs,us,us',y,h=>by simp[gD] at h
 |(some e,t)::r,c::cs,us,us',y,h=>by
  simp only[gD] at h;split at h<;>try trivial
  ·split at h<;>try trivial
   rename_i hrw;split at h<;>try trivial
   rename_i y' us2 hy;cases h;obtain⟨h1,h2,h3,h4,h5⟩:=qT hy;refine⟨by simp[h1],h2,λj k hj=>?_,λi j k hi hj=>?_,λj o hj=>?_⟩
   ·cases j with
    |zero=>simp[cH] at hj
    |succ j=>exact h3 j k (by simpa[cH] using hj)
   ·cases i with
    |zero=>simp[cH] at hi
    |succ i=>
     cases j with
     |zero=>simp[cH] at hj
     |succ j=>rw[h4 i j k (by simpa[cH] using hi) (by simpa[cH] using hj)]
   ·cases j with
    |zero=>
     simp only[kI,ucj] at hj;exact .inl ⟨rfl,e,t,hj.symm,hrw⟩
    |succ j=>
     rcases h5 j o (by simpa[kI] using hj) with ⟨a,e',t',c⟩|⟨k,a,b⟩
     ·exact .inl ⟨by simpa using a,e',t',c⟩
     ·exact .inr ⟨k,by simpa using a,b⟩
  ·rename_i k0;split at h<;>try trivial
   rename_i hus;split at h<;>try trivial
   rename_i e' ty' l hm;split at h<;>try trivial
   rename_i hty;split at h<;>try trivial
   rename_i hee;split at h<;>try trivial
   rename_i y' us2 hy;cases h;obtain⟨h1,h2,h3,h4,h5⟩:=qT hy;have hk0:k0 ∉ us:=by simpa using hus
   refine⟨by simp[h1],λk hk=>h2 k (ubh _ hk),λj k hj=>?_,λi j k hi hj=>?_,λj o hj=>?_⟩
   ·cases j with
    |zero=>
     simp only[cH,uat,ucj] at hj;subst hj;exact⟨hk0,h2 _ (by simp),e',ty',l,hm⟩
    |succ j=>
     obtain⟨a,b,c⟩:=h3 j k (by simpa[cH] using hj);exact⟨λhh=>a (ubh _ hh),b,c⟩
   ·cases i with
    |zero=>
     simp only[cH,uat,ucj] at hi;subst hi;cases j with
     |zero=>rfl
     |succ j=>exact absurd (by simp) (h3 j k0 (by simpa[cH] using hj)).1
    |succ i=>
     cases j with
     |zero=>
      simp only[cH,uat,ucj] at hj;subst hj;exact absurd (by simp) (h3 i k0 (by simpa[cH] using hi)).1
     |succ j=>rw[h4 i j k (by simpa[cH] using hi) (by simpa[cH] using hj)]
   ·cases j with
    |zero=>
     refine .inr ⟨k0,rfl,?_⟩;rw[hm,<- hj];subst hee;subst hty;rfl
    |succ j=>
     rcases h5 j o (by simpa[kI] using hj) with ⟨a,e',t',c⟩|⟨k,a,b⟩
     ·exact .inl ⟨by simpa using a,e',t',c⟩
     ·exact .inr ⟨k,by simpa using a,b⟩
 |(none,t)::r,c::cs,us,us',y,h=>by
  simp only[gD] at h;split at h<;>try trivial
  rename_i x hx;split at h<;>try trivial
  rename_i y' us2 hy;cases h;obtain⟨h1,h2,h3,h4,h5⟩:=qT hy;have hno:∀ k,cH (c::cs) 0=some k->False:=λk hk=>by
   simp only[cH] at hk;split at hk<;>try trivial
   rename_i k' hc;cases hc;have:=Hz t hx;cases this
  refine⟨by simp[h1],h2,λj k hj=>?_,λi j k hi hj=>?_,λj o hj=>?_⟩
  ·cases j with
   |zero=>exact(hno k hj).elim
   |succ j=>exact h3 j k (by simpa[cH] using hj)
  ·cases i with
   |zero=>exact(hno k hi).elim
   |succ i=>
    cases j with
    |zero=>exact(hno k hj).elim
    |succ j=>rw[h4 i j k (by simpa[cH] using hi) (by simpa[cH] using hj)]
  ·cases j with
   |zero=>simp[kI] at hj
   |succ j=>
    rcases h5 j o (by simpa[kI] using hj) with ⟨a,e',t',c⟩|⟨k,a,b⟩
    ·exact .inl ⟨by simpa using a,e',t',c⟩
    ·exact .inr ⟨k,by simpa using a,b⟩
def jh {all:List MI} {sl:Nat->AV}:{L:List MI} -> {us:List Nat} -> {y:cR L}->bB all sl m L us=some y->∀ i k,bz sl m L i=some k ->
  (i=k/\∃ e cs,m k=some (.box e cs))\/(k ∉ us/\∃ e t l,m k=some (.arr e t l))
 |[],_,_,_,i,k,hs=>by simp[bz] at hs
 |.o t e ty::r,us,y,h,i,k,hs=>by
  simp only[bB] at h;split at h<;>try trivial
  ·rename_i hsl;split at h<;>try trivial
   rename_i hrw;split at h<;>try trivial
   rename_i y' hy;simp only[bz,hsl] at hs;split at hs
   ·cases hs
   ·exact jh hy i k hs
  ·rename_i id hsl;split at h<;>try trivial
   rename_i hus;split at h<;>try trivial
   rename_i e' ty' l hm;split at h<;>try trivial
   split at h<;>try trivial
   split at h<;>try trivial
   rename_i y' hy;simp only[bz,hsl] at hs;split at hs
   ·cases hs;exact .inr ⟨by simpa using hus,e',ty',l,hm⟩
   ·rcases jh hy i k hs with h1|⟨h1,h2⟩
    ·exact .inl h1
    ·exact .inr ⟨λhh=>h1 (ubh _ hh),h2⟩
 |.x id e ty::r,us,y,h,i,k,hs=>by
  simp only[bB] at h;split at h<;>try trivial
  rename_i e' cs hm;split at h<;>try trivial
  split at h<;>try trivial
  split at h<;>try trivial
  rename_i y' hy;simp only[bz] at hs;split at hs
  ·rename_i hi;cases hs;exact .inl ⟨hi,e',cs,hm⟩
  ·exact jh hy i k hs
 |.r t id off::r,us,y,h,i,k,hs=>by
  simp only[bB] at h;split at h<;>try trivial
  split at h<;>try trivial
  exact jh h i k hs
 |.g t f id::r,us,y,h,i,k,hs=>by
  simp only[bB] at h;split at h<;>try trivial
  split at h<;>try trivial
  exact jh h i k hs
 |.al t s0::r,us,y,h,i,k,hs=>by
  simp only[bB] at h;split at h<;>try trivial
  all_goals (split at h<;>try trivial)
  all_goals exact jh h i k hs
 |.y id e fs::r,us,y,h,i,k,hs=>by
  simp only[bB] at h;split at h<;>try trivial
  rename_i e' cs hm;split at h<;>try trivial
  split at h<;>try trivial
  rename_i x us' hx;split at h<;>try trivial
  rename_i y' hy;obtain⟨g1,g2,g3,g4,g5⟩:=qT hx;simp only[bz,hm] at hs;split at hs
  ·rename_i hi;cases hs;exact .inl ⟨hi,e',cs,hm⟩
  ·split at hs
   ·obtain⟨a,_,c⟩:=g3 _ k hs;exact .inr ⟨a,c⟩
   ·rcases jh hy i k hs with h1|⟨h1,h2⟩
    ·exact .inl h1
    ·exact .inr ⟨λhh=>h1 (g2 k hh),h2⟩
def oK {all:List MI} {sl:Nat->AV}:{L:List MI} -> {us:List Nat} -> {y:cR L}->bB all sl m L us=some y->∀ i j k,bz sl m L i=some k->bz sl m L j=some k->i=j
 |[],_,_,_,i,j,k,hs,_=>by simp[bz] at hs
 |.o t e ty::r,us,y,h,i,j,k,hi,hj=>by
  simp only[bB] at h;split at h<;>try trivial
  ·rename_i hsl;split at h<;>try trivial
   rename_i hrw;split at h<;>try trivial
   rename_i y' hy;simp only[bz,hsl] at hi hj;split at hi
   ·cases hi
   ·split at hj
    ·cases hj
    ·exact oK hy i j k hi hj
  ·rename_i id hsl;split at h<;>try trivial
   split at h<;>try trivial
   rename_i e' ty' l hm;split at h<;>try trivial
   split at h<;>try trivial
   split at h<;>try trivial
   rename_i y' hy;have hno:∀ q,bz sl m r q=some id->False:=λq hq=>by
    rcases jh hy q id hq with ⟨_,e2,cs,h2⟩|⟨h1,_⟩
    ·rw[hm] at h2; cases h2
    ·exact h1 (by simp)
   simp only[bz,hsl] at hi hj;split at hi
   ·rename_i hie;split at hj
    ·rename_i hje;rw[hie,hje]
    ·cases hi;exact(hno j hj).elim
   ·split at hj
    ·cases hj;exact(hno i hi).elim
    ·exact oK hy i j k hi hj
 |.x id e ty::r,us,y,h,i,j,k,hi,hj=>by
  simp only[bB] at h;split at h<;>try trivial
  rename_i e' cs hm;split at h<;>try trivial
  split at h<;>try trivial
  split at h<;>try trivial
  rename_i y' hy;have hno:∀ q,bz sl m r q=some id->q=id:=λq hq=>by
   rcases jh hy q id hq with ⟨h1,_⟩|⟨_,e2,t2,l2,h2⟩
   ·exact h1
   ·rw[hm] at h2; cases h2
  simp only[bz] at hi hj;split at hi
  ·rename_i hie;cases hi;split at hj
   ·rename_i hje;rw[hie,hje]
   ·rw[hie,hno j hj]
  ·split at hj
   ·rename_i hje;cases hj;rw[hje,hno i hi]
   ·exact oK hy i j k hi hj
 |.r t id off::r,us,y,h,i,j,k,hi,hj=>by
  simp only[bB] at h;split at h<;>try trivial
  split at h<;>try trivial
  exact oK h i j k hi hj
 |.g t f id::r,us,y,h,i,j,k,hi,hj=>by
  simp only[bB] at h;split at h<;>try trivial
  split at h<;>try trivial
  exact oK h i j k hi hj
 |.al t s0::r,us,y,h,i,j,k,hi,hj=>by
  simp only[bB] at h;split at h<;>try trivial
  all_goals (split at h<;>try trivial)
  all_goals exact oK h i j k hi hj
 |.y id e fs::r,us,y,h,i,j,k,hi,hj=>by
  simp only[bB] at h;split at h<;>try trivial
  rename_i e' cs hm;split at h<;>try trivial
  split at h<;>try trivial
  rename_i x us' hx;split at h<;>try trivial
  rename_i y' hy;obtain⟨g1,g2,g3,g4,g5⟩:=qT hx;have hno1:∀ q,bz sl m r q=some id->q=id:=λq hq=>by
   rcases jh hy q id hq with ⟨h1,_⟩|⟨_,e2,t2,l2,h2⟩
   ·exact h1
   ·rw[hm] at h2; cases h2
  have hno2:∀ p q k,cH cs p=some k->bz sl m r q=some k->False:=λp q k hp hq=>by
   obtain⟨_,b,e2,t2,l2,c⟩:=g3 p k hp;rcases jh hy q k hq with ⟨_,e3,cs3,h2⟩|⟨h1,_⟩
   ·rw[c] at h2; cases h2
   ·exact h1 b
  have hno3:∀ p,cH cs p=some id->False:=λp hp=>by
   obtain⟨_,b,e2,t2,l2,c⟩:=g3 p id hp;rw[hm] at c; cases c
  simp only[bz,hm] at hi hj;split at hi
  ·rename_i hie;cases hi;split at hj
   ·rename_i hje;rw[hie,hje]
   ·split at hj
    ·exact(hno3 _ hj).elim
    ·rw[hie,hno1 j hj]
  ·split at hi
   ·rename_i hik;split at hj
    ·cases hj;exact(hno3 _ hi).elim
    ·split at hj
     ·rename_i hjk;have:=g4 _ _ k hi hj;omega
     ·exact(hno2 _ _ k hi hj).elim
   ·split at hj
    ·rename_i hje;cases hj;rw[hje,hno1 i hi]
    ·split at hj
     ·exact(hno2 _ _ k hj hi).elim
     ·exact oK hy i j k hi hj
def EZ (w:World) (v:Value) (j:Nat) (u:Value):Prop:=∃ b arr ty,v = .pointer (some ⟨b,0,none⟩)/\w.heap[b]? = some (.cells arr ty (0,0))/\arr[j]? = some u
def Td {e:Nat} {ty:Ty} {A:Prop} (he:e<dL):fI P B w F R (.slice none 0 0) (.arr e ty [])/\(A \/ ∀ b,¬ bK w (.arr e ty []) (.slice none 0 0) b):=by
 have hno:∀ (i:Nat) (x:ty.den),([]:List ty.den)[i]? ≠ some x:=λi x h=>by simp at h
 refine⟨?_,.inr λb hb=>?_⟩
 ·by_cases h:e<cj
  ·exact .inl ⟨h,[],by simpa using ucq w B e ty.size,λg hg=>by simp[Value.ownBlock] at hg,λi x hx=>absurd hx (hno i x),λu hu=>by simp at hu⟩
  ·exact .inr (.inl ⟨Nat.not_lt.1 h,he,[],by simpa using ucq w B (rY e) ty.size,λg hg=>by simp[Value.ownBlock] at hg,λu hu=>by simp at hu,λi x k c hx=>absurd hx (hno i x),λi x hx=>absurd hx (hno i x),λi j ui uj b hi=>absurd hi (Nat.not_lt_zero i)⟩)
 ·rcases hb with hb|⟨_,i,u,hi,_⟩|hb
  ·simp[Value.ownBlock] at hb
  ·exact absurd hi (Nat.not_lt_zero i)
  ·cases hb
def oN {all:List MI} {sl:Nat->AV} (hm:MemOK P B w F γ m):{L:List MI} -> {us:List Nat} -> {y:cR L}->bB all sl m L us=some y->∀ i o,bG L y i=some o ->
  ∀ R':Nat->Value->Prop,(∀ id e fs,MI.y id e fs∈L->∀ j u,ql fs j->EZ w (γ id) j u->R' (cg id+j) u)->fI P B w F R' (bQ γ sl m L i) o/\((∃ k o0,bz sl m L i=some k/\m k=some o0/\∀ b,bK w o (bQ γ sl m L i) b->bK w o0 (γ k) b) \/ ∀ b,¬ bK w o (bQ γ sl m L i) b)
 |[],_,_,_,i,o,ho=>by simp[bG] at ho
 |.o t e ty::r,us,y,h,i,o,ho=>by
  intro R' HR;simp only[bB] at h;split at h<;>try trivial
  ·rename_i hsl;split at h<;>try trivial
   rename_i hrw;split at h<;>try trivial
   rename_i y' hy;cases h;by_cases hi:i=ba t
   ·simp only[bG,if_pos hi,ucj] at ho;subst ho;simp only[bQ,bz,if_pos hi,hsl];exact Td hrw
   ·simp only[bG,if_neg hi] at ho;have:=oN hm hy i o ho R' (λid e fs hmem=>HR id e fs (ubh _ hmem));simp only[bQ,bz,if_neg hi] at this |-;exact this
  ·rename_i id hsl;split at h<;>try trivial
   split at h<;>try trivial
   rename_i e' ty' l hmm;split at h<;>try trivial
   rename_i hty;split at h<;>try trivial
   rename_i hee;split at h<;>try trivial
   rename_i y' hy;cases h;by_cases hi:i=ba t
   ·simp only[bG,if_pos hi,ucj] at ho;subst ho;simp only[bQ,bz,if_pos hi,hsl];subst hty;subst hee;have hob:=hm.ob id _ hmm;exact⟨hob,.inl ⟨id,_,rfl,hmm,λ_ h=>h⟩⟩
   ·simp only[bG,if_neg hi] at ho;have:=oN hm hy i o ho R' (λid e fs hmem=>HR id e fs (ubh _ hmem));simp only[bQ,bz,if_neg hi] at this |-;exact this
 |.x id e ty::r,us,y,h,i,o,ho=>by
  intro R' HR;simp only[bB] at h;split at h<;>try trivial
  rename_i e' cs hmm;split at h<;>try trivial
  rename_i hee;split at h<;>try trivial
  rename_i x hx;split at h<;>try trivial
  rename_i y' hy;cases h;by_cases hi:i=id
  ·simp only[bG,if_pos hi,ucj] at ho;subst ho;simp only[bQ,bz,if_pos hi];subst hee;obtain⟨b,arr,h1,h2,h3,h4,h5,h6⟩:=hm.ob id _ hmm;have hlen:=ku ty hx;refine⟨⟨b,arr,h1,h2,h3,h4,?_,aA.enc ty x (aA.dec ty hx h6).1⟩,.inl ⟨id,_,rfl,hmm,λ_ h=>h⟩⟩;rw[fl,h5,hlen];simp
  ·simp only[bG,if_neg hi] at ho;have:=oN hm hy i o ho R' (λid e fs hmem=>HR id e fs (ubh _ hmem));simp only[bQ,bz,if_neg hi] at this |-;exact this
 |.r t id off::r,us,y,h,i,o,ho=>by
  intro R' HR;simp only[bB] at h;split at h<;>try trivial
  split at h<;>try trivial
  exact oN hm h i o ho R' (λid e fs hmem=>HR id e fs (ubh _ hmem))
 |.g t f id::r,us,y,h,i,o,ho=>by
  intro R' HR;simp only[bB] at h;split at h<;>try trivial
  split at h<;>try trivial
  exact oN hm h i o ho R' (λid e fs hmem=>HR id e fs (ubh _ hmem))
 |.al t s0::r,us,y,h,i,o,ho=>by
  intro R' HR;simp only[bB] at h;split at h<;>try trivial
  all_goals (split at h<;>try trivial)
  all_goals exact oN hm h i o ho R' (λid e fs hmem=>HR id e fs (ubh _ hmem))
 |.y id e fs::r,us,y,h,i,o,ho=>by
  intro R' HR;simp only[bB] at h;split at h<;>try trivial
  rename_i e' cs hmm;split at h<;>try trivial
  rename_i hee;split at h<;>try trivial
  rename_i x us' hx;split at h<;>try trivial
  rename_i y' hy;cases h;subst hee;obtain⟨g1,g2,g3,g4,g5⟩:=qT hx;by_cases hi:i=id
  ·simp only[bG,if_pos hi,ucj] at ho;subst ho;simp only[bQ,bz,if_pos hi];obtain⟨b,arr,h1,h2,h3,h4,h5,h6⟩:=hm.ob id _ hmm;refine⟨⟨b,arr,h1,h2,h3,h4,?_,?_⟩,.inl ⟨id,_,rfl,hmm,λ_ h=>h⟩⟩
   ·rw[h5,g1,CV]
   ·refine ki _ λj c hc=>?_;have hj:j<fs.length:=by
     have:=(uak.1 hc).1;rw[CV] at this;exact this
    have hjc:j<cs.length:=by omega
    rcases HE hx 0 j c hc with ⟨rfl,hown⟩|⟨t0,x0,c0,q1,q2,q3⟩
    ·obtain⟨u,p1,p2,_⟩:=aN.at_ h6 (uap hjc);refine⟨u,p1,p2,?_⟩;rw[uet];exact HR id _ fs uca j u hown ⟨b,arr,_,h1,h2,p1⟩
    ·obtain⟨u,p1,p2⟩:=aN.at_ h6 q1;have hr1:aN P w F (ap m γ) [c0] (λi v=>i=0/\v=u):=⟨⟨u,⟨rfl,rfl⟩,p2⟩,uT⟩;have hr2:=aA.enc (P:=P) (R:=R') t0 x0 (aA.dec t0 q2 hr1).1;rw[<- q3] at hr2;obtain⟨⟨u',⟨_,rfl⟩,p3⟩,_⟩:=hr2;exact⟨u',p1,p3⟩
  ·by_cases hk:cg id<=i/\i<cg id+fs.length
   ·simp only[bG,if_neg hi,if_pos hk] at ho;simp only[bQ,bz,if_neg hi,if_pos hk,hmm];rcases g5 _ o ho with ⟨a,e0,t0,rfl,hrw⟩|⟨k,a,b⟩
    ·have hown:cH cs (i-cg id)=none:=by simp[cH,a]
     rw[hown];exact Td hrw
    ·have hown:cH cs (i-cg id)=some k:=by simp[cH,a]
     rw[hown];have hkm:=b;obtain⟨_,_,e2,t2,l2,hc⟩:=g3 _ k hown;rw[hc] at hkm;cases hkm;exact⟨hm.ob k _ hc,.inl ⟨k,_,rfl,hc,λ_ h=>h⟩⟩
   ·simp only[bG,if_neg hi,if_neg hk] at ho;have:=oN hm hy i o ho R' (λid e fs hmem=>HR id e fs (ubh _ hmem));simp only[bQ,bz,if_neg hi,if_neg hk] at this |-;exact this
def mS {all:List MI} {sl:Nat->AV} {id:Nat}:{L:List MI} -> {us:List Nat} -> {y:cR L}->bB all sl m L us=some y->iN id L=true->(∀ t e ty,MI.o t e ty∈L->ba t≠id)->id<1000000000000000000000000000000->∃ o,bG L y id=some o/\bz sl m L id=some id
 |[],_,_,_,h,_,_=>by simp[iN] at h
 |.o t e ty::r,us,y,h,hx,hno,hlt=>by
  have hne:¬ id=ba t:=λhh=>hno t e ty (by simp) hh.symm;simp only[bB] at h;split at h<;>try trivial
  ·split at h<;>try trivial
   rename_i hrw;split at h<;>try trivial
   rename_i y' hy;cases h;simp only[bG,bz,if_neg hne];exact mS hy hx (λt' e' ty' hm=>hno t' e' ty' (ubh _ hm)) hlt
  ·split at h<;>try trivial
   split at h<;>try trivial
   split at h<;>try trivial
   split at h<;>try trivial
   split at h<;>try trivial
   rename_i y' hy;cases h;simp only[bG,bz,if_neg hne];exact mS hy hx (λt' e' ty' hm=>hno t' e' ty' (ubh _ hm)) hlt
 |.x i e ty::r,us,y,h,hx,hno,hlt=>by
  simp only[bB] at h;split at h<;>try trivial
  split at h<;>try trivial
  split at h<;>try trivial
  split at h<;>try trivial
  rename_i y' hy;cases h;by_cases hi:id=i
  ·simp only[bG,bz,if_pos hi];exact⟨_,rfl,by rw[hi]⟩
  ·simp only[bG,bz,if_neg hi];simp only[iN,udp,ufc] at hx;exact mS hy (hx.resolve_left (λh=>hi h.symm)) (λt' e' ty' hm=>hno t' e' ty' (ubh _ hm)) hlt
 |.r t i off::r,us,y,h,hx,hno,hlt=>by
  simp only[bB] at h;split at h<;>try trivial
  split at h<;>try trivial
  exact mS (L:=r) h hx (λt' e' ty' hm=>hno t' e' ty' (ubh _ hm)) hlt
 |.g t f i::r,us,y,h,hx,hno,hlt=>by
  simp only[bB] at h;split at h<;>try trivial
  split at h<;>try trivial
  exact mS (L:=r) h hx (λt' e' ty' hm=>hno t' e' ty' (ubh _ hm)) hlt
 |.al t s0::r,us,y,h,hx,hno,hlt=>by
  simp only[bB] at h;split at h<;>try trivial
  all_goals (split at h<;>try trivial)
  all_goals exact mS (L:=r) h hx (λt' e' ty' hm=>hno t' e' ty' (ubh _ hm)) hlt
 |.y i e fs::r,us,y,h,hx,hno,hlt=>by
  simp only[bB] at h;split at h<;>try trivial
  split at h<;>try trivial
  split at h<;>try trivial
  split at h<;>try trivial
  rename_i y' hy;cases h;by_cases hi:id=i
  ·simp only[bG,bz,if_pos hi];exact⟨_,rfl,by rw[hi]⟩
  ·have hk:¬ (cg i<=id/\id<cg i+fs.length):=λhh=>by
    have:=hh.1;unfold cg at this;omega
   simp only[bG,bz,if_neg hi,if_neg hk];simp only[iN,udp,ufc] at hx;exact mS hy (hx.resolve_left (λh=>hi h.symm)) (λt' e' ty' hm=>hno t' e' ty' (ubh _ hm)) hlt
end
def zD:List MI->List Nat
 |[]=>[]
 |.y id _ _::r=>id::zD r
 |_::r=>zD r
def b9:List MI->Bool
 |[]=>true
 |.o t _ _::r=>decide (t<1000000000000000000000000000000)&&b9 r
 |.x id _ _::r=>decide (id<1000000000000000000000000000000)&&b9 r
 |.r _ id _::r=>decide (id<1000000000000000000000000000000)&&b9 r
 |.g _ _ ids::r=>ids.all (λid=>decide (id<1000000000000000000000000000000))&&b9 r
 |.al _ _::r=>b9 r
 |.y id _ fs::r=>decide (id<1000000000000000000000000000000)&&(decide (fs.length<=1000)&&(!(zD r).contains id&&b9 r))
def LS.low (L:LS):Bool:=b9 L.ms
section
variable {P:Program} {B:Nat} {w w':World} {E:Env} {F F':Nat->Prop} {γ γ' γ0:Nat->Value} {Γ:Gm} {M m:aT} {R:Nat->Value->Prop}
def oZ {id:Nat} {t:Tmp}:{ms:List MI}->b9 ms=true -> .r t id off∈ms->id<1000000000000000000000000000000
 |[],_,h=>by simp at h
 |.o _ _ _::r,h,hm=>by
  simp only[b9,uc9] at h;rcases uee.1 hm with h1|h1
  ·cases h1
  ·exact oZ h.2 h1
 |.x _ _ _::r,h,hm=>by
  simp only[b9,uc9] at h;rcases uee.1 hm with h1|h1
  ·cases h1
  ·exact oZ h.2 h1
 |.r _ _ _::r,h,hm=>by
  simp only[b9,uc9,ucs] at h;rcases uee.1 hm with h1|h1
  ·cases h1; exact h.1
  ·exact oZ h.2 h1
 |.g _ _ _::r,h,hm=>by
  simp only[b9,uc9] at h;rcases uee.1 hm with h1|h1
  ·cases h1
  ·exact oZ h.2 h1
 |.al _ _::r,h,hm=>by
  simp only[b9] at h;rcases uee.1 hm with h1|h1
  ·cases h1
  ·exact oZ h h1
 |.y _ _ _::r,h,hm=>by
  simp only[b9,uc9] at h;rcases uee.1 hm with h1|h1
  ·cases h1
  ·exact oZ h.2.2.2 h1
def rq {ids:List Nat} {t:Tmp}:{ms:List MI}->b9 ms=true -> .g t f ids∈ms->∀ id∈ids,id<1000000000000000000000000000000
 |[],_,h=>by simp at h
 |.o _ _ _::r,h,hm=>by
  simp only[b9,uc9] at h;rcases uee.1 hm with h1|h1
  ·cases h1
  ·exact rq h.2 h1
 |.x _ _ _::r,h,hm=>by
  simp only[b9,uc9] at h;rcases uee.1 hm with h1|h1
  ·cases h1
  ·exact rq h.2 h1
 |.r _ _ _::r,h,hm=>by
  simp only[b9,uc9] at h;rcases uee.1 hm with h1|h1
  ·cases h1
  ·exact rq h.2 h1
 |.g _ _ _::r,h,hm=>by
  simp only[b9,uc9] at h;rcases uee.1 hm with h1|h1
  ·cases h1; exact λid hid=>ucv (uc5.1 h.1 id hid)
  ·exact rq h.2 h1
 |.al _ _::r,h,hm=>by
  simp only[b9] at h;rcases uee.1 hm with h1|h1
  ·cases h1
  ·exact rq h h1
 |.y _ _ _::r,h,hm=>by
  simp only[b9,uc9] at h;rcases uee.1 hm with h1|h1
  ·cases h1
  ·exact rq h.2.2.2 h1
def qtg {ms:List MI} (h:b9 ms=true) {id:Nat} {t:Tmp} (hm : .r t id off∈ms):∀ t':Tmp,ba t'≠id:=by
 have:=oZ h hm;unfold ba;omega
def Cf:{fs:List YF}->(y:jD fs) -> {j:Nat}->ql fs j->∃ e t l,kI fs y j=some (.arr e t l)
 |[],_,_,⟨_,_,h⟩=>by simp at h
 |(some e,t)::_,y,0,_=>⟨e,t,y.1,rfl⟩
 |(some _,_)::r,y,j+1,⟨e,t,h⟩=>Cf y.2 ⟨e,t,by simpa using h⟩
 |(none,_)::r,y,j+1,⟨e,t,h⟩=>Cf y.2 ⟨e,t,by simpa using h⟩
def sr {id:Nat} {fs:List YF}:{L:List MI} -> .y id e fs∈L->id∈zD L
 |[],h=>by simp at h
 |.o _ _ _::r,h=>by
  rcases uee.1 h with h1|h1
  ·cases h1
  ·exact sr (L:=r) h1
 |.x _ _ _::r,h=>by
  rcases uee.1 h with h1|h1
  ·cases h1
  ·exact sr (L:=r) h1
 |.r _ _ _::r,h=>by
  rcases uee.1 h with h1|h1
  ·cases h1
  ·exact sr (L:=r) h1
 |.g _ _ _::r,h=>by
  rcases uee.1 h with h1|h1
  ·cases h1
  ·exact sr (L:=r) h1
 |.al _ _::r,h=>by
  rcases uee.1 h with h1|h1
  ·cases h1
  ·exact sr (L:=r) h1
 |.y _ _ _::r,h=>by
  rcases uee.1 h with h1|h1
  ·cases h1;simp[zD]
  ·exact ubh _ (sr h1)
def oL {all:List MI} {sl:Nat->AV} (hm:MemOK P B w F γ m) {id:Nat} {fs:List YF} (hj:ql fs j) (hc:EZ w (γ id) j u) :
  {L:List MI} -> {us:List Nat} -> {y:cR L}->bB all sl m L us=some y->b9 L=true -> .y id e fs∈L->id<1000000000000000000000000000000->fs.length<=1000 ->
  (∃ e t l,bG L y (cg id+j)=some (.arr e t l))/\bQ γ sl m L (cg id+j)=u
 |[],_,_,_,_,h,_,_=>by simp at h
 |.o t e' ty::r,us,y,h,hlow,hmem,hid,hfs=>by
  simp only[b9,uc9,ucs] at hlow;have key:∀ t':Nat,t'<1000000000000000000000000000000->¬ cg id+j=1000000000000000000000000000000+t':=λt' h=>by unfold cg; omega
  have hne:¬ cg id+j=ba t:=key t hlow.1;have hmem':MI.y id e fs∈r:=by
   rcases uee.1 hmem with h1|h1
   ·cases h1
   ·exact h1
  simp only[bB] at h;split at h<;>try trivial
  ·split at h<;>try trivial
   rename_i hrw;split at h<;>try trivial
   rename_i y' hy;cases h;have:=oL hm hj hc hy hlow.2 hmem' hid hfs;simpa only[bG,bQ,bz,if_neg hne] using this
  ·split at h<;>try trivial
   split at h<;>try trivial
   split at h<;>try trivial
   split at h<;>try trivial
   split at h<;>try trivial
   rename_i y' hy;cases h;have:=oL hm hj hc hy hlow.2 hmem' hid hfs;simpa only[bG,bQ,bz,if_neg hne] using this
 |.x id' e' ty::r,us,y,h,hlow,hmem,hid,hfs=>by
  simp only[b9,uc9,ucs] at hlow;have hne:¬ cg id+j=id':=by have:=hlow.1; unfold cg; omega
  have hmem':MI.y id e fs∈r:=by
   rcases uee.1 hmem with h1|h1
   ·cases h1
   ·exact h1
  simp only[bB] at h;split at h<;>try trivial
  split at h<;>try trivial
  split at h<;>try trivial
  split at h<;>try trivial
  rename_i y' hy;cases h;have:=oL hm hj hc hy hlow.2 hmem' hid hfs;simpa only[bG,bQ,bz,if_neg hne] using this
 |.r t id' off::r,us,y,h,hlow,hmem,hid,hfs=>by
  simp only[b9,uc9] at hlow;have hmem':MI.y id e fs∈r:=by
   rcases uee.1 hmem with h1|h1
   ·cases h1
   ·exact h1
  simp only[bB] at h;split at h<;>try trivial
  split at h<;>try trivial
  exact oL (L:=r) hm hj hc h hlow.2 hmem' hid hfs
 |.g t f' id'::r,us,y,h,hlow,hmem,hid,hfs=>by
  simp only[b9,uc9] at hlow;have hmem':MI.y id e fs∈r:=by
   rcases uee.1 hmem with h1|h1
   ·cases h1
   ·exact h1
  simp only[bB] at h;split at h<;>try trivial
  split at h<;>try trivial
  exact oL (L:=r) hm hj hc h hlow.2 hmem' hid hfs
 |.al t s0::r,us,y,h,hlow,hmem,hid,hfs=>by
  have hmem':MI.y id e fs∈r:=by
   rcases uee.1 hmem with h1|h1
   ·cases h1
   ·exact h1
  simp only[bB] at h;split at h<;>try trivial
  all_goals (split at h<;>try trivial)
  all_goals exact oL (L:=r) hm hj hc h hlow hmem' hid hfs
 |.y id' e' fs'::r,us,y,h,hlow,hmem,hid,hfs=>by
  simp only[b9,uc9,ucs,uct,List.contains_eq_mem,uau] at hlow;obtain⟨l1,l2,l3,l4⟩:=hlow;simp only[bB] at h;split at h<;>try trivial
  rename_i e2 cs hmm;split at h<;>try trivial
  split at h<;>try trivial
  rename_i x us' hx;split at h<;>try trivial
  rename_i y' hy;cases h;have hne:¬ cg id+j=id':=by unfold cg; omega
  by_cases hii:id=id'
  ·subst hii;have hhead:fs=fs':=by
    rcases uee.1 hmem with h1|h1
    ·cases h1; rfl
    ·exact absurd (sr h1) l3
   subst hhead;have hjl:=hj.lt;have hk:cg id<=cg id+j/\cg id+j<cg id+fs.length:=⟨by omega,by omega⟩;simp only[bG,bQ,bz,if_neg hne,if_pos hk,hmm,uaw];refine⟨Cf x hj,?_⟩;obtain⟨g1,g2,g3,g4,g5⟩:=qT hx;obtain⟨ee,tt,ll,hget⟩:=Cf x hj;obtain⟨b,arr,ty,q1,q2,q3⟩:=hc;obtain⟨b',arr',p1,p2,_,_,p5,p6⟩:=hm.ob id _ hmm;rw[q1] at p1;cases p1;rw[q2] at p2;cases p2;rcases g5 j _ hget with ⟨a,_⟩|⟨k,a,hk2⟩
   ·have hown:cH cs j=none:=by simp[cH,a]
    rw[hown];obtain⟨u',r1,_,r3⟩:=aN.at_ p6 a;rw[q3] at r1;cases r1;exact r3.symm
   ·have hown:cH cs j=some k:=by simp[cH,a]
    rw[hown];obtain⟨u',r1,_,r3⟩:=aN.at_ p6 a;rw[q3] at r1;cases r1;have r4:ap m γ k u:=r3;simp only[ap,hk2] at r4;exact r4.symm
  ·have hmem':MI.y id e fs∈r:=by
    rcases uee.1 hmem with h1|h1
    ·cases h1; exact absurd rfl hii
    ·exact h1
   have hjl:=hj.lt;have hk:¬ (cg id'<=cg id+j/\cg id+j<cg id'+fs'.length):=by unfold cg; omega
   have:=oL hm hj hc hy l4 hmem' hid hfs;simpa only[bG,bQ,bz,if_neg hne,if_neg hk] using this
def ru {id:Nat} {fs:List YF}:{ms:List MI}->b9 ms=true -> .y id e fs∈ms->id<1000000000000000000000000000000/\fs.length<=1000
 |[],_,h=>by simp at h
 |.o _ _ _::r,h,hm=>by
  simp only[b9,uc9] at h;rcases uee.1 hm with h1|h1
  ·cases h1
  ·exact ru h.2 h1
 |.x _ _ _::r,h,hm=>by
  simp only[b9,uc9] at h;rcases uee.1 hm with h1|h1
  ·cases h1
  ·exact ru h.2 h1
 |.r _ _ _::r,h,hm=>by
  simp only[b9,uc9] at h;rcases uee.1 hm with h1|h1
  ·cases h1
  ·exact ru h.2 h1
 |.g _ _ _::r,h,hm=>by
  simp only[b9,uc9] at h;rcases uee.1 hm with h1|h1
  ·cases h1
  ·exact ru h.2 h1
 |.al _ _::r,h,hm=>by
  simp only[b9] at h;rcases uee.1 hm with h1|h1
  ·cases h1
  ·exact ru h h1
 |.y _ _ _::r,h,hm=>by
  simp only[b9,uc9,ucs] at h;rcases uee.1 hm with h1|h1
  ·cases h1; exact⟨h.1,h.2.1⟩
  ·exact ru h.2.2.2 h1
def pK {all:List MI} {sl:Nat->AV} {tm:Nat->Value} (hsl:∀ t,i7 P w F (ap m γ) tm (sl t) (tm t)):{L:List MI} -> {us:List Nat} -> {y:cR L}->bB all sl m L us=some y->b9 L=true->∀ i,
  bx L i = .dead\/(bx L i = .c (.own (ba i))/\(∃ e t l,bG L y (ba i)=some (.arr e t l))/\bQ γ sl m L (ba i)=tm i/\(tm i).oneCell'=true/\i<1000000000000000000000000000000) \/
  (∃ id off,bx L i = .c (jS id off)/\sl i = .c (jS id off)/\iN id all=true/\∃ t,.r t id off∈L) \/
  (∃ f ids,bx L i = .c (.fn f (px ids))/\sl i = .c (.fn f (px ids))/\(∀ id∈ids,iN id all=true)/\∃ t,.g t f ids∈L) \/
  ∃ s0,bx L i = .c (.own (ba s0))/\jj s0 all=true/\((∃ k,sl i = .c (.own k)/\sl s0 = .c (.own k))\/(sl i = .c .nil/\sl s0 = .c .nil))
 |[],_,_,_,_,i=>.inl rfl
 |.o t e ty::r,us,y,h,hlow,i=>by
  have hlow':b9 r=true:=by
   simp only[b9,uc9] at hlow;exact hlow.2
  have hti:t<1000000000000000000000000000000:=by
   simp only[b9,uc9,ucs] at hlow;exact hlow.1
  have hs:=hsl t;simp only[bB] at h;split at h<;>try trivial
  ·rename_i hslt;split at h<;>try trivial
   rename_i hrw;split at h<;>try trivial
   rename_i y' hy;cases h;by_cases hi:i=t
   ·subst hi;refine .inr (.inl ⟨by simp[bx],⟨e,ty,[],by simp[bG]⟩,?_,?_,hti⟩)
    ·simp only[bQ,bz,hslt];rw[hslt] at hs;exact hs.2.symm
    ·rw[hslt] at hs;exact hs.1
   ·have hne:¬ ba i=ba t:=λhh=>hi (by unfold ba at hh; omega);rcases pK hsl hy hlow' i with h1|h1|⟨id,off,h1,h2,h3,t',h4⟩|⟨f2,id2,h1,h2,h3,t',h4⟩|⟨s5,h1,h5⟩
    ·exact .inl (by simpa only[bx,if_neg hi] using h1)
    ·exact .inr (.inl (by simpa only[bx,bG,bQ,bz,if_neg hi,if_neg hne] using h1))
    ·exact .inr (.inr (.inl ⟨id,off,by simpa only[bx,if_neg hi] using h1,h2,h3,t',ubh _ h4⟩))
    ·exact .inr (.inr (.inr (.inl ⟨f2,id2,by simpa only[bx,if_neg hi] using h1,h2,h3,t',ubh _ h4⟩)))
    ·exact .inr (.inr (.inr (.inr ⟨s5,by simpa only[bx,if_neg hi] using h1,h5⟩)))
  ·rename_i id hslt;split at h<;>try trivial
   split at h<;>try trivial
   rename_i e' ty' l hmm;split at h<;>try trivial
   split at h<;>try trivial
   split at h<;>try trivial
   rename_i y' hy;cases h;by_cases hi:i=t
   ·subst hi;rw[hslt] at hs;refine .inr (.inl ⟨by simp[bx],⟨e,ty,_,by simp[bG]; rfl⟩,?_,hs.1,hti⟩);simp only[bQ,bz,hslt];have:=hs.2;simp only[bc,ap,hmm] at this;exact this.symm
   ·have hne:¬ ba i=ba t:=λhh=>hi (by unfold ba at hh; omega);rcases pK hsl hy hlow' i with h1|h1|⟨id,off,h1,h2,h3,t',h4⟩|⟨f2,id2,h1,h2,h3,t',h4⟩|⟨s5,h1,h5⟩
    ·exact .inl (by simpa only[bx,if_neg hi] using h1)
    ·exact .inr (.inl (by simpa only[bx,bG,bQ,bz,if_neg hi,if_neg hne] using h1))
    ·exact .inr (.inr (.inl ⟨id,off,by simpa only[bx,if_neg hi] using h1,h2,h3,t',ubh _ h4⟩))
    ·exact .inr (.inr (.inr (.inl ⟨f2,id2,by simpa only[bx,if_neg hi] using h1,h2,h3,t',ubh _ h4⟩)))
    ·exact .inr (.inr (.inr (.inr ⟨s5,by simpa only[bx,if_neg hi] using h1,h5⟩)))
 |.x id e ty::r,us,y,h,hlow,i=>by
  have hlow':b9 r=true/\id<1000000000000000000000000000000:=by
   simp only[b9,uc9,ucs] at hlow;exact⟨hlow.2,hlow.1⟩
  simp only[bB] at h;split at h<;>try trivial
  split at h<;>try trivial
  split at h<;>try trivial
  split at h<;>try trivial
  rename_i y' hy;cases h;have hne:¬ ba i=id:=λhh=>by
   unfold ba at hh;omega
  rcases pK hsl hy hlow'.1 i with h1|h1|⟨id',off,h1,h2,h3,t',h4⟩|⟨f2,id2,h1,h2,h3,t',h4⟩|⟨s5,h1,h5⟩
  ·exact .inl (by simpa only[bx] using h1)
  ·exact .inr (.inl (by simpa only[bx,bG,bQ,bz,if_neg hne] using h1))
  ·exact .inr (.inr (.inl ⟨id',off,by simpa only[bx] using h1,h2,h3,t',ubh _ h4⟩))
  ·exact .inr (.inr (.inr (.inl ⟨f2,id2,by simpa only[bx] using h1,h2,h3,t',ubh _ h4⟩)))
  ·exact .inr (.inr (.inr (.inr ⟨s5,by simpa only[bx] using h1,h5⟩)))
 |.r t id off::r,us,y,h,hlow,i=>by
  have hlow':b9 r=true:=by
   simp only[b9,uc9] at hlow;exact hlow.2
  simp only[bB] at h;split at h<;>try trivial
  rename_i i' o' hslt;split at h<;>try trivial
  rename_i hc;obtain⟨rfl,rfl,hx⟩:=hc;by_cases hi:i=t
  ·subst hi;exact .inr (.inr (.inl ⟨i',o',by simp[bx],qwz hslt,hx,i,by simp⟩))
  ·rcases pK (L:=r) hsl h hlow' i with h1|h1|⟨id',off,h1,h2,h3,t',h4⟩|⟨f2,id2,h1,h2,h3,t',h4⟩|⟨s5,h1,h5⟩
   ·exact .inl (by simpa only[bx,if_neg hi] using h1)
   ·exact .inr (.inl (by simpa only[bG,bQ,bz,bx,if_neg hi] using h1))
   ·exact .inr (.inr (.inl ⟨id',off,by simpa only[bx,if_neg hi] using h1,h2,h3,t',ubh _ h4⟩))
   ·exact .inr (.inr (.inr (.inl ⟨f2,id2,by simpa only[bx,if_neg hi] using h1,h2,h3,t',ubh _ h4⟩)))
   ·exact .inr (.inr (.inr (.inr ⟨s5,by simpa only[bx,if_neg hi] using h1,h5⟩)))
 |.g t f id::r,us,y,h,hlow,i=>by
  have hlow':b9 r=true:=by
   simp only[b9,uc9] at hlow;exact hlow.2
  simp only[bB] at h;split at h<;>try trivial
  rename_i f' cs hslt;split at h<;>try trivial
  rename_i hc;obtain⟨rfl,hp,hx⟩:=hc;rw[Um hp] at hslt;by_cases hi:i=t
  ·subst hi;exact .inr (.inr (.inr (.inl ⟨f',id,by simp[bx],hslt,λj hj=>uc5.1 hx j hj,i,by simp⟩)))
  ·rcases pK (L:=r) hsl h hlow' i with h1|h1|⟨id',off,h1,h2,h3,t',h4⟩|⟨f2,id2,h1,h2,h3,t',h4⟩|⟨s5,h1,h5⟩
   ·exact .inl (by simpa only[bx,if_neg hi] using h1)
   ·exact .inr (.inl (by simpa only[bG,bQ,bz,bx,if_neg hi] using h1))
   ·exact .inr (.inr (.inl ⟨id',off,by simpa only[bx,if_neg hi] using h1,h2,h3,t',ubh _ h4⟩))
   ·exact .inr (.inr (.inr (.inl ⟨f2,id2,by simpa only[bx,if_neg hi] using h1,h2,h3,t',ubh _ h4⟩)))
   ·exact .inr (.inr (.inr (.inr ⟨s5,by simpa only[bx,if_neg hi] using h1,h5⟩)))
 |.al t s0::r,us,y,h,hlow,i=>by
  have hlow':b9 r=true:=by
   exact hlow
  have fin:bB all sl m r us=some y->jj s0 all=true->((∃ k,sl t = .c (.own k)/\sl s0 = .c (.own k))\/(sl t = .c .nil/\sl s0 = .c .nil)) ->
    bx (.al t s0::r) i = .dead\/(bx (.al t s0::r) i = .c (.own (ba i))/\(∃ e t' l,bG (.al t s0::r) y (ba i)=some (.arr e t' l))/\bQ γ sl m (.al t s0::r) (ba i)=tm i/\(tm i).oneCell'=true/\i<1000000000000000000000000000000) \/
    (∃ id off,bx (.al t s0::r) i = .c (jS id off)/\sl i = .c (jS id off)/\iN id all=true/\∃ t',.r t' id off∈(.al t s0::r:List MI)) \/
    (∃ f ids,bx (.al t s0::r) i = .c (.fn f (px ids))/\sl i = .c (.fn f (px ids))/\(∀ id∈ids,iN id all=true)/\∃ t',.g t' f ids∈(.al t s0::r:List MI)) \/
    ∃ s1,bx (.al t s0::r) i = .c (.own (ba s1))/\jj s1 all=true/\((∃ k,sl i = .c (.own k)/\sl s1 = .c (.own k))\/(sl i = .c .nil/\sl s1 = .c .nil)):=λh hx hs0=>by
   by_cases hi:i=t
   ·subst hi;exact Or.inr (.inr (.inr (.inr ⟨s0,by simp[bx],hx,hs0⟩)))
   ·rcases pK (L:=r) hsl h hlow' i with h1|h1|⟨id',off,h1,h2,h3,t',h4⟩|⟨f2,id2,h1,h2,h3,t',h4⟩|⟨s5,h1,h5⟩
    ·exact .inl (by simpa only[bx,if_neg hi] using h1)
    ·exact .inr (.inl (by simpa only[bG,bQ,bz,bx,if_neg hi] using h1))
    ·exact .inr (.inr (.inl ⟨id',off,by simpa only[bx,if_neg hi] using h1,h2,h3,t',ubh _ h4⟩))
    ·exact .inr (.inr (.inr (.inl ⟨f2,id2,by simpa only[bx,if_neg hi] using h1,h2,h3,t',ubh _ h4⟩)))
    ·exact .inr (.inr (.inr (.inr ⟨s5,by simpa only[bx,if_neg hi] using h1,h5⟩)))
  simp only[bB] at h;split at h<;>try trivial
  ·rename_i k1 k2 hs1 hs2;split at h<;>try trivial
   rename_i hc;obtain⟨rfl,hx⟩:=hc;exact fin h hx (.inl ⟨k1,hs1,hs2⟩)
  ·rename_i hs1 hs2;split at h<;>try trivial
   rename_i hx;exact fin h hx (.inr ⟨hs1,hs2⟩)
 |.y id e fs::r,us,y,h,hlow,i=>by
  have hlow':b9 r=true/\id<1000000000000000000000000000000:=by
   simp only[b9,uc9,ucs] at hlow;exact⟨hlow.2.2.2,hlow.1⟩
  simp only[bB] at h;split at h<;>try trivial
  split at h<;>try trivial
  split at h<;>try trivial
  split at h<;>try trivial
  rename_i y' hy;cases h;have hne:¬ ba i=id:=λhh=>by
   unfold ba at hh;omega
  rcases pK hsl hy hlow'.1 i with h1|h1|⟨id',off,h1,h2,h3,t',h4⟩|⟨f2,id2,h1,h2,h3,t',h4⟩|⟨s5,h1,h5⟩
  ·exact .inl (by simpa only[bx] using h1)
  ·have hk:¬ (cg id<=ba i/\ba i<cg id+fs.length):=λhh=>by
    have:=hh.1;unfold ba cg at this;omega
   exact .inr (.inl (by simpa only[bx,bG,bQ,bz,if_neg hne,if_neg hk] using h1))
  ·exact .inr (.inr (.inl ⟨id',off,by simpa only[bx] using h1,h2,h3,t',ubh _ h4⟩))
  ·exact .inr (.inr (.inr (.inl ⟨f2,id2,by simpa only[bx] using h1,h2,h3,t',ubh _ h4⟩)))
  ·exact .inr (.inr (.inr (.inr ⟨s5,by simpa only[bx] using h1,h5⟩)))
def Ti {a:Nat} (h:ba a=ba b):a=b:=by
 unfold ba at h;omega
def qul {a id:Nat} (h:a<1000000000000000000000000000000):¬ cg id<=ba a:=by
 unfold ba cg;omega
def rg {s0:Tmp}:{L:List MI}->b9 L=true->jj s0 L=true->s0<1000000000000000000000000000000
 |[],_,h=>by simp[jj] at h
 |.o t _ _::r,hl,h=>by
  simp only[b9,uc9,ucs] at hl;simp only[jj,udp,ufc] at h;rcases h with rfl|h
  ·exact hl.1
  ·exact rg hl.2 h
 |.x _ _ _::r,hl,h=>by
  simp only[b9,uc9] at hl;exact rg hl.2 h
 |.r _ _ _::r,hl,h=>by
  simp only[b9,uc9] at hl;exact rg hl.2 h
 |.g _ _ _::r,hl,h=>by
  simp only[b9,uc9] at hl;exact rg hl.2 h
 |.al _ _::r,hl,h=>by
  exact rg (L:=r) hl h
 |.y _ _ _::r,hl,h=>by
  simp only[b9,uc9] at hl;exact rg hl.2.2.2 h
def oM {all:List MI} {sl:Nat->AV} {s0:Tmp} (hs30:s0<1000000000000000000000000000000):{L:List MI} -> {us:List Nat} -> {y:cR L}->bB all sl m L us=some y->b9 L=true->jj s0 L=true ->
  (∃ e t l,bG L y (ba s0)=some (.arr e t l))/\((∃ k e t l,sl s0 = .c (.own k)/\m k=some (.arr e t l)/\bQ γ sl m L (ba s0)=γ k)\/(sl s0 = .c .nil/\bQ γ sl m L (ba s0) = .slice none 0 0))
 |[],_,_,_,_,h=>by simp[jj] at h
 |.o t e ty::r,us,y,h,hlow,ho=>by
  simp only[b9,uc9] at hlow;simp only[jj,udp,ufc] at ho;simp only[bB] at h;split at h<;>try trivial
  ·rename_i hslt;split at h<;>try trivial
   rename_i hrw;split at h<;>try trivial
   rename_i y' hy;cases h;by_cases hi:t=s0
   ·subst hi;refine⟨⟨e,ty,[],by simp[bG]⟩,.inr ⟨hslt,?_⟩⟩;simp only[bQ,bz,if_true,hslt]
   ·have hne:=λhh=>hi (Ti hh).symm;have:=oM hs30 hy hlow.2 (ho.resolve_left hi);simpa only[bG,bQ,bz,if_neg hne] using this
  ·rename_i id hslt;split at h<;>try trivial
   split at h<;>try trivial
   rename_i e' ty' l hmm;split at h<;>try trivial
   split at h<;>try trivial
   split at h<;>try trivial
   rename_i y' hy;cases h;by_cases hi:t=s0
   ·subst hi;refine⟨⟨e,ty,_,by simp[bG]; rfl⟩,.inl ⟨id,e',ty',l,hslt,hmm,?_⟩⟩;simp only[bQ,bz,if_true,hslt]
   ·have hne:=λhh=>hi (Ti hh).symm;have:=oM hs30 hy hlow.2 (ho.resolve_left hi);simpa only[bG,bQ,bz,if_neg hne] using this
 |.x id e ty::r,us,y,h,hlow,ho=>by
  simp only[b9,uc9,ucs] at hlow;simp only[bB] at h;split at h<;>try trivial
  split at h<;>try trivial
  split at h<;>try trivial
  split at h<;>try trivial
  rename_i y' hy;cases h;have hne:¬ ba s0=id:=λhh=>by
   unfold ba at hh;omega
  have:=oM hs30 hy hlow.2 ho;simpa only[bG,bQ,bz,if_neg hne] using this
 |.r t id off::r,us,y,h,hlow,ho=>by
  simp only[b9,uc9] at hlow;simp only[bB] at h;split at h<;>try trivial
  split at h<;>try trivial
  exact oM (L:=r) hs30 h hlow.2 ho
 |.g t f id::r,us,y,h,hlow,ho=>by
  simp only[b9,uc9] at hlow;simp only[bB] at h;split at h<;>try trivial
  split at h<;>try trivial
  exact oM (L:=r) hs30 h hlow.2 ho
 |.al t s1::r,us,y,h,hlow,ho=>by
  simp only[bB] at h;split at h<;>try trivial
  all_goals (split at h<;>try trivial)
  all_goals exact oM (L:=r) hs30 h hlow ho
 |.y id e fs::r,us,y,h,hlow,ho=>by
  simp only[b9,uc9,ucs] at hlow;simp only[bB] at h;split at h<;>try trivial
  split at h<;>try trivial
  split at h<;>try trivial
  split at h<;>try trivial
  rename_i y' hy;cases h;have hne:¬ ba s0=id:=λhh=>by
   unfold ba at hh;omega
  have hk:¬ (cg id<=ba s0/\ba s0<cg id+fs.length):=λhh=>qul hs30 hh.1;have:=oM hs30 hy hlow.2.2.2 ho;simpa only[bG,bQ,bz,if_neg hne,if_neg hk] using this
def Vj {f:Nat->AV} {tm:Nat->Value}:{vs:List (Tmp×PT)} -> {x:ag (vs.map (·.2))}->cJ P w F (vs.map (·.2)) x (vs.map λv=>tm v.1)->(∀ i,aE P w F R (f i) (tm i))->∀ i,aE P w F R (pL vs x f i) (tm i)
 |[],_,_,hf,i=>hf i
 |(t,p)::r,x,h,hf,i=>by
  obtain⟨v,vs',h1,h2,h3⟩:=h;obtain⟨rfl,rfl⟩:=h1;simp only[pL];split
  ·rename_i hi;subst hi;exact P4 h2
  ·exact Vj h3 hf i
def vG {tm:Tmp->Value}:{x:AV} -> {u:Value}->aE P w F R x u->dP P w F R tm x u
 |.dead,_,h=>h
 |.c _,_,h=>h
 |.agg _,_,h=>h
 |.tup _,_,h=>h
 |.optr _ _ _ _,_,h=>h
 |.aptr _ _ _,_,h=>h
 |.maybe _ _ _,_,h=>h.elim
def U0 {sl:Nat->AV} {tm:Nat->Value} (h:∀ t,aE P w F R (sl t) (tm t)):(ts:List Nat)->bj P w F R (ts.map sl) (ts.map tm)
 |[]=>trivial
 |t::r=>⟨h t,U0 h r⟩
def rm {s:St} {a:Act} (hi:InvG P E s a w [] F γ) (t:Tmp):aE P w F (ap s.mem γ) (s.sl t) (a.tmps.getD t undef):=by
 have:=hi.sl t;cases hs:s.sl t with
 |maybe g want v=>
  have:=hi.hg t g want v hs;simp at this
 |_=>rw[hs] at this; exact this
def eZ (a:Act) (E:Env) (t:Nat):Value:=if t<10000 then a.tmps.getD t undef else E.G (t-10000)
def RP {s:St} {a:Act} (hi:InvG P E s a w [] F γ) (t:Nat):aE P w F (ap s.mem γ) (s.at t) (eZ a E t):=by
 unfold St.at eZ;split
 ·exact rm hi t
 ·exact hi.gh _
def qxg {tm:Tmp->Value} {x:AV} (h:aE P w F R x u):i7 P w F R tm x u:=by
 cases x<;>first|exact h|exact h.elim
def qtu {m:aT} (hm:MemOK P B w F γ m) (hb:∀ b,F b->b<w.heap.size):(i:MI)->∃ F',Step B w F γ m w F' γ (CG m i)/\MemOK P B w F' γ (CG m i):=by
 intro i;unfold CG;split<;>try exact⟨F,Step.refl hb,hm⟩
 rename_i id e0 ty0;split<;>try exact⟨F,Step.refl hb,hm⟩
 rename_i e cs hid;split<;>try exact⟨F,Step.refl hb,hm⟩
 rename_i cs' u hrs;split<;>try exact⟨F,Step.refl hb,hm⟩
 rename_i e2 cs2 hid2;obtain⟨b,arr,e1,e2',e3,e4,e5,e6⟩:=hm.ob id _ hid;obtain⟨F1,s1,m1,t1,l1,r1⟩:=yR hm hb (cX.of λ_ _ h=>h) hrs e6;obtain⟨b',arr',f1,f2,f3,f4,f5,f6⟩:=m1.ob id _ hid2;rw[e1] at f1;simp at f1;subst f1;have hR:∀ i v,ap (ax m u) γ i v->ap (upd (ax m u) id (.box e cs')) γ i v:=nx hid2 (by simp);have hst:Step B w F1 γ (ax m u) w F1 γ (upd (ax m u) id (.box e cs')):=
  ⟨λc h=>h,λ_ _=>rfl,hR,λ_ _=>rfl,rfl,rfl,rfl,ue4 _,s1.bd,λc h=>.inl h⟩
 have hmm:MemOK P B w F1 γ (upd (ax m u) id (.box e cs')):=by
  refine m1.change hid2 (by simp) hst.hF hst.hw (λc h=>?_) (λc _ _=>⟨rfl,λh=>h⟩) ?_
  ·rw[e1] at h |-;exact h
  ·exact⟨b,arr,e1,e2',f3,e4,by rw[e5,l1],hst.repCL r1⟩
 refine⟨F1,?_,?_⟩
 ·rw[gc]; exact s1.trans hst
 ·rw[gc]; exact hmm
def SR:(L:List MI) -> {m:aT} -> {F:Nat->Prop}->MemOK P B w F γ m->(∀ b,F b->b<w.heap.size)->∃ F',Step B w F γ m w F' γ (yk L m)/\MemOK P B w F' γ (yk L m)
 |[],m,F,hm,hb=>⟨F,Step.refl hb,hm⟩
 |i::r,m,F,hm,hb=>by
  obtain⟨F1,s1,m1⟩:=qtu hm hb i;obtain⟨F2,s2,m2⟩:=SR r m1 s1.bd;exact⟨F2,s1.trans s2,m2⟩
def jG (hΓ:kN P Γ) {L:LS} (hlow:L.low=true) {s:St} {a:Act} (hi:I P E s a w) {x:L.X} {n:List Prop} (h:L.ext Γ s=some (x,n)) (hn:av n):I P E (L.tpl s.n x) a w:=by
 obtain⟨F,γ,hi⟩:=hi;have hsl:=RP hi;unfold LS.ext at h;split at h<;>try trivial
 rename_i xs u hrs;split at h<;>try trivial
 rename_i xv n' hdec;split at h<;>try trivial
 rename_i y hext;cases h;have hreps:bj P w F (ap s.mem γ) (L.vs.map λv=>s.at v.1) (L.vs.map λv=>eZ a E v.1):=by
  have:=U0 hsl (L.vs.map (·.1));simpa[Function.comp_def] using this
 obtain⟨F0,hs0,hm0,_,hxs0⟩:=iy hi.mem (dv hi) (cX.of λ_ _ h=>h) hrs hreps;obtain⟨F',hs1,hm⟩:=SR L.ms hm0 hs0.bd;have hs:=hs0.trans hs1;have hxs:=zE hs1.hF hs1.hw hs1.hR hxs0;generalize yk L.ms (ax s.mem u)=m2 at *;have hps:=mK hΓ hdec hn hxs;have hsl':=λt=>aE.mono hs.hF hs.hw hs.hR _ (hsl t);have hcases:=pK (λt=>qxg (hsl' t)) hext hlow;have hob:=oN hm hext;have hHR:∀ id e fs,MI.y id e fs∈L.ms->∀ j v,ql fs j->EZ w (γ id) j v->ap (bG L.ms y) (bQ γ s.at m2 L.ms) (cg id+j) v:=by
  intro id e fs hmem j v hj hc;obtain⟨h30,hfs⟩:=ru hlow hmem;obtain⟨⟨e',t',l,h1⟩,h2⟩:=oL hm hj hc hext hlow hmem h30 hfs;unfold ap;rw[h1];exact h2.symm
 have hall:∀ t,aE P w F' (ap (bG L.ms y) (bQ γ s.at m2 L.ms)) (pL L.vs xv (bx L.ms) t) (eZ a E t):=by
  refine Vj hps (λi=>?_);rcases hcases i with h1|⟨h1,⟨e,t',l,h2⟩,h3,h4,_⟩|⟨id,off,h1,h2,h3,t',h4⟩|⟨f,id,h1,h2,h3,t',h4⟩|⟨s0,h1,hx,h5⟩
  ·rw[h1]; trivial
  ·rw[h1];refine⟨h4,?_⟩;show ap (bG L.ms y) (bQ γ s.at m2 L.ms) (ba i) (eZ a E i);unfold ap;rw[h2];exact h3.symm
  ·rw[h1];have hs':=hsl' i;rw[h2] at hs';obtain⟨b,hR,hre⟩:=qwx hs'.2;refine⟨hs'.1,hre _ ?_⟩;obtain⟨o,hmo,hsrc⟩:=mS hext h3 (λt e ty _=>qtg hlow h4 t) (oZ hlow h4);have hg:bQ γ s.at m2 L.ms id=γ id:=by unfold bQ; rw[hsrc]
   have hv':(Value.pointer (some ⟨b,0,none⟩))=γ id:=by
    rcases jh hext id id hsrc with ⟨_,e,cs,hb⟩|⟨_,e,t2,l2,hb⟩
    ·simpa[ap,hb] using hR
    ·simpa[ap,hb] using hR
   unfold ap;rw[hmo];cases o<;>first|trivial|exact hv'.trans hg.symm
  ·rw[h1];have hs':=hsl' i;rw[h2] at hs';obtain⟨one,arr,hv,hsz,hcl⟩:=hs';refine⟨one,arr,hv,hsz,?_⟩;have hlow':=rq hlow h4;have key:∀ (ids:List Nat) (g:Nat->Value->Prop),(∀ id∈ids,iN id L.ms=true)->(∀ id∈ids,id<1000000000000000000000000000000)->aN P w F' (ap m2 γ) (px ids) g->aN P w F' (ap (bG L.ms y) (bQ γ s.at m2 L.ms)) (px ids) g:=by
    intro ids
    induction ids with
    |nil=>intro g _ _ _; trivial
    |cons id ids ih=>
     intro g h3 hl hr;obtain⟨⟨u0,k1,k2,b,hR,k4⟩,hrest⟩:=hr;refine⟨⟨u0,k1,k2,b,?_,k4⟩,ih _ (λj hj=>h3 j (ubh _ hj)) (λj hj=>hl j (ubh _ hj)) hrest⟩;obtain⟨o,hmo,hsrc⟩:=mS hext (h3 id (by simp)) (λt e ty _=>by have:=hl id (by simp); unfold ba; omega) (hl id (by simp));have hg:bQ γ s.at m2 L.ms id=γ id:=by unfold bQ; rw[hsrc]
     have hv':(Value.pointer (some ⟨b,0,none⟩))=γ id:=by
      rcases jh hext id id hsrc with ⟨_,e,cs,hb⟩|⟨_,e,t2,l2,hb⟩
      ·simpa[ap,hb] using hR
      ·simpa[ap,hb] using hR
     unfold ap;rw[hmo];cases o<;>first|trivial|exact hv'.trans hg.symm
   exact key _ _ h3 hlow' hcl
  ·rw[h1];obtain⟨⟨e,t',l,h2⟩,h6⟩:=oM (rg hlow hx) hext hlow hx;have hs':=hsl' i;have key:eZ a E i=bQ γ s.at m2 L.ms (ba s0)/\(eZ a E i).oneCell'=true:=by
    rcases h6 with ⟨k,e1,t1,l1,k1,k2,k3⟩|⟨k1,k2⟩
    ·rcases h5 with ⟨k',q1,q2⟩|⟨q1,q2⟩
     ·rw[q2] at k1;cases k1;rw[q1] at hs';have hv:ap m2 γ _ (eZ a E i):=hs'.2;simp only[ap,k2] at hv;exact⟨hv.trans k3.symm,hs'.1⟩
     ·rw[q2] at k1;cases k1
    ·rcases h5 with ⟨k',q1,q2⟩|⟨q1,q2⟩
     ·rw[q2] at k1;cases k1
     ·rw[q1] at hs';exact⟨hs'.2.trans k2.symm,hs'.1⟩
   refine⟨key.2,?_⟩;show ap (bG L.ms y) (bQ γ s.at m2 L.ms) (ba s0) (eZ a E i);unfold ap;rw[h2];exact key.1
 refine⟨F',bQ γ s.at m2 L.ms,hi.n,hi.df,?_,⟨λid o ho=>(hob id o ho _ hHR).1,λi j oi oj b hij hoi hoj hb hb'=>?_⟩,λt=>?_,λt g want v ht=>?_,λt=>?_⟩
 ·obtain⟨γ0,h0⟩:=hi.step;have:=h0.trans hs;exact⟨γ0,this.hF,this.hw,λ_ _ hh=>hh.elim,this.old,this.os,this.tape,this.output,this.size,this.bd,this.new⟩
 ·rcases(hob i oi hoi _ hHR).2 with ⟨k,o0,s1,m1,e1⟩|e1
  ·rcases(hob j oj hoj _ hHR).2 with ⟨k',o0',s2,m2,e2⟩|e2
   ·by_cases hk:k=k'
    ·subst hk;exact hij (oK hext i j k s1 s2)
    ·exact hm.apart k k' o0 o0' b hk m1 m2 (e1 b hb) (e2 b hb')
   ·exact e2 b hb'
  ·exact e1 b hb
 ·show dP P w F' _ _ (if t<10000 then pL L.vs xv (bx L.ms) t else .dead) _;split
  ·rename_i ht;have:=hall t;unfold eZ at this;rw[if_pos ht] at this;exact vG this
  ·trivial
 ·exfalso;have ht':(if t<10000 then pL L.vs xv (bx L.ms) t else .dead) = .maybe g want v:=ht;split at ht'
  ·have:=hall t;rw[ht'] at this;exact this
  ·cases ht'
 ·have:=hall (t+10000);unfold eZ at this;rw[if_neg (by omega),uby] at this;exact this
end
inductive Fr (α:Type) where
 |val (x:α)
 |br (b:Bool) (x y:Fr α)
 |need (p:Prop) (x:Fr α)
def Fr.needL (ns:List Prop) (x:Fr α):Fr α:=ns.foldr (λp t=>.need p t) x
def Fr.get:Fr α->α
 |.val x=>x
 |.br b x y=>if b=true then x.get else y.get
 |.need _ x=>x.get
def Fr.ok:Fr α->Prop
 |.val _=>True
 |.br b x y=>(b=true->x.ok)/\(b=false->y.ok)
 |.need p x=>p/\x.ok
def dh (P:Program) (rv:List ResultVar) (rs:List Ty) (s:St):Option (Fr (aa rs)):=
 match gv P s rv with
 |some (vs,n)=>match dK s.mem vs with
  |some (xs,_)=>match g9 rs xs with
   |some y=>some (Fr.needL n (.val y))
   |none=>none
  |none=>none
 |none=>none
def gm (P:Program) (rv:List ResultVar) (rs:List Ty) (s:St):Option (Fr (aa rs)):=match dh P rv rs s with
 |some t=>some t
 |none=>dh P rv rs (xW s)
def ib (P:Program) (rv:List ResultVar) (rs:List Ty):Tr->Option (Fr (aa rs))
 |.leaf .ret s=>gm P rv rs s
 |.leaf .normal s=>gm P rv rs s
 |.leaf _ _=>none
 |.br b x y=>match ib P rv rs x,ib P rv rs y with
  |some x',some y'=>some (.br b x' y')
  |_,_=>none
 |.need p x=>match ib P rv rs x with
  |some x'=>some (.need p x')
  |none=>none
 |.two p x y=>match ib P rv rs x,ib P rv rs y with
  |some x',some y'=>some (.need (p->x'.ok/\x'.get=y'.get) y')
  |_,_=>none
def eI:(ps:List PT)->ag ps->List AV
 |[],_=>[]
 |p::r,x=>H4 p x.1::eI r x.2
def KA (P:Program) (C:Cx) (Λ:Nat->St->Option Tr) (c:Code) (n:Nat) (rv:List ResultVar) (ps:List PT) (rs:List Ty) (xs:ag ps):Option (Fr (aa rs)):=
 match cr P C 0 Λ c 0 (sj n (eI ps xs)) with
 |some t=>ib P rv rs t
 |none=>none
section
variable {P:Program} {B:Nat} {w w':World} {E:Env} {F F':Nat->Prop} {bs:Nat} {γ γ' γ0:Nat->Value} {Γ:Gm} {M m:aT} {R:Nat->Value->Prop}
def D0 (tmps:Array Value):ResultVar->Sem Value
 |.tmp t=>pure (tmps.getD t undef)
 |.cell a t=>do loadVar t (<- asAddr (tmps.getD a undef))
def Dw (P:Program) (tmps:Array Value) (w:World):List ResultVar->List Value->Prop
 |[],[]=>True
 |r::rs,v::vs=>(D0 tmps r).run P w = .ok v w/\Dw P tmps w rs vs
 |_,_=>False
def SL {tmps:Array Value}:(l:List ResultVar)->(us:List Value)->Dw P tmps w l us->(l.mapM (m:=Sem) (D0 tmps)).run P w = .ok us w
 |[],[],_=>by simp
 |r::rs,v::vs,h=>by
  rw[List.mapM_cons];simp only[ueo,h.1,Result.andThen,SL rs vs h.2,ueq]
def vI:List Value->Value
 |[v]=>v
 |vs=>.tuple vs.toArray
def pz {fn:Func} {tmps:Array Value} (h:Dw P tmps w fn.results.toList vs):(results fn tmps).run P w = .ok (vI vs) w:=by
 have he:results fn tmps=(do
   let vs <- fn.results.mapM (D0 tmps)
   pure (if h:vs.size=1 then vs[0] else .tuple vs)):=by
  congr 1
 rw[he,Array.mapM_eq_mapM_toList];simp only[ueo,map_eq_pure_bind,ueq,SL _ _ h];cases vs with
 |nil=>simp[vI]
 |cons v vs=>
  cases vs with
  |nil=>simp[vI]
  |cons v' vs=>simp[vI]
def vH:{ts:List Ty} -> {x:aa ts} -> {vs:List Value}->dM w F ts x vs->gT w F ts x (vI vs)
 |[],_,_,h=>by
  cases h;exact⟨#[],rfl,rfl⟩
 |[t],x,vs,h=>by
  obtain⟨v,vs',rfl,h2,h3⟩:=h;cases h3;exact h2
 |t::t'::r,x,vs,h=>by
  obtain⟨v,vs',rfl,h2,h3⟩:=id h;obtain⟨v',vs'',rfl,_,_⟩:=id h3;exact⟨_,rfl,by simpa using h⟩
def mO:{ps:List PT} -> {xs:ag ps} -> {vs:List Value}->cJ P w F ps xs vs->bj P w F R (eI ps xs) vs
 |[],_,_,h=>by cases h; trivial
 |_::_,_,_,⟨v,vs',h1,h2,h3⟩=>by subst h1; exact⟨P4 h2,mO h3⟩
def ny:{xs:List AV} -> {vs:List Value}->bj P w F R xs vs->∀ i:Nat,aE P w F R (xs.getD i .dead) (vs.getD i undef)
 |[],[],_,i=>trivial
 |x::xs,v::vs,h,0=>h.1
 |x::xs,v::vs,h,i+1=>by
  have:=ny h.2 i;simpa using this
def vV {D:List Deferred} {xs:List AV} (hb:∀ b,F b->b<w.heap.size) (h:∀ R,bj P w F R xs vs) (hn:vs.length<=n):I P ⟨w,F,λ_=>undef,D,w.heap.size,ue4 _⟩ (sj n xs) { tmps:=vs.toArray++Array.replicate (n-vs.length) undef,defers:=D } w:=by
 refine⟨F,λ_=>undef,?_,rfl,⟨λ_=>undef,Step.refl hb⟩,⟨λid o ho=>(nomatch ho),λi j oi oj b _ ho=>(nomatch ho)⟩,λt=>?_,λt g want v ht=>?_,λ_=>uT⟩
 ·show _=n;simp;omega
 ·have hg:(vs.toArray++Array.replicate (n-vs.length) undef).getD t undef=vs.getD t undef:=by
   simp;rcases uel t vs.length with hlt|hge
   ·rw[uai (by simpa using hlt)];simp
   ·rw[uad (by simpa using hge),ua3 hge];simp only[uar];split<;>rfl
  rw[hg];exact vG (ny (h _) t)
 ·exfalso;have:=ny (h λ_ _=>True) t;have ht':xs.getD t .dead = .maybe g want v:=ht;rw[ht'] at this;exact this
def uM {x:Fr α}:(ns:List Prop)->(Fr.needL ns x).ok->av ns/\x.ok
 |[],h=>⟨uT,h⟩
 |p::ns,h=>by
  have h':=h;obtain⟨h1,h2⟩:=uM ns h'.2;exact⟨je.2 ⟨h'.1,h1⟩,h2⟩
def uK {x:Fr α}:(ns:List Prop)->(Fr.needL ns x).get=x.get
 |[]=>rfl
 |_::ns=>uK ns
def qX {rv:List ResultVar} {rs:List Ty}:{t:Tr} -> {f:Fr (aa rs)}->ib P rv rs t=some f->f.ok->t.sat λe s=>(e = .ret\/e = .normal)/\∃ s',(s'=s\/s'=xW s)/\∃ n,dh P rv rs s'=some (Fr.needL n (.val f.get))/\av n
 |.leaf e s,f,h,hok=>by
  have key0:∀ s,dh P rv rs s=some f->∃ n,dh P rv rs s=some (Fr.needL n (.val f.get))/\av n:=λs h=>by
   have h0:=h;unfold dh at h;split at h<;>try trivial
   split at h<;>try trivial
   split at h<;>try trivial
   cases h;refine⟨_,?_,(uM _ hok).1⟩;rw[uK];exact h0
  have key:gm P rv rs s=some f->∃ s',(s'=s\/s'=xW s)/\∃ n,dh P rv rs s'=some (Fr.needL n (.val f.get))/\av n:=λh=>by
   unfold gm at h;split at h
   ·rename_i t ht;cases h;exact⟨s,.inl rfl,key0 s ht⟩
   ·exact⟨xW s,.inr rfl,key0 _ h⟩
  cases e with
  |exit i=>simp[ib] at h
  |panic i=>simp[ib] at h
  |val i=>simp[ib] at h
  |jump i=>simp[ib] at h
  |normal=>exact⟨.inr rfl,key h⟩
  |ret=>exact⟨.inl rfl,key h⟩
 |.br b x y,f,h,hok=>by
  simp only[ib] at h;split at h<;>try trivial
  rename_i x' y' hx hy;cases h;refine⟨λhb=>?_,λhb=>?_⟩
  ·have:=qX hx (hok.1 hb);simpa only[Fr.get,hb,if_true] using this
  ·have:=qX hy (hok.2 hb);simpa only[Fr.get,hb,ub1,ufl] using this
 |.need p x,f,h,hok=>by
  simp only[ib] at h;split at h<;>try trivial
  rename_i x' hx;cases h;have:=qX hx hok.2;exact⟨hok.1,this⟩
 |.two p x y,f,h,hok=>by
  simp only[ib] at h;split at h<;>try trivial
  rename_i x' y' hx hy;cases h;have h2:=qX hy hok.2;refine⟨λhp=>?_,h2⟩;have:=qX hx (hok.1 hp).1
  rwa [(hok.1 hp).2] at this
def nz {s:St} {a:Act} (hi:InvG P E s a w [] F γ):{rv:List ResultVar} -> {vs:List AV} -> {n:List Prop}->gv P s rv=some (vs,n)->av n->∃ us,Dw P a.tmps w rv us/\bj P w F (ap s.mem γ) vs us
 |[],vs,n,h,hn=>by
  obtain⟨rfl,rfl⟩:=h;exact⟨[],uT,uT⟩
 |r::rv,vs,n,h,hn=>by
  simp only[gv] at h;split at h<;>try trivial
  rename_i v n1 vs' n2 h1 h2;cases h;obtain⟨us,h3,h4⟩:=nz hi h2 (jd.1 hn).2;have hn1:=(jd.1 hn).1;cases r with
  |tmp t=>
   obtain⟨rfl,_⟩:=h1;exact⟨a.tmps.getD t undef::us,⟨by simp[D0],h3⟩,rm hi t,h4⟩
  |cell ad t=>
   simp only[U1] at h1;split at h1<;>try trivial
   rename_i id off hs;split at h1<;>try trivial
   rename_i e he;cases h1;have hr:=rm hi ad;rw[hs] at hr;obtain⟨_,u,hu,hru⟩:=S2 hi.mem (λ_ _ h=>h) he hn1 hr;obtain⟨_,b,_,hv⟩:=hr;refine⟨u::us,⟨?_,h3⟩,hru,h4⟩;have hv':=hv;rw[hv'] at hu;show(do loadVar t (<- asAddr (a.tmps.getD ad undef)):Sem Value).run P w=_;rw[hv'];exact hu
def uL {x y:α}:{ns ms:List Prop}->Fr.needL ns (.val x)=Fr.needL ms (.val y)->av ms->av ns/\x=y
 |[],[],h,_=>by
  have h':=h;injection h' with h'
  exact⟨uT,h'⟩
 |[],_::_,h,_=>nomatch (show Fr.val x=Fr.need _ _ from h)
 |_::_,[],h,_=>nomatch (show Fr.need _ _=Fr.val y from h)
 |p::ns,q::ms,h,hm=>by
  have h':=h;injection h' with h1 h2
  subst h1;obtain⟨a,b⟩:=je.1 hm;obtain⟨c,d⟩:=uL h2 b;exact⟨je.2 ⟨a,c⟩,d⟩
def ql9 {C:Cx} (hC:CxOK P C) {Λ:Nat->St->Option Tr} {fn:Func} {c:Code} {ps:List PT} {rs:List Ty} {fr:ag ps->Fr (aa rs)}
  (hf:P.funcs[f]? = some fn) (hb:fn.body=some c) (hc:∀ args w,(callFunc f args).run P w = .ok (.enter f args) w) (hn:ps.length<=fn.ntmps) (hΛ:∀ E,bP P E Λ c 0)
  (hrun:∀ xs,KA P C Λ c fn.ntmps fn.results.toList ps rs xs=some (fr xs)):af P f ⟨ps,rs,λxs=>(fr xs).get,λxs=>[(fr xs).ok]⟩:=by
 refine⟨hc,λw F xs vs hbd hr hok=>ue8 hf hb ?_⟩;have hr':=hrun xs;unfold KA at hr';split at hr'<;>try trivial
 rename_i t ht;have hlen:vs.length=ps.length:=by
  have:∀ {ps:List PT} {xs:ag ps} {vs:List Value},cJ P w F ps xs vs->vs.length=ps.length:=by
   intro ps
   induction ps with
   |nil=>intro xs vs h; cases h; rfl
   |cons p r ih=>
    intro xs vs h;obtain⟨v,vs',rfl,_,h3⟩:=h;simp[ih h3]
  exact this hr
 have hstart:=vV (D:=[]) (n:=fn.ntmps) hbd (λR=>mO hr) (by omega);have hwp:=fR hC c 0 (hΛ _) ht (qX hr' hok) hstart;have hsz:(vs.toArray).size=vs.length:=by simp
 refine wp_mono hwp ?_;rintro e a' w' ⟨xe,s0,rfl,⟨F0,γ',hi0⟩,hxe,s,hs0,n,hend,hnn⟩;obtain⟨F',hi⟩:∃ F',InvG P _ s a' w' [] F' γ':=by
  rcases hs0 with rfl|rfl
  ·exact⟨F0,hi0⟩
  ·exact Cd _ hi0
 have hfin:a'.defers=[]/\∃ v,(results fn a'.tmps).run P w' = .ok v w'/\fJ w F rs (fr xs).get (.returned v) w':=by
  unfold dh at hend;split at hend<;>try trivial
  rename_i avs n' hres;split at hend<;>try trivial
  rename_i axs u hrs;split at hend<;>try trivial
  rename_i y hdec;injection hend with hend
  obtain⟨hn',hy⟩:=uL hend hnn;subst hy;obtain⟨us,hran,hreps⟩:=nz hi hres hn';obtain⟨F'',hs,hm',_,hxs⟩:=iy hi.mem (dv hi) (cX.of λ_ _ h=>h) hrs hreps;obtain⟨γ0,h0⟩:=hi.step;have hst:=h0.trans hs;refine⟨hi.df,_,pz hran,_,F'',rfl,⟨hst.os,hst.tape,hst.output,hst.size,hst.old⟩,hst.hF,λb hb=>⟨hst.new b hb,hst.bd b hb⟩,vH (lC hdec hxs)⟩
 rcases hxe with rfl|rfl
 ·exact hfin
 ·exact hfin
def conv {ct:Ct} (h:af P f ct) (g:ag ct.ps->aa ct.rs) (ok:ag ct.ps->List Prop) (hg:∀ w F xs vs,cJ P w F ct.ps xs vs->av (ok xs)->av (ct.ok xs)/\ct.f xs=g xs):af P f ⟨ct.ps,ct.rs,g,ok⟩:=by
 refine⟨h.1,λw F xs vs hb hr hok=>?_⟩;obtain⟨h1,h2⟩:=hg w F xs vs hr hok;have:=h.2 w F xs vs hb hr h1;rw[h2] at this;exact this
def enters {fn:Func} {c:Code} (hf:P.funcs[f]? = some fn) (hb:fn.body=some c) (hn:(fn.name == "runtime.NumGoroutine")=false) (args:Array Value) (w:World):(callFunc f args).run P w = .ok (.enter f args) w:=by
 have hn':¬ fn.name = "runtime.NumGoroutine" := by simpa using hn
 simp[callFunc,hf,hb,hn']
def mf (P:Program) (C:Cx) (Λ:Nat->St->Option Tr) (fn:Func) (ps:List PT) (rs:List Ty) (xs:ag ps):Option (Fr (aa rs)):=
 match fn.body with
 |some c=>if (fn.name == "runtime.NumGoroutine")=false/\ps.length<=fn.ntmps then KA P C Λ c fn.ntmps fn.results.toList ps rs xs else none
 |none=>none
def cf {C:Cx} (hC:CxOK P C) {Λ:Nat->St->Option Tr} {fn:Func} {ps:List PT} {rs:List Ty} {fr:ag ps->Fr (aa rs)} (x0:ag ps)
  (hf:P.funcs[f]? = some fn) (hΛ:∀ c E,fn.body=some c->bP P E Λ c 0) (hrun:∀ xs,mf P C Λ fn ps rs xs=some (fr xs)):af P f ⟨ps,rs,λxs=>(fr xs).get,λxs=>[(fr xs).ok]⟩:=by
 have h0:=hrun x0;unfold mf at h0;split at h0<;>try trivial
 rename_i c hb;split at h0<;>try trivial
 rename_i hc;refine ql9 hC hf hb (enters hf hb hc.1) hc.2 (λE=>hΛ c E hb) λxs=>?_;have:=hrun xs;unfold mf at this;simp only[hb,hc,if_true] at this;exact this
def Vy {s:St} {a:Act} {xs:List AV} (hi:InvG P E s a w [] F γ) (h:bj P w F (ap s.mem γ) xs vs) (hn:vs.length<=n) :
  I P ⟨E.w0,E.F0,eZ a E,[],E.B,E.hB⟩ ⟨n,λi=>xs.getD i .dead,s.mem,s.at⟩ { tmps:=vs.toArray++Array.replicate (n-vs.length) undef,defers:=[] } w:=by
 refine⟨F,γ,?_,rfl,hi.step,hi.mem,λt=>?_,λt g want v ht=>?_,λt=>RP hi t⟩
 ·show _=n;simp;omega
 ·have hg:(vs.toArray++Array.replicate (n-vs.length) undef).getD t undef=vs.getD t undef:=by
   simp;rcases uel t vs.length with hlt|hge
   ·rw[uai (by simpa using hlt)];simp
   ·rw[uad (by simpa using hge),ua3 hge];simp only[uar];split<;>rfl
  rw[hg];exact vG (ny h t)
 ·exfalso;have:=ny h t;have ht':xs.getD t .dead = .maybe g want v:=ht;rw[ht'] at this;exact this
def Cv {s s':St} {a a':Act} (hi:InvG P E s a w [] F γ) (h:InvG P ⟨E.w0,E.F0,eZ a E,[],E.B,E.hB⟩ s' a' w' [] F' γ'):InvG P E (s'.back s.n) a w' [] F' γ':=by
 refine⟨hi.n,hi.df,h.step,h.mem,λt=>?_,λt g want v ht=>?_,λt=>?_⟩
 ·show dP P w' F' _ _ (if t<10000 then s'.gs t else .dead) _;split
  ·rename_i ht;have:=h.gh t;have he:eZ a E t=a.tmps.getD t undef:=by unfold eZ; rw[if_pos ht]
   have h2:aE P w' F' (ap s'.mem γ') (s'.gs t) (eZ a E t):=this;rw[he] at h2;exact vG h2
  ·trivial
 ·exfalso;have ht':(if t<10000 then s'.gs t else .dead) = .maybe g want v:=ht;split at ht'
  ·have:=h.gh t;rw[ht'] at this;exact this
  ·cases ht'
 ·have hk:∀ k,aE P w' F' (ap s'.mem γ') (s'.gs k) (eZ a E k):=λk=>h.gh k;have hall:∀ k,k=t+10000->aE P w' F' (ap s'.mem γ') (s'.gs k) (E.G t):=λk hkt=>by
   have h2:=hk k;unfold eZ at h2;rw[if_neg (by omega)] at h2;have he:k-10000=t:=by omega
   rw[he] at h2;exact h2
  exact hall _ rfl
def U2:{xs:List AV} -> {vs:List Value}->bj P w F R xs vs->aE P w F R (rX xs) (vI vs)
 |[],[],_=>⟨#[],rfl,rfl,uT⟩
 |[_],[_],h=>h.1
 |x::y::r,v::u::s,h=>by
  refine⟨_,rfl,?_,?_⟩
  ·have:∀ {xs:List AV} {vs:List Value},bj P w F R xs vs->vs.length=xs.length:=λh=>h.length;simpa using this h
  ·have:∀ (xs:List AV) (vs:List Value),bj P w F R xs vs->ln P w F R xs (λj u=>vs[j]? = some u):=by
    intro xs
    induction xs with
    |nil=>intros; trivial
    |cons x xs ih=>
     intro vs h;cases vs with
     |nil=>exact h.elim
     |cons v vs=>exact⟨⟨v,rfl,h.1⟩,by simpa using ih vs h.2⟩
   simpa using this _ _ h
 |[],_::_,h=>h.elim
 |_::_,[],h=>h.elim
 |[_],_::_::_,h=>h.2.elim
 |_::_::_,[_],h=>h.2.elim
def qR {rv:List ResultVar} {Q:XE->St->Prop}:{t t':Tr}->gn P rv n t=some t'->t'.sat Q->t.sat λe s=>match e with
  |.panic p=>Q (.panic p) (s.back n)
  |.ret=>∃ vs ns,gv P s rv=some (vs,ns)/\av ns/\Q (.val (rX vs)) (s.back n)
  |.normal=>∃ vs ns,gv P s rv=some (vs,ns)/\av ns/\Q (.val (rX vs)) (s.back n)
  |_=>False
 |.leaf e s,t',h,hq=>by
  cases e with
  |panic p=>
   simp only[gn,ucj] at h;subst h;exact hq
  |ret=>
   simp only[gn] at h;split at h<;>try trivial
   rename_i vs ns hr;cases h;obtain⟨h1,h2⟩:=jm _ hq;exact⟨vs,ns,hr,h1,h2⟩
  |normal=>
   simp only[gn] at h;split at h<;>try trivial
   rename_i vs ns hr;cases h;obtain⟨h1,h2⟩:=jm _ hq;exact⟨vs,ns,hr,h1,h2⟩
  |exit _=>simp[gn] at h
  |val _=>simp[gn] at h
  |jump _=>simp[gn] at h
 |.br b x y,t',h,hq=>by
  simp only[gn] at h;split at h<;>try trivial
  rename_i x' y' hx hy;cases h;exact⟨λhb=>qR hx (hq.1 hb),λhb=>qR hy (hq.2 hb)⟩
 |.need p x,t',h,hq=>by
  simp only[gn] at h;split at h<;>try trivial
  rename_i x' hx;cases h;exact⟨hq.1,qR hx hq.2⟩
 |.two p x y,t',h,hq=>by
  simp only[gn] at h;split at h<;>try trivial
  rename_i x' y' hx hy;cases h;exact⟨λhb=>qR hx (hq.1 hb),qR hy hq.2⟩
def gG {C:Cx} (hC:CxOK P C) {Xi:FuncId->Option (Func×(Nat->St->Option Tr))} (hX:∀ f fn Λ,Xi f=some (fn,Λ)->P.funcs[f]? = some fn/\∀ c E,fn.body=some c->bP P E Λ c 0):gQ P (fU P C Xi):=by
 intro d f args s t h;unfold fU at h;split at h<;>try trivial
 rename_i fn Λ hxi;split at h<;>try trivial
 rename_i c hbody;split at h<;>try trivial
 rename_i hc;split at h<;>try trivial
 rename_i t1 ht1;obtain⟨hf,hΛ⟩:=hX f fn Λ hxi;refine⟨enters hf hbody hc.2,λE a w F γ vs Q hi hr hq=>ue8 hf hbody ?_⟩;have hlen:=hr.length;have hstart:=Vy (n:=fn.ntmps) hi hr (by omega);have hsat:=qR h hq;have hwp:=fR hC c 0 (hΛ c _ hbody) ht1 hsat hstart;have hsz:(vs.toArray).size=vs.length:=by simp
 refine wp_mono hwp ?_;rintro e a' w' ⟨xe,s',rfl,⟨F',γ',hi'⟩,hx⟩;have hfin:(∃ vs ns,gv P s' fn.results.toList=some (vs,ns)/\av ns/\Q (.val (rX vs)) (s'.back s.n))->a'.defers=[]/\∃ v,(results fn a'.tmps).run P w' = .ok v w'/\Fb P E a Q (.returned v) w':=by
  rintro⟨vs,ns,hres,hns,hqv⟩;obtain⟨us,hran,hreps⟩:=nz hi' hres hns;exact⟨hi'.df,_,pz hran,_,_,F',γ',hqv,Cv hi hi',_,rfl,U2 hreps⟩
 cases xe with
 |panic p=>exact⟨hi'.df,.panic p,_,F',γ',hx,Cv hi hi',rfl⟩
 |ret=>exact hfin hx
 |normal=>exact hfin hx
 |exit _=>exact hx.elim
 |val _=>exact hx.elim
 |jump _=>exact hx.elim
end
def Ss {p:Nat->Prop} (h:∃ n,p n):∃ n,p n/\∀ m,p m->n<=m:=by
 obtain⟨n,hn⟩:=h
 induction n using Nat.strongRecOn with
 |_ n ih=>
  by_cases hm:∃ m,m<n/\p m
  ·obtain⟨m,h1,h2⟩:=hm;exact ih m h1 h2
  ·refine⟨n,hn,λm hm'=>?_⟩;rcases uel m n with h|h
   ·exact absurd ⟨m,h,hm'⟩ hm
   ·exact h
noncomputable def u9 (p:Nat->Prop):Nat:=open Classical in if h:∃ n,p n then (Ss h).choose else 0
def uA {p:Nat->Prop} (h:∃ n,p n):p (u9 p)/\∀ m,p m->u9 p<=m:=by
 unfold u9;rw[dif_pos h];exact(Ss h).choose_spec
def zdd {c:Code} {Q:Exit->Act->World->Prop} {a:Act} (J:Nat->Act->World->Prop) (h0:∃ m,J m a w)
  (round:∀ m a w,J m a w->c.wp P (Exit.then (λa' w'=>∃ m',m'<m/\J m' a' w') Q) a w):(Code.loop c).wp P Q a w:=by
 refine wp_loop (λa w=>∃ m,J m a w) (λa w=>u9 λm=>J m a w) h0 λa w h=>?_;obtain⟨h1,h2⟩:=uA h;refine wp_mono (round _ a w h1) λe a' w' he=>?_;cases e with
 |normal=>
  obtain⟨m',h3,h4⟩:=he;exact⟨⟨m',h4⟩,ucb ((uA ⟨m',h4⟩).2 m' h4) h3⟩
 |_=>exact he
def Fr.satP (Q:α->Prop):Fr α->Prop
 |.val x=>Q x
 |.br b x y=>(b=true->x.satP Q)/\(b=false->y.satP Q)
 |.need p x=>p/\x.satP Q
def nL {Q:α->Prop}:{f:Fr α}->f.ok->Q f.get->f.satP Q
 |.val _,_,h=>h
 |.br b x y,h,hq=>by
  refine⟨λhb=>nL (h.1 hb) ?_,λhb=>nL (h.2 hb) ?_⟩
  ·simpa only[Fr.get,hb,if_true] using hq
  ·simpa only[Fr.get,hb,ub1,ufl] using hq
 |.need p x,h,hq=>⟨h.1,nL h.2 hq⟩
def cO {Q:α->Prop}:{f:Fr α}->f.satP Q->f.ok/\Q f.get
 |.val _,h=>⟨uT,h⟩
 |.br b x y,h=>by
  cases b with
  |true=>
   have:=cO (h.1 rfl);exact⟨⟨λ_=>this.1,λhb=>by cases hb⟩,this.2⟩
  |false=>
   have:=cO (h.2 rfl);exact⟨⟨λhb=>(by cases hb),λ_=>this.1⟩,this.2⟩
 |.need p x,h=>⟨⟨h.1,(cO h.2).1⟩,(cO h.2).2⟩
def E4 {Q:α->Prop} {x:Fr α}:{ns:List Prop}->(Fr.needL ns x).satP Q->av ns/\x.satP Q
 |[],h=>⟨uT,h⟩
 |p::ns,h=>by
  have h':=h;obtain⟨h1,h2⟩:=E4 h'.2;exact⟨je.2 ⟨h'.1,h1⟩,h2⟩
inductive Rd (X Y Z:Type) where
 |next (x:X)
 |out (y:Y)
 |back (z:Z)
 |pan (p:PV)
structure Lp where
 n:Nat
 id:Nat
 L:LS
 E:LS
 R:LS
abbrev Lp.In (l:Lp):Type:=l.L.X
abbrev Lp.Out (l:Lp):Type:=Rd Unit l.E.X l.R.X
abbrev Lp.Round (l:Lp):Type:=Rd l.L.X l.E.X l.R.X
def Lp.rdOf (Γ:Gm) (l:Lp):Tr->Option (Fr l.Round)
 |.leaf .normal s=>if s.n=l.n then match l.L.ext Γ s with
   |some (x,n)=>some (Fr.needL n (.val (.next x)))
   |none=>none
  else none
 |.leaf (.exit i) s=>if i=l.id/\s.n=l.n then match l.E.ext Γ s with
   |some (x,n)=>some (Fr.needL n (.val (.out x)))
   |none=>none
  else none
 |.leaf .ret s=>if s.n=l.n then match l.R.ext Γ s with
   |some (x,n)=>some (Fr.needL n (.val (.back x)))
   |none=>none
  else none
 |.leaf (.panic p) s=>if s.n=l.n then some (.val (.pan p)) else none
 |.leaf (.val _) _=>none
 |.leaf (.jump _) _=>none
 |.br b x y=>match l.rdOf Γ x,l.rdOf Γ y with
  |some x',some y'=>some (.br b x' y')
  |_,_=>none
 |.need p x=>match l.rdOf Γ x with
  |some x'=>some (.need p x')
  |none=>none
 |.two p x y=>match l.rdOf Γ x,l.rdOf Γ y with
  |some x',some y'=>some (.need (p->x'.ok/\x'.get=y'.get) y')
  |_,_=>none
def Lp.round (P:Program) (C:Cx) (bs:Nat) (Λ:Nat->St->Option Tr) (c:Code) (l:Lp) (x:l.In):Option (Fr l.Round):=
 match cr P C bs Λ c 0 (l.L.tpl l.n x) with
 |some t=>l.rdOf C.Γ t
 |none=>none
def Lp.toTr (l:Lp):Fr l.Out->Tr
 |.val (.next _)=>.need False (.leaf .ret ⟨0,λ_=>.dead,λ_=>none,λ_=>.dead⟩)
 |.val (.out y)=>.leaf (.exit l.id) (l.E.tpl l.n y)
 |.val (.back z)=>.leaf .ret (l.R.tpl l.n z)
 |.val (.pan p)=>.leaf (.panic p) ⟨l.n,λ_=>.dead,λ_=>none,λ_=>.dead⟩
 |.br b x y=>.br b (l.toTr x) (l.toTr y)
 |.need p x=>.need p (l.toTr x)
def Lp.han (Γ:Gm) (l:Lp) (F:l.In->Fr l.Out) (s:St):Option Tr:=
 if s.n=l.n then match l.L.ext Γ s with
  |some (x,n)=>some (needL n (l.toTr (F x)))
  |none=>none
 else none
section
variable {P:Program} {B:Nat} {w w':World} {E:Env} {bs:Nat} {Γ:Gm}
def Lp.toTr_sat (l:Lp) {Q:XE->St->Prop}:{f:Fr l.Out}->(l.toTr f).sat Q->f.satP λ
  |.next _=>False
  |.out y=>Q (.exit l.id) (l.E.tpl l.n y)
  |.back z=>Q .ret (l.R.tpl l.n z)
  |.pan p=>Q (.panic p) ⟨l.n,λ_=>.dead,λ_=>none,λ_=>.dead⟩
 |.val (.next _),h=>h.1
 |.val (.out _y),h=>h
 |.val (.back _z),h=>h
 |.val (.pan _),h=>h
 |.br _b _x _y,h=>⟨λhb=>l.toTr_sat (h.1 hb),λhb=>l.toTr_sat (h.2 hb)⟩
 |.need _p _x,h=>⟨h.1,l.toTr_sat h.2⟩
def Lp.rd_sat (l:Lp) {Q:l.Round->Prop}:{t:Tr} -> {f:Fr l.Round}->l.rdOf Γ t=some f->f.satP Q->t.sat λe s=>match e with
  |.normal=>s.n=l.n/\∃ x n,l.L.ext Γ s=some (x,n)/\av n/\Q (.next x)
  |.exit i=>i=l.id/\s.n=l.n/\∃ x n,l.E.ext Γ s=some (x,n)/\av n/\Q (.out x)
  |.ret=>s.n=l.n/\∃ x n,l.R.ext Γ s=some (x,n)/\av n/\Q (.back x)
  |.panic p=>s.n=l.n/\Q (.pan p)
  |.val _=>False
  |.jump _=>False
 |.leaf .normal s,f,h,hq=>by
  simp only[Lp.rdOf] at h;split at h<;>try trivial
  rename_i hn;split at h<;>try trivial
  rename_i x n hx;cases h;obtain⟨h1,h2⟩:=E4 hq;exact⟨hn,x,n,hx,h1,h2⟩
 |.leaf (.exit i) s,f,h,hq=>by
  simp only[Lp.rdOf] at h;split at h<;>try trivial
  rename_i hn;split at h<;>try trivial
  rename_i x n hx;cases h;obtain⟨h1,h2⟩:=E4 hq;exact⟨hn.1,hn.2,x,n,hx,h1,h2⟩
 |.leaf .ret s,f,h,hq=>by
  simp only[Lp.rdOf] at h;split at h<;>try trivial
  rename_i hn;split at h<;>try trivial
  rename_i x n hx;cases h;obtain⟨h1,h2⟩:=E4 hq;exact⟨hn,x,n,hx,h1,h2⟩
 |.leaf (.panic p) s,f,h,hq=>by
  simp only[Lp.rdOf] at h;split at h<;>try trivial
  rename_i hn;cases h;exact⟨hn,hq⟩
 |.leaf (.val _) s,f,h,hq=>by simp[Lp.rdOf] at h
 |.leaf (.jump _) s,f,h,hq=>by simp[Lp.rdOf] at h
 |.br b x y,f,h,hq=>by
  simp only[Lp.rdOf] at h;split at h<;>try trivial
  rename_i x' y' hx hy;cases h;exact⟨λhb=>l.rd_sat hx (hq.1 hb),λhb=>l.rd_sat hy (hq.2 hb)⟩
 |.need p x,f,h,hq=>by
  simp only[Lp.rdOf] at h;split at h<;>try trivial
  rename_i x' hx;cases h;have:=l.rd_sat hx hq.2;exact⟨hq.1,this⟩
 |.two p x y,f,h,hq=>by
  simp only[Lp.rdOf] at h;split at h<;>try trivial
  rename_i x' y' hx hy;cases h;refine⟨λhp=>l.rd_sat hx (nL (hq.1 hp).1 ?_),l.rd_sat hy hq.2⟩;rw[(hq.1 hp).2];exact(cO hq.2).2
end
inductive Oc (α:Type) where
 |ok (x:α)
 |pan (p:PV)
def Pp:(ts:List Ty)->aa ts
 |[]=>()
 |t::r=>(t.dflt,Pp r)
def Oc.bad:Oc α->Bool
 |.ok _=>false
 |.pan _=>true
def Oc.pv:Oc α->PV
 |.ok _=>⟨0,.i64,0⟩
 |.pan p=>p
def Oc.val {ts:List Ty}:Oc (aa ts)->aa ts
 |.ok x=>x
 |.pan _=>Pp ts
def Bp (P:Program) (rv:List ResultVar) (rs:List Ty) (s:St):Option (Fr (Oc (aa rs))):=
 match gv P s rv with
 |some (vs,n)=>match dK s.mem vs with
  |some (xs,_)=>match g9 rs xs with
   |some y=>some (Fr.needL n (.val (.ok y)))
   |none=>none
  |none=>none
 |none=>none
def iL (P:Program) (rv:List ResultVar) (rs:List Ty):Tr->Option (Fr (Oc (aa rs)))
 |.leaf .ret s=>Bp P rv rs s
 |.leaf .normal s=>Bp P rv rs s
 |.leaf (.panic p) _=>some (.val (.pan p))
 |.leaf _ _=>none
 |.br b x y=>match iL P rv rs x,iL P rv rs y with
  |some x',some y'=>some (.br b x' y')
  |_,_=>none
 |.need p x=>match iL P rv rs x with
  |some x'=>some (.need p x')
  |none=>none
 |.two p x y=>match iL P rv rs x,iL P rv rs y with
  |some x',some y'=>some (.need (p->x'.ok/\x'.get=y'.get) y')
  |_,_=>none
def KB (P:Program) (C:Cx) (Λ:Nat->St->Option Tr) (fn:Func) (ps:List PT) (rs:List Ty) (xs:ag ps):Option (Fr (Oc (aa rs))):=
 match fn.body with
 |some c=>if (fn.name == "runtime.NumGoroutine")=false/\ps.length<=fn.ntmps then match cr P C 0 Λ c 0 (sj fn.ntmps (eI ps xs)) with
   |some t=>iL P fn.results.toList rs t
   |none=>none
  else none
 |none=>none
section
variable {P:Program} {w w':World} {E:Env} {F F':Nat->Prop} {γ γ':Nat->Value}
def ua {rv:List ResultVar} {rs:List Ty}:{t:Tr} -> {f:Fr (Oc (aa rs))}->iL P rv rs t=some f->f.ok->t.sat λe s=>match e with
  |.panic p=>f.get = .pan p
  |.ret=>∃ vs n xs u y,gv P s rv=some (vs,n)/\av n/\dK s.mem vs=some (xs,u)/\g9 rs xs=some y/\f.get = .ok y
  |.normal=>∃ vs n xs u y,gv P s rv=some (vs,n)/\av n/\dK s.mem vs=some (xs,u)/\g9 rs xs=some y/\f.get = .ok y
  |_=>False
 |.leaf e s,f,h,hok=>by
  have key:Bp P rv rs s=some f->∃ vs n xs u y,gv P s rv=some (vs,n)/\av n/\dK s.mem vs=some (xs,u)/\g9 rs xs=some y/\f.get = .ok y:=λh=>by
   unfold Bp at h;split at h<;>try trivial
   rename_i vs n hr;split at h<;>try trivial
   rename_i xs u hx;split at h<;>try trivial
   rename_i y hy;cases h;exact⟨vs,n,xs,u,y,hr,(uM _ hok).1,hx,hy,uK _⟩
  cases e with
  |exit i=>simp[iL] at h
  |panic p=>
   simp only[iL,ucj] at h;subst h;rfl
  |val v=>simp[iL] at h
  |jump v=>simp[iL] at h
  |normal=>exact key h
  |ret=>exact key h
 |.br b x y,f,h,hok=>by
  simp only[iL] at h;split at h<;>try trivial
  rename_i x' y' hx hy;cases h;refine⟨λhb=>?_,λhb=>?_⟩
  ·have:=ua hx (hok.1 hb);simpa only[Fr.get,hb,if_true] using this
  ·have:=ua hy (hok.2 hb);simpa only[Fr.get,hb,ub1,ufl] using this
 |.need p x,f,h,hok=>by
  simp only[iL] at h;split at h<;>try trivial
  rename_i x' hx;cases h;have:=ua hx hok.2;exact⟨hok.1,this⟩
 |.two p x y,f,h,hok=>by
  simp only[iL] at h;split at h<;>try trivial
  rename_i x' y' hx hy;cases h;have h2:=ua hy hok.2;refine⟨λhp=>?_,h2⟩;have:=ua hx (hok.1 hp).1
  rwa [(hok.1 hp).2] at this
def rV:{ps:List PT} -> {xs:ag ps} -> {vs:List Value}->cJ P w F ps xs vs->vs.length=ps.length
 |[],_,_,h=>by cases h; rfl
 |_::_,_,_,⟨_,_,h1,_,h3⟩=>by subst h1; simp[rV h3]
def Q0 {C:Cx} (hC:CxOK P C) {Λ:Nat->St->Option Tr} {fn:Func} {ps:List PT} {rs:List Ty} {fr:ag ps->Fr (Oc (aa rs))} (x0:ag ps)
  (hf:P.funcs[f]? = some fn) (hΛ:∀ c E,fn.body=some c->bP P E Λ c 0) (hrun:∀ xs,KB P C Λ fn ps rs xs=some (fr xs)) :
  jz P f ⟨ps,rs,λxs=>(fr xs).get.val,λxs=>(fr xs).get.bad,λxs=>(fr xs).get.pv,λxs=>[(fr xs).ok]⟩:=by
 have h0:=hrun x0;unfold KB at h0;split at h0<;>try trivial
 rename_i c hb;split at h0<;>try trivial
 rename_i hc;refine⟨enters hf hb hc.1,λw F xs vs hbd hr hok=>ue8 hf hb ?_⟩;have hr':=hrun xs;unfold KB at hr';simp only[hb,hc,ufk,if_true] at hr';split at hr'<;>try trivial
 rename_i t ht;have hlen:vs.length=ps.length:=rV hr;have hstart:=vV (D:=[]) (n:=fn.ntmps) hbd (λR=>mO hr) (by omega);have hwp:=fR hC c 0 (hΛ c _ hb) ht (ua hr' hok) hstart;have hsz:(vs.toArray).size=vs.length:=by simp
 refine wp_mono hwp ?_;rintro e a' w' ⟨xe,s,rfl,⟨F',γ',hi⟩,hx⟩;obtain⟨γ0,h0⟩:=hi.step;have hfin:(∃ vs n xs' u y,gv P s fn.results.toList=some (vs,n)/\av n/\dK s.mem vs=some (xs',u)/\g9 rs xs'=some y/\(fr xs).get = .ok y) ->
   a'.defers=[]/\∃ v,(results fn a'.tmps).run P w' = .ok v w'/\(((fr xs).get.bad=false/\fJ w F rs (fr xs).get.val (.returned v) w')\/((fr xs).get.bad=true/\Ending.returned v = .panicked [{ v:=(fr xs).get.pv.val,recovered:=false }]/\Below w.heap.size w w')):=by
  rintro⟨vs,n,xs',u,y,hres,hn,hrs,hdec,hget⟩;obtain⟨us,hran,hreps⟩:=nz hi hres hn;obtain⟨F'',hs,hm',_,hxs⟩:=iy hi.mem (dv hi) (cX.of λ_ _ h=>h) hrs hreps;have hst:=h0.trans hs;refine⟨hi.df,_,pz hran,.inl ⟨by rw[hget]; rfl,_,F'',rfl,⟨hst.os,hst.tape,hst.output,hst.size,hst.old⟩,hst.hF,λb hb=>⟨hst.new b hb,hst.bd b hb⟩,?_⟩⟩;rw[hget];exact vH (lC hdec hxs)
 cases xe with
 |normal=>exact hfin hx
 |ret=>exact hfin hx
 |panic p=>
  have hx':=hx;refine⟨hi.df,.inr ⟨?_,?_,⟨h0.os,h0.tape,h0.output,h0.size,h0.old⟩⟩⟩
  ·show(fr xs).get.bad=true;rw[hx'];rfl
  ·show Ending.panicked _=Ending.panicked [{ v:=(fr xs).get.pv.val,recovered:=false }];rw[hx'];rfl
 |exit _=>exact hx.elim
 |val _=>exact hx.elim
 |jump _=>exact hx.elim
def OP {ct:Pc} (h:jz P f ct) (g:ag ct.ps->aa ct.rs) (bad:ag ct.ps->Bool) (pv:ag ct.ps->PV) (ok:ag ct.ps->List Prop)
  (hg:∀ w F xs vs,cJ P w F ct.ps xs vs->av (ok xs)->av (ct.ok xs)/\ct.bad xs=bad xs/\(bad xs=false->ct.f xs=g xs)/\(bad xs=true->ct.pv xs=pv xs)):jz P f ⟨ct.ps,ct.rs,g,bad,pv,ok⟩:=by
 refine⟨h.1,λw F xs vs hb hr hok=>?_⟩;obtain⟨h1,h2,h3,h4⟩:=hg w F xs vs hr hok;refine(h.2 w F xs vs hb hr h1).mono λe w' he=>?_;rcases he with ⟨b,hp⟩|⟨b,rfl,hbel⟩
 ·have hb':=h2 ▸ b;refine .inl ⟨hb',?_⟩;show fJ w F ct.rs (g xs) e w';rw[<- h3 hb'];exact hp
 ·have hb':=h2 ▸ b;refine .inr ⟨hb',?_,hbel⟩;rw[h4 hb']
end
structure Pt where
 n:Nat
 id:Nat
 M:LS
 E:LS
 R:LS
def Pt.lp (p:Pt):Lp:=⟨p.n,p.id,p.M,p.E,p.R⟩
abbrev Pt.Out (p:Pt):Type:=Rd p.M.X p.E.X p.R.X
def zI (P:Program) (E:Env) (p:Pt) (Q:p.Out->Prop) (e:Exit) (a:Act) (w:World):Prop:=
 ∃ r,Q r/\match r with
  |.next m=>e = .normal/\I P E (p.M.tpl p.n m) a w
  |.out y=>e = .exit p.id/\I P E (p.E.tpl p.n y) a w
  |.back z=>e = .ret/\I P E (p.R.tpl p.n z) a w
  |.pan v=>e = .panic [{ v:=v.val,recovered:=false }]/\∃ s,s.n=p.n/\I P E s a w
def ae (P:Program) (c:Code) (L:LS) (p:Pt) (f:L.X->Fr p.Out):Prop:=
 ∀ (E:Env) (a:Act) (w:World) (x:L.X) (Q:p.Out->Prop),I P E (L.tpl p.n x) a w->(f x).satP Q->c.wp P (zI P E p Q) a w
def nB (P:Program) (C:Cx) (bs:Nat) (Λ:Nat->St->Option Tr) (c:Code) (L:LS) (p:Pt) (x:L.X):Option (Fr p.Out):=
 match cr P C bs Λ c 0 (L.tpl p.n x) with
 |some t=>p.lp.rdOf C.Γ t
 |none=>none
def Fr.bindR {X Y Z W:Type} (k:X->Fr (Rd W Y Z)):Fr (Rd X Y Z)->Fr (Rd W Y Z)
 |.val (.next m)=>k m
 |.val (.out y)=>.val (.out y)
 |.val (.back z)=>.val (.back z)
 |.val (.pan p)=>.val (.pan p)
 |.br b x y=>.br b (x.bindR k) (y.bindR k)
 |.need p x=>.need p (x.bindR k)
def Fr.outR {Y Z W:Type}:Fr (Rd Y Y Z)->Fr (Rd Y W Z)
 |.val (.next m)=>.val (.next m)
 |.val (.out y)=>.val (.next y)
 |.val (.back z)=>.val (.back z)
 |.val (.pan p)=>.val (.pan p)
 |.br b x y=>.br b x.outR y.outR
 |.need p x=>.need p x.outR
section
variable {P:Program} {E:Env}
def Fr.bindR_sat {X Y Z W:Type} {k:X->Fr (Rd W Y Z)} {Q:Rd W Y Z->Prop}:{f:Fr (Rd X Y Z)}->(f.bindR k).satP Q->f.satP λ
  |.next m=>(k m).satP Q
  |.out y=>Q (.out y)
  |.back z=>Q (.back z)
  |.pan p=>Q (.pan p)
 |.val (.next _),h=>h
 |.val (.out _),h=>h
 |.val (.back _),h=>h
 |.val (.pan _),h=>h
 |.br _b _x _y,h=>⟨λhb=>bindR_sat (h.1 hb),λhb=>bindR_sat (h.2 hb)⟩
 |.need _p _x,h=>⟨h.1,bindR_sat h.2⟩
def Fr.outR_sat {Y Z W:Type} {Q:Rd Y W Z->Prop}:{f:Fr (Rd Y Y Z)}->f.outR.satP Q->f.satP λ
  |.next m=>Q (.next m)
  |.out y=>Q (.next y)
  |.back z=>Q (.back z)
  |.pan p=>Q (.pan p)
 |.val (.next _),h=>h
 |.val (.out _),h=>h
 |.val (.back _),h=>h
 |.val (.pan _),h=>h
 |.br _b _x _y,h=>⟨λhb=>outR_sat (h.1 hb),λhb=>outR_sat (h.2 hb)⟩
 |.need _p _x,h=>⟨h.1,outR_sat h.2⟩
def Fr.satP_mono {Q Q':α->Prop} (h:∀ x,Q x->Q' x):{f:Fr α}->f.satP Q->f.satP Q'
 |.val _,hq=>h _ hq
 |.br _ _ _,hq=>⟨λhb=>satP_mono h (hq.1 hb),λhb=>satP_mono h (hq.2 hb)⟩
 |.need _ _,hq=>⟨hq.1,satP_mono h hq.2⟩
def ae.of_run {C:Cx} (hC:CxOK P C) {bs:Nat} {Λ:Nat->St->Option Tr} {c:Code} {L:LS} {p:Pt} (hM:p.M.low=true) (hE:p.E.low=true) (hR:p.R.low=true) (hΛ:∀ E,bP P E Λ c 0) {f:L.X->Fr p.Out}
  (hr:∀ x,nB P C bs Λ c L p x=some (f x)):ae P c L p f:=by
 intro E a w x Q hi hq;have hrx:=hr x;unfold nB at hrx;split at hrx<;>try trivial
 rename_i t ht;have hsat:=p.lp.rd_sat hrx hq;refine wp_mono (fR hC c 0 (hΛ E) ht hsat hi) ?_;rintro e a' w' ⟨xe,s',rfl,his,hqs⟩;cases xe with
 |normal=>
  obtain⟨hn',y,n',hy,hn,hqy⟩:=hqs;have:=jG hC.ct hM his hy hn;rw[hn'] at this;exact⟨.next y,hqy,rfl,this⟩
 |exit i=>
  obtain⟨rfl,hn',y,n',hy,hn,hqy⟩:=hqs;have:=jG hC.ct hE his hy hn;rw[hn'] at this;exact⟨.out y,hqy,rfl,this⟩
 |ret=>
  obtain⟨hn',y,n',hy,hn,hqy⟩:=hqs;have:=jG hC.ct hR his hy hn;rw[hn'] at this;exact⟨.back y,hqy,rfl,this⟩
 |panic v=>exact⟨.pan v,hqs.2,rfl,s',hqs.1,his⟩
 |val _=>exact hqs.elim
 |jump _=>exact hqs.elim
def ae.conv {c:Code} {L:LS} {p:Pt} {f g:L.X->Fr p.Out} (h:ae P c L p f) (hg:∀ x Q,(g x).satP Q->(f x).satP Q):ae P c L p g:=
 λE a w x Q hi hq=>h E a w x Q hi (hg x Q hq)
def ae.seq {a b:Code} {L M N Eo R:LS} {id:Nat} {f:L.X->Fr (Rd M.X Eo.X R.X)} {g:M.X->Fr (Rd N.X Eo.X R.X)} (hf:ae P a L ⟨n,id,M,Eo,R⟩ f) (hg:ae P b M ⟨n,id,N,Eo,R⟩ g) :
  ae P (.seq a b) L ⟨n,id,N,Eo,R⟩ λx=>(f x).bindR g:=by
 intro E ac w x Q hi hq;refine wp_seq (wp_mono (hf E ac w x _ hi (Fr.bindR_sat hq)) ?_);rintro e a' w' ⟨r,hr,hm⟩;cases r with
 |next m=>
  obtain⟨rfl,hi'⟩:=hm;exact hg E a' w' m Q hi' hr
 |out y=>
  obtain⟨rfl,hi'⟩:=hm;exact⟨.out y,hr,rfl,hi'⟩
 |back z=>
  obtain⟨rfl,hi'⟩:=hm;exact⟨.back z,hr,rfl,hi'⟩
 |pan v=>
  obtain⟨rfl,hi'⟩:=hm;exact⟨.pan v,hr,rfl,hi'⟩
def ae.block {c:Code} {L M Eo R:LS} {id id':Nat} {f:L.X->Fr (Rd M.X M.X R.X)} (h:ae P c L ⟨n,id,M,M,R⟩ f):ae P (.block id c) L ⟨n,id',M,Eo,R⟩ λx=>(f x).outR:=by
 intro E ac w x Q hi hq;refine wp_block (wp_mono (h E ac w x _ hi (Fr.outR_sat hq)) ?_);rintro e a' w' ⟨r,hr,hm⟩;cases r with
 |next m=>
  obtain⟨rfl,hi'⟩:=hm;exact⟨.next m,hr,rfl,hi'⟩
 |out y=>
  obtain⟨rfl,hi'⟩:=hm;unfold Exit.inBlock;simp;exact⟨.next y,hr,rfl,hi'⟩
 |back z=>
  obtain⟨rfl,hi'⟩:=hm;exact⟨.back z,hr,rfl,hi'⟩
 |pan v=>
  obtain⟨rfl,hi'⟩:=hm;exact⟨.pan v,hr,rfl,hi'⟩
def ae.loop {c:Code} {L N Eo R:LS} {id:Nat} {f:L.X->Fr (Rd L.X Eo.X R.X)} (h:ae P c L ⟨n,id,L,Eo,R⟩ f) {F:L.X->Fr (Rd N.X Eo.X R.X)} {inv:L.X->Prop} {μ:L.X->Nat}
  (hlaw:∀ x,inv x->∀ Q:Rd N.X Eo.X R.X->Prop,(F x).satP Q->(f x).satP λ
   |.next x'=>inv x'/\μ x'<μ x/\(F x').satP Q
   |.out y=>Q (.out y)
   |.back z=>Q (.back z)
   |.pan p=>Q (.pan p)) (hinv:∀ x Q,(F x).satP Q->inv x):ae P (.loop c) L ⟨n,id,N,Eo,R⟩ F:=by
 intro E a w x Q hi hq;refine zdd (λm a w=>∃ x,inv x/\μ x=m/\I P E (L.tpl n x) a w/\(F x).satP Q) ⟨μ x,x,hinv x Q hq,rfl,hi,hq⟩ ?_;rintro m a w ⟨x,hx,rfl,hix,hFx⟩;refine wp_mono (h E a w x _ hix (hlaw x hx Q hFx)) ?_;rintro e a' w' ⟨r,hr,hm⟩;cases r with
 |next x'=>
  obtain⟨rfl,hi'⟩:=hm;exact⟨μ x',hr.2.1,x',hr.1,rfl,hi',hr.2.2⟩
 |out y=>
  obtain⟨rfl,hi'⟩:=hm;exact⟨.out y,hr,rfl,hi'⟩
 |back z=>
  obtain⟨rfl,hi'⟩:=hm;exact⟨.back z,hr,rfl,hi'⟩
 |pan v=>
  obtain⟨rfl,hi'⟩:=hm;exact⟨.pan v,hr,rfl,hi'⟩
def Pt.toTr (p:Pt):Fr p.Out->Tr
 |.val (.next m)=>.leaf .normal (p.M.tpl p.n m)
 |.val (.out y)=>.leaf (.exit p.id) (p.E.tpl p.n y)
 |.val (.back z)=>.leaf .ret (p.R.tpl p.n z)
 |.val (.pan v)=>.leaf (.panic v) ⟨p.n,λ_=>.dead,λ_=>none,λ_=>.dead⟩
 |.br b x y=>.br b (p.toTr x) (p.toTr y)
 |.need q x=>.need q (p.toTr x)
def Pt.han (Γ:Gm) (L:LS) (p:Pt) (F:L.X->Fr p.Out) (s:St):Option Tr:=
 if s.n=p.n then match L.ext Γ s with
  |some (x,n)=>some (needL n (p.toTr (F x)))
  |none=>none
 else none
def Pt.toTr_sat (p:Pt) {Q:XE->St->Prop}:{f:Fr p.Out}->(p.toTr f).sat Q->f.satP λ
  |.next m=>Q .normal (p.M.tpl p.n m)
  |.out y=>Q (.exit p.id) (p.E.tpl p.n y)
  |.back z=>Q .ret (p.R.tpl p.n z)
  |.pan v=>Q (.panic v) ⟨p.n,λ_=>.dead,λ_=>none,λ_=>.dead⟩
 |.val (.next _),h=>h
 |.val (.out _),h=>h
 |.val (.back _),h=>h
 |.val (.pan _),h=>h
 |.br _b _x _y,h=>⟨λhb=>p.toTr_sat (h.1 hb),λhb=>p.toTr_sat (h.2 hb)⟩
 |.need _q _x,h=>⟨h.1,p.toTr_sat h.2⟩
def ae.han {C:Cx} (hC:CxOK P C) {c:Code} {L:LS} {p:Pt} {F:L.X->Fr p.Out} (hL:L.low=true) (h:ae P (.loop c) L p F):i5 P E c (p.han C.Γ L F):=by
 intro s t hs Q hq a w hi;unfold Pt.han at hs;split at hs<;>try trivial
 rename_i hsn;split at hs<;>try trivial
 rename_i x n hx;cases hs;obtain⟨hq1,hq2⟩:=jm _ hq;have hi':=jG hC.ct hL hi hx hq1;rw[hsn] at hi';refine wp_mono (h E a w x _ hi' (p.toTr_sat hq2)) ?_;rintro e a' w' ⟨r,hr,hm⟩;cases r with
 |next m=>
  obtain⟨rfl,hi'⟩:=hm;exact⟨.normal,_,rfl,hi',hr⟩
 |out y=>
  obtain⟨rfl,hi'⟩:=hm;exact⟨.exit p.id,_,rfl,hi',hr⟩
 |back z=>
  obtain⟨rfl,hi'⟩:=hm;exact⟨.ret,_,rfl,hi',hr⟩
 |pan v=>
  obtain⟨rfl,s',hn',hi'⟩:=hm;have hdead:I P E ⟨p.n,λ_=>.dead,λ_=>none,λ_=>.dead⟩ a' w':=by
   have:=jG hC.ct (L:=⟨[],[]⟩) rfl hi' rfl trivial;rw[hn'] at this;obtain⟨F',γ',h⟩:=this;exact⟨F',γ',h.n,h.df,h.step,h.mem,λt=>uT,λt g want v ht=>(nomatch ht),λt=>uT⟩
  exact⟨.panic v,_,rfl,hdead,hr⟩
end
def Bk:(ts:List Ty)->aa ts
 |[]=>()
 |t::r=>(t.dflt,Bk r)
def aW:(ps:List PT)->ag ps
 |[]=>()
 |.d t::r=>(t.dflt,aW r)
 |.ptr t::r=>(t.dflt,aW r)
 |.fn _ rs::r=>(λ_=>Bk rs,aW r)
 |.pf _ rs::r=>((λ_=>Bk rs,λ_=>False),aW r)
 |.pfn _ rs::r=>(λ_=>Bk rs,aW r)
 |.pk _::r=>((),aW r)
def H0:(fs:List YF)->jD fs
 |[]=>()
 |(some _,_)::r=>([],H0 r)
 |(none,t)::r=>(t.dflt,H0 r)
def bN:(ms:List MI)->cR ms
 |[]=>()
 |.o _ _ _::r=>([],bN r)
 |.x _ _ ty::r=>(ty.dflt,bN r)
 |.r _ _ _::r=>bN (r)
 |.y _ _ fs::r=>(H0 fs,bN r)
 |.g _ _ _::r=>bN (r)
 |.al _ _::r=>bN (r)
def cu:List (FuncId×α)->FuncId->Option α
 |[],_=>none
 |(g,c)::r,f=>if f=g then some c else cu r f
def iz (P:Program):List (FuncId×Ct)->Prop
 |[]=>True
 |(f,c)::r=>af P f c/\iz P r
def qi (P:Program):List (FuncId×Pc)->Prop
 |[]=>True
 |(f,c)::r=>jz P f c/\qi P r
def iz.get:{l:List (FuncId×Ct)}->iz P l->∀ f c,cu l f=some c->af P f c
 |[],_,f,c,h=>by simp[cu] at h
 |(g,c0)::r,ha,f,c,h=>by
  unfold cu at h;split at h
  ·rename_i hfg;injection h with h
   subst h hfg;exact ha.1
  ·exact iz.get ha.2 f c h
def qi.get:{l:List (FuncId×Pc)}->qi P l->∀ f c,cu l f=some c->jz P f c
 |[],_,f,c,h=>by simp[cu] at h
 |(g,c0)::r,ha,f,c,h=>by
  unfold cu at h;split at h
  ·rename_i hfg;injection h with h
   subst h hfg;exact ha.1
  ·exact qi.get ha.2 f c h
def cx (cs:List (FuncId×Ct)) (ps:List (FuncId×Pc)):Cx:=⟨cu cs,cu ps,λ_ _ _ _=>none⟩
def cW (cs:List (FuncId×Ct)) (ps:List (FuncId×Pc)) (K:Nat->FuncId->List AV->St->Option Tr):Cx:=⟨cu cs,cu ps,K⟩
def aP (hm:P.follows .mixedOrders=true) {cs:List (FuncId×Ct)} {ps:List (FuncId×Pc)} (h:iz P cs) (k:qi P ps):CxOK P (cx cs ps):=
 ⟨hm,⟨h.get,λ_ _ h=>(nomatch h)⟩,k.get,λ_ _ _ _ _ h=>(nomatch h)⟩
def cZ (hm:P.follows .mixedOrders=true) {cs:List (FuncId×Ct)} {ps:List (FuncId×Pc)} {K:Nat->FuncId->List AV->St->Option Tr} (h:iz P cs) (k:qi P ps) (hK:gQ P K):CxOK P (cW cs ps K):=
 ⟨hm,⟨h.get,λ_ _ h=>(nomatch h)⟩,k.get,hK⟩
def ws (P:Program):List (FuncId×Row)->Prop
 |[]=>True
 |(f,r)::l=>zZ P f r/\ws P l
def ws.get:{l:List (FuncId×Row)}->ws P l->∀ f c,cu l f=some c->zZ P f c
 |[],_,f,c,h=>by simp[cu] at h
 |(g,c0)::r,ha,f,c,h=>by
  simp only[cu] at h;split at h
  ·rename_i hf;subst hf;cases h;exact ha.1
  ·exact ws.get ha.2 f c h
def l8 (cs:List (FuncId×Ct)) (ps:List (FuncId×Pc)) (rs:List (FuncId×Row)) (K:Nat->FuncId->List AV->St->Option Tr):Cx:=⟨⟨cu cs,cu rs⟩,cu ps,K⟩
def mI (hm:P.follows .mixedOrders=true) {cs:List (FuncId×Ct)} {ps:List (FuncId×Pc)} {rs:List (FuncId×Row)} {K:Nat->FuncId->List AV->St->Option Tr} (h:iz P cs) (k:qi P ps) (l:ws P rs) (hK:gQ P K):CxOK P (l8 cs ps rs K):=
 ⟨hm,⟨h.get,l.get⟩,k.get,hK⟩
def bw:Nat->St->Option Tr:=λ_ _=>none
def aY {E:Env}:(c:Code)->(k:Nat)->bP P E bw c k
 |.seq a b,k=>⟨aY a k,aY b _⟩
 |.cond _ a b,k=>⟨aY a k,aY b _⟩
 |.block _ c,k=>aY c k
 |.scope c,k=>aY c k
 |.loop _,_=>λ_ _ h=>nomatch h
 |.skip,_=>trivial
 |.ret,_=>trivial
 |.exit _,_=>trivial
 |.region _ _ _,_=>trivial
 |.label _,_=>trivial
 |.goto _,_=>trivial
 |.rangeFunc _ _ _ _,_=>trivial
 |.refuse _,_=>trivial
def loopB:Code->Nat->Option Code
 |.loop c,0=>some c
 |.seq a b,k=>if k<ce a then loopB a k else loopB b (k-ce a)
 |.cond _ a b,k=>if k<ce a then loopB a k else loopB b (k-ce a)
 |.block _ c,k=>loopB c k
 |.scope c,k=>loopB c k
 |_,_=>none
def au (f:Func) (k:Nat):Code:=(f.body.bind (loopB · k)).getD .skip
def loopB_lt:{c:Code} -> {k:Nat} -> {b:Code}->loopB c k=some b->k<ce c
 |.loop _,0,_,_=>udq
 |.loop _,_+1,_,h=>by simp[loopB] at h
 |.seq x y,k,b,h=>by
  simp only[loopB] at h;simp only[ce];split at h
  ·omega
  ·have:=loopB_lt h;omega
 |.cond _ x y,k,b,h=>by
  simp only[loopB] at h;simp only[ce];split at h
  ·omega
  ·have:=loopB_lt h;omega
 |.block _ c,k,b,h=>loopB_lt (c:=c) h
 |.scope c,k,b,h=>loopB_lt (c:=c) h
 |.skip,_,_,h=>by simp[loopB] at h
 |.region _ _ _,_,_,h=>by simp[loopB] at h
 |.ret,_,_,h=>by simp[loopB] at h
 |.exit _,_,_,h=>by simp[loopB] at h
 |.label _,_,_,h=>by simp[loopB] at h
 |.goto _,_,_,h=>by simp[loopB] at h
 |.rangeFunc _ _ _ _,_,_,h=>by simp[loopB] at h
 |.refuse _,_,_,h=>by simp[loopB] at h
def jJ {E:Env} {Λ:Nat->St->Option Tr}:(c:Code)->(k:Nat)->(∀ i b,loopB c i=some b->i5 P E b (Λ (k+i)))->bP P E Λ c k
 |.loop b,k,h=>h 0 b rfl
 |.seq x y,k,h=>⟨jJ x k λi b hb=>h i b (by simp only[loopB]; rw[if_pos (loopB_lt hb)]; exact hb),jJ y _ λi b hb=>by
   have:=h (ce x+i) b (by simp only[loopB]; rw[if_neg (by omega),uaw]; exact hb)
   rwa [<- ued] at this⟩
 |.cond _ x y,k,h=>⟨jJ x k λi b hb=>h i b (by simp only[loopB]; rw[if_pos (loopB_lt hb)]; exact hb),jJ y _ λi b hb=>by
   have:=h (ce x+i) b (by simp only[loopB]; rw[if_neg (by omega),uaw]; exact hb)
   rwa [<- ued] at this⟩
 |.block _ c,k,h=>jJ c k h
 |.scope c,k,h=>jJ c k h
 |.skip,_,_=>trivial
 |.ret,_,_=>trivial
 |.exit _,_,_=>trivial
 |.region _ _ _,_,_=>trivial
 |.label _,_,_=>trivial
 |.goto _,_,_=>trivial
 |.rangeFunc _ _ _ _,_,_=>trivial
 |.refuse _,_,_=>trivial
def kP {E:Env} {Λ:Nat->St->Option Tr} {c b:Code} (hn:ce c=1) (hb:loopB c 0=some b) (h:i5 P E b (Λ 0)):bP P E Λ c 0:=by
 refine jJ c 0 λi b' hb'=>?_;have h1:=loopB_lt hb';have hi:i=0:=by omega
 subst hi;rw[hb] at hb';cases hb';exact h
def ea {E:Env} {Λ:Nat->St->Option Tr} {fn:Func} {c b:Code} (hc:fn.body=some c) (hn:(fn.body.map ce)=some 1) (hb:fn.body.bind (loopB · 0)=some b) (h:i5 P E b (Λ 0)):bP P E Λ c 0:=by
 rw[hc] at hn hb;exact kP (by simpa using hn) (by simpa using hb) h
def C8 {E:Env} {Λ:Nat->St->Option Tr} {fn:Func} {c b0 b1:Code} (hc:fn.body=some c) (hn:(fn.body.map ce)=some 2) (hb0:fn.body.bind (loopB · 0)=some b0) (hb1:fn.body.bind (loopB · 1)=some b1)
  (h0:i5 P E b0 (Λ 0)) (h1:i5 P E b1 (Λ 1)):bP P E Λ c 0:=by
 rw[hc] at hn hb0 hb1;simp at hn;simp at hb0 hb1;refine jJ c 0 λi b' hb'=>?_;have hlt:=loopB_lt hb';have hi:i=0\/i=1:=by omega
 rcases hi with rfl|rfl
 ·rw[hb0] at hb';cases hb';exact h0
 ·rw[hb1] at hb';cases hb';exact h1
def flat {C:Cx} (hC:CxOK P C) {fn:Func} {ps:List PT} {rs:List Ty} {fr:ag ps->Fr (aa rs)} (x0:ag ps) (hf:P.funcs[f]? = some fn)
  (hrun:∀ xs,mf P C bw fn ps rs xs=some (fr xs)) (g:ag ps->aa rs) (ok:ag ps->List Prop)
  (hg:∀ w F xs vs,cJ P w F ps xs vs->av (ok xs)->(fr xs).ok/\(fr xs).get=g xs):af P f ⟨ps,rs,g,ok⟩:=
 conv (cf hC x0 hf (λc _E _=>aY c 0) hrun) g ok hg
def IK (P:Program) (Γ:Gm) (f:FuncId) (fn:Func) (L:LS) (p:Pt) (F:L.X->Fr p.Out) (_d:Nat) (g:FuncId) (args:List AV) (s:St):Option Tr:=
 if g=f/\args.length<=fn.ntmps/\p.n=fn.ntmps then
  match L.ext Γ ⟨fn.ntmps,λi=>args.getD i .dead,s.mem,s.at⟩ with
  |some (x,n)=>match gn P fn.results.toList s.n (p.toTr (F x)) with
   |some t=>some (needL n t)
   |none=>none
  |none=>none
 else none
def qnb {C:Cx} (hC:CxOK P C) {fn:Func} {c:Code} (hf:P.funcs[f]? = some fn) (hb:fn.body=some c) (hn:(fn.name == "runtime.NumGoroutine")=false) {L:LS} (hL:L.low=true) {p:Pt} {F:L.X->Fr p.Out} (h:ae P c L p F) :
  gQ P (IK P C.Γ f fn L p F):=by
 intro d g args s t ht;unfold IK at ht;split at ht<;>try trivial
 rename_i hcond;obtain⟨rfl,hlen0,hpn⟩:=hcond;split at ht<;>try trivial
 rename_i x n hx;split at ht<;>try trivial
 rename_i t1 ht1;cases ht;refine⟨enters hf hb hn,λE a w F0 γ vs Q hi hr hq=>ue8 hf hb ?_⟩;have hlen:=hr.length;have hstart:=Vy (n:=fn.ntmps) hi hr (by omega);obtain⟨hq1,hq2⟩:=jm _ hq;have hi':=jG hC.ct hL hstart hx hq1;have hsat:=qR ht1 hq2;have hsz:(vs.toArray).size=vs.length:=by simp
 have hi2:I P ⟨E.w0,E.F0,eZ a E,[],E.B,E.hB⟩ (L.tpl p.n x) { tmps:=vs.toArray++Array.replicate (fn.ntmps-vs.length) undef,defers:=[] } w:=by
  rw[hpn];exact hi'
 refine wp_mono (h _ _ w x _ hi2 (p.toTr_sat hsat)) ?_;rintro e a' w' ⟨r,hr',hm⟩;have hfin:∀ s':St,I P ⟨E.w0,E.F0,eZ a E,[],E.B,E.hB⟩ s' a' w'->(∃ vs ns,gv P s' fn.results.toList=some (vs,ns)/\av ns/\Q (.val (rX vs)) (s'.back s.n))->a'.defers=[]/\∃ v,(results fn a'.tmps).run P w' = .ok v w'/\Fb P E a Q (.returned v) w':=by
  rintro s' ⟨F',γ',hi'⟩ ⟨vs,ns,hres,hns,hqv⟩;obtain⟨us,hran,hreps⟩:=nz hi' hres hns;exact⟨hi'.df,_,pz hran,_,_,F',γ',hqv,Cv hi hi',_,rfl,U2 hreps⟩
 cases r with
 |next m=>
  obtain⟨rfl,hi3⟩:=hm;exact hfin _ hi3 hr'
 |out y=>exact hr'.elim
 |back z=>
  obtain⟨rfl,hi3⟩:=hm;exact hfin _ hi3 hr'
 |pan v=>
  obtain⟨rfl,s',hn',hi3⟩:=hm;have hdead:I P ⟨E.w0,E.F0,eZ a E,[],E.B,E.hB⟩ ⟨p.n,λ_=>.dead,λ_=>none,λ_=>.dead⟩ a' w':=by
   have:=jG hC.ct (L:=⟨[],[]⟩) rfl hi3 rfl trivial;rw[hn'] at this;obtain⟨F',γ',h⟩:=this;exact⟨F',γ',h.n,h.df,h.step,h.mem,λt=>uT,λt g want v ht=>(nomatch ht),λt=>uT⟩
  obtain⟨F',γ',h4⟩:=hdead;exact⟨h4.df,.panic v,_,F',γ',hr',Cv hi h4,rfl⟩
def iS (K K':Nat->FuncId->List AV->St->Option Tr) (d:Nat) (f:FuncId) (args:List AV) (s:St):Option Tr:=
 match K d f args s with
 |some t=>some t
 |none=>K' d f args s
def jN {K K':Nat->FuncId->List AV->St->Option Tr} (h:gQ P K) (h':gQ P K'):gQ P (iS K K'):=by
 intro d f args s t ht;unfold iS at ht;split at ht
 ·rename_i t' hk;cases ht;exact h d f args s _ hk
 ·exact h' d f args s t ht
def qo9 {E:Env} {Λ:Nat->St->Option Tr} {fn:Func} {c b0 b1 b2:Code} (hc:fn.body=some c) (hn:(fn.body.map ce)=some 3) (hb0:fn.body.bind (loopB · 0)=some b0) (hb1:fn.body.bind (loopB · 1)=some b1) (hb2:fn.body.bind (loopB · 2)=some b2)
  (h0:i5 P E b0 (Λ 0)) (h1:i5 P E b1 (Λ 1)) (h2:i5 P E b2 (Λ 2)):bP P E Λ c 0:=by
 rw[hc] at hn hb0 hb1 hb2;simp at hn;simp at hb0 hb1 hb2;refine jJ c 0 λi b' hb'=>?_;have hlt:=loopB_lt hb';have hi:i=0\/i=1\/i=2:=by omega
 rcases hi with rfl|rfl|rfl
 ·rw[hb0] at hb';cases hb';exact h0
 ·rw[hb1] at hb';cases hb';exact h1
 ·rw[hb2] at hb';cases hb';exact h2
def dn {C:Cx} (hC:CxOK P C) {c:Code} {L:LS} {p:Pt} {f:L.X->Fr p.Out} (hr:∀ x,nB P C 0 bw c L p x=some (f x):=by intro x; kernel_rfl) (hM:p.M.low=true:=by rfl) (hE:p.E.low=true:=by rfl) (hR:p.R.low=true:=by rfl):ae P c L p f:=
 ae.of_run hC hM hE hR (λ_=>aY _ 0) hr
abbrev bg (ps:List PT) (rs:List Ty) (fr:ag ps->Fr (aa rs)):Ct:=⟨ps,rs,λxs=>(fr xs).get,λxs=>[(fr xs).ok]⟩
def aS {C:Cx} (hC:CxOK P C) (fn:Func) {ps:List PT} {rs:List Ty} {fr:ag ps->Fr (aa rs)} (hf:P.funcs[f]? = some fn:=by kernel_rfl) (h:∀ xs,mf P C bw fn ps rs xs=some (fr xs):=by intro x; kernel_rfl):af P f (bg ps rs fr):=
 cf hC (aW ps) hf (λc _ _=>aY c 0) h
section
variable {P:Program} {C:Cx} {fn:Func} {L1 L2 L3:LS} {p1 p2 p3:Pt} {F1:L1.X->Fr p1.Out} {F2:L2.X->Fr p2.Out} {F3:L3.X->Fr p3.Out} {f:FuncId} {ps:List PT} {rs:List Ty} {fr:ag ps->Fr (aa rs)}
def cS (hC:CxOK P C) (h1:ae P (.loop (au fn 0)) L1 p1 F1) (hf:P.funcs[f]? = some fn:=by kernel_rfl) (hn:fn.body.map ce=some 1:=by kernel_rfl) (hb:fn.body.bind (loopB · 0)=some (au fn 0):=by kernel_rfl) (hL:L1.low=true:=by rfl)
  (h:∀ xs,mf P C (λ_=>p1.han C.Γ L1 F1) fn ps rs xs=some (fr xs):=by intro x; kernel_rfl):af P f (bg ps rs fr):=
 cf hC (aW ps) hf (λ_ _ hc=>ea hc hn hb (ae.han hC hL h1)) h
def oP (hC:CxOK P C) (h1:ae P (.loop (au fn 0)) L1 p1 F1) (h2:ae P (.loop (au fn 1)) L2 p2 F2) (hf:P.funcs[f]? = some fn:=by kernel_rfl) (hn:fn.body.map ce=some 2:=by kernel_rfl) (hb:fn.body.bind (loopB · 0)=some (au fn 0):=by kernel_rfl) (hb2:fn.body.bind (loopB · 1)=some (au fn 1):=by kernel_rfl) (hL:L1.low=true:=by rfl) (hL2:L2.low=true:=by rfl)
  (h:∀ xs,mf P C (λk=>if k=0 then p1.han C.Γ L1 F1 else p2.han C.Γ L2 F2) fn ps rs xs=some (fr xs):=by intro x; kernel_rfl):af P f (bg ps rs fr):=
 cf hC (aW ps) hf (λ_ _ hc=>C8 hc hn hb hb2 (ae.han hC hL h1) (ae.han hC hL2 h2)) h
def Qy (hC:CxOK P C) (h1:ae P (.loop (au fn 0)) L1 p1 F1) (h2:ae P (.loop (au fn 1)) L2 p2 F2) (h3:ae P (.loop (au fn 2)) L3 p3 F3) (hf:P.funcs[f]? = some fn:=by kernel_rfl) (hn:fn.body.map ce=some 3:=by kernel_rfl) (hb:fn.body.bind (loopB · 0)=some (au fn 0):=by kernel_rfl) (hb2:fn.body.bind (loopB · 1)=some (au fn 1):=by kernel_rfl) (hb3:fn.body.bind (loopB · 2)=some (au fn 2):=by kernel_rfl) (hL:L1.low=true:=by rfl) (hL2:L2.low=true:=by rfl) (hL3:L3.low=true:=by rfl)
  (h:∀ xs,mf P C (λk=>if k=0 then p1.han C.Γ L1 F1 else if k=1 then p2.han C.Γ L2 F2 else p3.han C.Γ L3 F3) fn ps rs xs=some (fr xs):=by intro x; kernel_rfl):af P f (bg ps rs fr):=
 cf hC (aW ps) hf (λ_ _ hc=>qo9 hc hn hb hb2 hb3 (ae.han hC hL h1) (ae.han hC hL2 h2) (ae.han hC hL3 h3)) h
end
structure TolOK (P:Program) (g:FuncId) (T:TypeId) (k:IntKind):Prop where
 enter:∀ args w,(callFunc g args).run P w = .ok (.enter g args) w
 idle:∀ (p:Addr) (w:World),CallsD P g #[.pointer (some p)] .returning w λe u' w'=>(∃ v,e = .returned v)/\u' = .returning/\w'=w
 told:∀ (b:Nat) (ty:TypeId) (old:Value) (n:Int) (w:World),w.heap[b]? = some (.cells #[old] ty (0,0)) ->
  CallsD P g #[.pointer (some ⟨b,0,none⟩)] (.panicking [{ v:=.iface T (.int k n),recovered:=false }]) w λe u' w'=>
   (∃ v,e = .returned v)/\u' = .panicking [{ v:=.iface T (.int k n),recovered:=true }]/\w'=w.setRow b #[.int k n]
def Em (T:TypeId) (k:IntKind) (p:PV) (s:St):Option St:=
 match s.gs 0 with
 |.c (.ptr id 0)=>match s.mem id with
  |some (.box e [_])=>if p.ty=T/\p.k=k/\T<1000000 then some ⟨s.n,s.sl,upd s.mem id (.box e [.int k p.n]),s.gs⟩ else none
  |_=>none
 |_=>none
def ia (P:Program) (T:TypeId) (k:IntKind) (rv:List ResultVar) (rs:List Ty):Tr->Option (Fr (aa rs))
 |.leaf .ret s=>dh P rv rs s
 |.leaf .normal s=>dh P rv rs s
 |.leaf (.panic p) s=>match Em T k p s with
  |some s'=>match dh P rv rs s' with
   |some f=>some (.need (inR k p.n) f)
   |none=>none
  |none=>none
 |.leaf _ _=>none
 |.br b x y=>match ia P T k rv rs x,ia P T k rv rs y with
  |some x',some y'=>some (.br b x' y')
  |_,_=>none
 |.need p x=>match ia P T k rv rs x with
  |some x'=>some (.need p x')
  |none=>none
 |.two p x y=>match ia P T k rv rs x,ia P T k rv rs y with
  |some x',some y'=>some (.need (p->x'.ok/\x'.get=y'.get) y')
  |_,_=>none
def K7 (P:Program) (C:Cx) (Λ:Nat->St->Option Tr) (g:FuncId) (T:TypeId) (k:IntKind) (fn:Func) (ps:List PT) (rs:List Ty) (xs:ag ps):Option (Fr (aa rs)):=
 match fn.body with
 |some (.seq A (.seq (.region _ ops false) c))=>if (fn.name == "runtime.NumGoroutine")=false/\ps.length<=fn.ntmps then
   match ops.toList with
   |[⟨none,.defer ⟨.value (.func f),args,_⟩,_,_,_,none⟩]=>match args.toList with
    |[.tmp tp]=>if f=g then
      match cr P C 0 Λ A 0 (sj fn.ntmps (eI ps xs)) with
      |some (.leaf .normal s1)=>match s1.sl tp with
       |.c (.ptr id 0)=>match cr P C 0 Λ c (ce A) ⟨s1.n,s1.sl,s1.mem,λt=>if t=0 then .c (.ptr id 0) else .dead⟩ with
        |some t=>ia P T k fn.results.toList rs t
        |none=>none
       |_=>none
      |_=>none
     else none
    |_=>none
   |_=>none
  else none
 |_=>none
section
variable {P:Program} {w w':World} {E:Env} {F F':Nat->Prop} {γ γ':Nat->Value}
def tO {rv:List ResultVar} {rs:List Ty} {s:St} {f:Fr (aa rs)} (h:dh P rv rs s=some f) (hok:f.ok):∃ n,dh P rv rs s=some (Fr.needL n (.val f.get))/\av n:=by
 have h0:=h;unfold dh at h;split at h<;>try trivial
 split at h<;>try trivial
 split at h<;>try trivial
 cases h;refine⟨_,?_,(uM _ hok).1⟩;rw[uK];exact h0
def qW {T:TypeId} {rv:List ResultVar} {rs:List Ty}:{t:Tr} -> {f:Fr (aa rs)}->ia P T k rv rs t=some f->f.ok->t.sat λe s=>match e with
  |.ret=>∃ n,dh P rv rs s=some (Fr.needL n (.val f.get))/\av n
  |.normal=>∃ n,dh P rv rs s=some (Fr.needL n (.val f.get))/\av n
  |.panic p=>∃ s' n,Em T k p s=some s'/\inR k p.n/\dh P rv rs s'=some (Fr.needL n (.val f.get))/\av n
  |_=>False
 |.leaf e s,f,h,hok=>by
  cases e with
  |exit i=>simp[ia] at h
  |val i=>simp[ia] at h
  |jump i=>simp[ia] at h
  |normal=>exact tO h hok
  |ret=>exact tO h hok
  |panic p=>
   simp only[ia] at h;split at h<;>try trivial
   rename_i s' hs';split at h<;>try trivial
   rename_i f' hf';cases h;obtain⟨n,h1,h2⟩:=tO hf' hok.2;exact⟨s',n,hs',hok.1,h1,h2⟩
 |.br b x y,f,h,hok=>by
  simp only[ia] at h;split at h<;>try trivial
  rename_i x' y' hx hy;cases h;refine⟨λhb=>?_,λhb=>?_⟩
  ·have:=qW hx (hok.1 hb);simpa only[Fr.get,hb,if_true] using this
  ·have:=qW hy (hok.2 hb);simpa only[Fr.get,hb,ub1,ufl] using this
 |.need p x,f,h,hok=>by
  simp only[ia] at h;split at h<;>try trivial
  rename_i x' hx;cases h;have:=qW hx hok.2;exact⟨hok.1,this⟩
 |.two p x y,f,h,hok=>by
  simp only[ia] at h;split at h<;>try trivial
  rename_i x' y' hx hy;cases h;have h2:=qW hy hok.2;refine⟨λhp=>?_,h2⟩;have:=qW hx (hok.1 hp).1
  rwa [(hok.1 hp).2] at this
def tP {fn:Func} {rs:List Ty} {s:St} {a:Act} {y:aa rs} {n:List Prop} (hi:InvG P E s a w [] F γ) (hEB:E.B=E.w0.heap.size) (h:dh P fn.results.toList rs s=some (Fr.needL n (.val y))) (hn:av n) :
  ∃ v,(results fn a.tmps).run P w = .ok v w/\fJ E.w0 E.F0 rs y (.returned v) w:=by
 unfold dh at h;split at h<;>try trivial
 rename_i avs n' hres;split at h<;>try trivial
 rename_i axs u hrs;split at h<;>try trivial
 rename_i y' hdec;injection h with h
 obtain⟨hn',hy⟩:=uL h hn;subst hy;obtain⟨us,hran,hreps⟩:=nz hi hres hn';obtain⟨F'',hs,hm',_,hxs⟩:=iy hi.mem (dv hi) (cX.of λ_ _ h=>h) hrs hreps;obtain⟨γ0,h0⟩:=hi.step;rw[hEB] at hs h0;have hst:=h0.trans hs;exact⟨_,pz hran,_,F'',rfl,⟨hst.os,hst.tape,hst.output,hst.size,hst.old⟩,hst.hF,λb hb=>⟨hst.new b hb,hst.bd b hb⟩,vH (lC hdec hxs)⟩
def JO (h:arr.size=1):∃ v,arr = #[v]:=by
 refine⟨arr[0]'(by omega),?_⟩;apply ufh
 ·simp[h]
 ·intro i h1 h2;have:i=0:=by omega
  subst this;rfl
def VY {T:TypeId} {p:PV} {s s':St} {a:Act} (hi:InvG P E s a w [] F γ) (h:Em T k p s=some s') (hr:inR k p.n) :
  p.ty=T/\p.k=k/\T<1000000/\∃ b ty old,E.G 0 = .pointer (some ⟨b,0,none⟩)/\w.heap[b]? = some (.cells #[old] ty (0,0))/\InvG P E s' a (w.setRow b #[.int k p.n]) [] F γ:=by
 unfold Em at h;split at h<;>try trivial
 rename_i id hgs;split at h<;>try trivial
 rename_i e c0 hM;split at h<;>try trivial
 rename_i hp;cases h;have hg:=hi.gh 0;rw[hgs] at hg;obtain⟨b,arr,e1,e2,e3,e4,e5,e6,e7⟩:=lw hi.mem hM hg.2;obtain⟨old,rfl⟩:=JO (by simpa using e6);have hov:cF #[old] 0 [.int k p.n] = #[.int k p.n]:=by simp[cF]
 obtain⟨s1,s2⟩:=pJ (off:=0) (cs':=[.int k p.n]) (vs:=[.int k p.n]) hi.mem (dv hi) hM e1 e3 e4 e5 (by simp) rfl ⟨⟨.int k p.n,by rw[hov]; rfl,rfl,rfl,hr⟩,uT⟩;refine⟨hp.1,hp.2.1,hp.2.2,b,e,old,e2,e3,⟨hi.n,hi.df,?_,s2,λt=>(hi.sl t).mono s1.hF s1.hw s1.hR,hi.hg,λt=>s1.repA (hi.gh t)⟩⟩;obtain⟨γ0,h0⟩:=hi.step;exact⟨γ0,h0.trans s1⟩
def qfa {C:Cx} (hC:CxOK P C) {Λ:Nat->St->Option Tr} {g:FuncId} {T:TypeId} {fn:Func} {ps:List PT} {rs:List Ty} {fr:ag ps->Fr (aa rs)} (x0:ag ps)
  (hf:P.funcs[f]? = some fn) (hT:TolOK P g T k) (hΛ:∀ c E,fn.body=some c->bP P E Λ c 0) (hrun:∀ xs,K7 P C Λ g T k fn ps rs xs=some (fr xs)):af P f ⟨ps,rs,λxs=>(fr xs).get,λxs=>[(fr xs).ok]⟩:=by
 have h0:=hrun x0;unfold K7 at h0;split at h0<;>try trivial
 rename_i A rid ops c hb;split at h0<;>try trivial
 rename_i hc;refine⟨enters hf hb hc.1,λw F xs vs hbd hr hok=>ucc hf hb ?_⟩;have hr':=hrun xs;unfold K7 at hr';simp only[hb,hc,ufk,if_true] at hr';split at hr'<;>try trivial
 rename_i f0 args ats ty pos aft hops;split at hr'<;>try trivial
 rename_i tp hargs;split at hr'<;>try trivial
 rename_i hfg;subst hfg;split at hr'<;>try trivial
 rename_i s1 ht1;split at hr'<;>try trivial
 rename_i id hsl;split at hr'<;>try trivial
 rename_i t ht2;have hlam:=λE=>hΛ _ E hb;have hlen:vs.length=ps.length:=rV hr;have hstart:=vV (D:=[]) (n:=fn.ntmps) hbd (λR=>mO hr) (by omega);have hsz:(vs.toArray).size=vs.length:=by simp
 refine wp_seq (wp_mono (fR hC A 0 (hlam _).1 ht1 (Q:=λe s=>e = .normal/\s=s1) ⟨rfl,rfl⟩ hstart) ?_);rintro e a1 w1 ⟨xe,s,rfl,⟨F1,γ1,hi⟩,rfl,rfl⟩;obtain⟨ol⟩:=ops;subst hops;have hv0:=rm hi tp;rw[hsl] at hv0;obtain⟨_,b0,hR0,hv0⟩:=hv0;refine wp_seq (ufj ?_);have hargs':args = #[.tmp tp]:=by
  obtain⟨l⟩:=args;simp only at hargs;rw[hargs]
 subst hargs';have hev:a1.eval (.tmp tp) = .pointer (some ⟨b0,0,none⟩):=hv0;have hexec:(execOp a1.eval ⟨none,.defer ⟨.value (.func f0),#[.tmp tp],ats⟩,ty,pos,aft,none⟩).run P w1 = .ok (.defer { target:=.fn (.func f0) #[],args:=#[.pointer (some ⟨b0,0,none⟩)] }) w1:=by
  have hef:a1.eval (.func f0) = .func (.func f0) #[] #[]:=rfl;simp[execOp,resolve,hev,hef,Deferred.ofValue]
 have hrange:List.range (#[(⟨none,.defer ⟨.value (.func f0),#[.tmp tp],ats⟩,ty,pos,aft,none⟩:Oper)]:Array Oper).size=[0]:=rfl;unfold wpOps;simp;have hw:Region.wanted (⟨none,.defer ⟨.value (.func f0),#[.tmp tp],ats⟩,ty,pos,aft,none⟩:Oper) (yielded #[(⟨none,.defer ⟨.value (.func f0),#[.tmp tp],ats⟩,ty,pos,aft,none⟩:Oper)] a1.tmps)=true:=rfl;refine .inl ?_;unfold Oper.wp;rw[hexec];have hi':InvG P ⟨w,F,λ_=>.pointer (some ⟨b0,0,none⟩),[{ target:=.fn (.func f0) #[],args:=#[.pointer (some ⟨b0,0,none⟩)] }],w.heap.size,ue4 _⟩ ⟨s.n,s.sl,s.mem,λt=>if t=0 then .c (.ptr id 0) else .dead⟩ { a1 with defers:={ target:=.fn (.func f0) #[],args:=#[.pointer (some ⟨b0,0,none⟩)] }::a1.defers } w1 [] F1 γ1:=by
  refine⟨hi.n,?_,hi.step,hi.mem,hi.sl,hi.hg,λt=>?_⟩
  ·show _::a1.defers=[_];rw[hi.df]
  ·show aE P w1 F1 _ (if t=0 then .c (.ptr id 0) else .dead) _;split
   ·exact⟨rfl,b0,hR0,rfl⟩
   ·trivial
 have hwp:=fR hC c (ce A) (by have:=(hlam ⟨w,F,λ_=>.pointer (some ⟨b0,0,none⟩),[{ target:=.fn (.func f0) #[],args:=#[.pointer (some ⟨b0,0,none⟩)] }],w.heap.size,ue4 _⟩).2.2; simpa[ce] using this) ht2 (qW hr' hok) ⟨F1,γ1,hi'⟩;refine wp_mono hwp ?_;rintro e a2 w2 ⟨xe,s2,rfl,⟨F2,γ2,hi2⟩,hx⟩;have hinv:∀ W,(invoke (.fn (.func f0) #[]) #[.pointer (some ⟨b0,0,none⟩)]).run P W = .ok (.enter f0 #[.pointer (some ⟨b0,0,none⟩)]) W:=λW=>by
  have:=hT.enter #[.pointer (some ⟨b0,0,none⟩)] W;simp[invoke,this]
 have hfin:(∃ n,dh P fn.results.toList rs s2=some (Fr.needL n (.val (fr xs).get))/\av n)->Leaves P fn a2.tmps (fJ w F rs (fr xs).get) a2.defers .returning w2:=by
  rintro⟨n,hend,hn⟩;rw[hi2.df];refine ue9 (by simp) (hinv w2) ((hT.idle _ w2).mono ?_);rintro e u' w' ⟨⟨v,rfl⟩,rfl,rfl⟩;exact tP hi2 rfl hend hn
 cases xe with
 |normal=>exact hfin hx
 |ret=>exact hfin hx
 |exit _=>exact hx.elim
 |val _=>exact hx.elim
 |jump _=>exact hx.elim
 |panic p=>
  obtain⟨s',n,hs',hin,hend,hn⟩:=hx;obtain⟨hty,hk,hlow,b,tyb,old,hG,hheap,hi3⟩:=VY hi2 hs' hin;have hG':=hG;simp at hG';subst hG';show Leaves P fn a2.tmps _ a2.defers (.panicking [{ v:=p.val,recovered:=false }]) w2;rw[WG (by rw[hty]; exact hlow),hi2.df,hty,hk];refine ue9 (by simp) (hinv w2) ((hT.told b0 tyb old p.n w2 hheap).mono ?_);rintro e u' w' ⟨⟨v,rfl⟩,rfl,rfl⟩;exact tP hi3 rfl hend hn
end
section
open Go.WideShapes Go.ChangeShapes
def fw (r:TypeId->Ty->Bool):List Field->Ty->Nat->Bool
 |[],.unit,_=>true
 |f::fs,.pair a b,off=>(f.offset==off)&&(r f.type a&&fw r fs b (off+a.size))
 |_,_,_=>false
def fu (r:Ty->Bool):Nat->Ty->Bool
 |0,.unit=>true
 |k+1,.pair a b=>r a&&fu r k b
 |_,_=>false
def fZ (P:Program):Nat->TypeId->Ty->Bool
 |0,_,_=>false
 |n+1,t,ty=>(P.cellsOf t==ty.size)&&match P.underlying t,ty with
  |some .bool,.bool=>true
  |some (.int k),.int k'=>decide (k=k')
  |some .string,.str=>true
  |some (.slice e),.sl te=>decide (0<te.size)&&fZ P n e te
  |some (.struct fs),ty=>ty.wide&&fw (fZ P n) fs.toList ty 0
  |some (.array k e),ty=>ty.wide&&fu (fZ P n e) k ty
  |_,_=>false
section
variable {H:Type} {enc:TypeId×Value->H} {P:Program} {w:World} {sp:Nat->Bool} {held:Bool}
def qaf (a:Addr) (k j:Nat):(a.add k).add j=a.add (k+j):=by
 unfold Addr.add;by_cases hk:k=0
 ·subst hk;simp
 ·by_cases hj:j=0
  ·subst hj;simp
  ·have:¬ k+j=0:=by omega
   simp[hk,hj,ued]
def S0 {Q:Nat->α->Prop}:(n:Nat)->(∀ i,i<n->∃ y,Q i y)->∃ l:List α,l.length=n/\∀ (i:Nat) (y:α),l[i]? = some y->Q i y
 |0,_=>⟨[],rfl,λi y h=>by simp at h⟩
 |n+1,h=>by
  obtain⟨l,hl,hq⟩:=S0 n (λi hi=>h i (by omega));obtain⟨y,hy⟩:=h n (by omega);refine⟨l++[y],by simp[hl],λi z hz=>?_⟩;rcases uel i l.length with hi|hi
  ·rw[uaj hi] at hz;exact hq i z hz
  ·rw[uae hi] at hz;have:i-l.length=0:=by
    rcases ub3 (i-l.length) with h0|h0
    ·exact h0
    ·rw[ua3 (by simp; omega)] at hz;cases hz
   rw[this] at hz;simp at hz;subst hz;have:i=n:=by omega
   subst this;exact hy
def qc8 {a:Addr} {cs:List Value} (h:w.cells? 0 a n=some cs):cs.length=n/\∀ j,j<n->w.cell? (a.add j)=cs[j]? := by
 unfold World.cells? at h;refine⟨by simpa using mapM_some_length h,λj hj=>?_⟩;exact mapM_some_get h j j (by simp[hj])
def qc7 {a:Addr} (h:w.cell? a=some v):a.block<w.heap.size:=by
 unfold World.cell? at h;split at h
 ·rename_i hb;exact(uaf.1 hb).1
 ·cases h
def zc7 {n:Int} (h:(Lit.int k n).wf=true):inR k n:=by
 simpa[Lit.wf,inR] using h
abbrev np (w:World):Nat->Prop:=λb=>b<w.heap.size
def Tk {fuel:Nat} (ih:∀ (t:TypeId) (ty:Ty) (fuel:Nat) (cs:List Value) (x:DataW H×List MemPlace),fZ P n t ty=true->DataW.trod enc P w 0 sp held fuel t cs=some x->cs.length=ty.size/\∃ y,aA w (np w) ty y (λj u=>cs[j]? = some u))
  {cs:List Value}:(l:List Field)->(ty:Ty)->(off:Nat)->fw (fZ P n) l ty off=true->(∀ f∈l,∃ x,DataW.trod enc P w 0 sp held fuel f.type ((cs.drop f.offset).take (P.cellsOf f.type))=some x)->∃ y,aA w (np w) ty y (λj u=>cs[off+j]? = some u)
 |[],.unit,_,_,_=>⟨(),uT⟩
 |f::fs,.pair a b,off,h,hx=>by
  simp only[fw,uc9,ufc] at h;obtain⟨h1,h2,h3⟩:=h;obtain⟨x,hx1⟩:=hx f (by simp);obtain⟨hl,y,hy⟩:=ih _ _ _ _ _ h2 hx1;obtain⟨y',hy'⟩:=Tk ih fs b (off+a.size) h3 (λg hg=>hx g (by simp[hg]));refine⟨(y,y'),aA.mono (λ_ h=>h) (λ_ _=>rfl) (λj u hj hu=>?_) hy,aA.mono (λ_ h=>h) (λ_ _=>rfl) (λj u hj hu=>?_) hy'⟩
  ·rw[ub0] at hu;split at hu
   ·rw[ubz,h1] at hu;exact hu
   ·cases hu
  ·rw[ued] at hu;exact hu
 |[],.int _,_,h,_=>by simp[fw] at h
 |[],.bool,_,h,_=>by simp[fw] at h
 |[],.str,_,h,_=>by simp[fw] at h
 |[],.sl _,_,h,_=>by simp[fw] at h
 |[],.pair _ _,_,h,_=>by simp[fw] at h
 |[],.fm _,_,h,_=>by simp[fw] at h
 |_::_,.fm _,_,h,_=>by simp[fw] at h
 |[],.ic _ _,_,h,_=>by simp[fw] at h
 |_::_,.ic _ _,_,h,_=>by simp[fw] at h
 |[],.fc _,_,h,_=>by simp[fw] at h
 |_::_,.fc _,_,h,_=>by simp[fw] at h
 |_::_,.int _,_,h,_=>by simp[fw] at h
 |_::_,.bool,_,h,_=>by simp[fw] at h
 |_::_,.str,_,h,_=>by simp[fw] at h
 |_::_,.sl _,_,h,_=>by simp[fw] at h
 |_::_,.unit,_,h,_=>by simp[fw] at h
def Tj {fuel:Nat} (ih:∀ (t:TypeId) (ty:Ty) (fuel:Nat) (cs:List Value) (x:DataW H×List MemPlace),fZ P n t ty=true->DataW.trod enc P w 0 sp held fuel t cs=some x->cs.length=ty.size/\∃ y,aA w (np w) ty y (λj u=>cs[j]? = some u))
  {cs:List Value}:(k:Nat)->(ty:Ty)->(i0:Nat)->fu (fZ P n e) k ty=true->(∀ i,i<k->∃ x,DataW.trod enc P w 0 sp held fuel e ((cs.drop ((i0+i)*P.cellsOf e)).take (P.cellsOf e))=some x)->∃ y,aA w (np w) ty y (λj u=>cs[i0*P.cellsOf e+j]? = some u)
 |0,.unit,_,_,_=>⟨(),uT⟩
 |k+1,.pair a b,i0,h,hx=>by
  simp only[fu,uc9] at h;obtain⟨h2,h3⟩:=h;obtain⟨x,hx1⟩:=hx 0 (by omega);obtain⟨hl,y,hy⟩:=ih _ _ _ _ _ h2 hx1;have hsz:P.cellsOf e=a.size:=by
   cases n with
   |zero=>simp[fZ] at h2
   |succ n=>
    simp only[fZ,uc9,ufc] at h2;exact h2.1
  obtain⟨y',hy'⟩:=Tj ih k b (i0+1) h3 (λi hi=>by
   have:=hx (i+1) (by omega)
   rwa [show i0+1+i=i0+(i+1) by omega])
  refine⟨(y,y'),aA.mono (λ_ h=>h) (λ_ _=>rfl) (λj u hj hu=>?_) hy,aA.mono (λ_ h=>h) (λ_ _=>rfl) (λj u hj hu=>?_) hy'⟩
  ·rw[ub0] at hu;split at hu
   ·rw[ubz] at hu;simpa using hu
   ·cases hu
  ·rw[ue6,Nat.one_mul,hsz,ued] at hu;rw[hsz];exact hu
 |0,.int _,_,h,_=>by simp[fu] at h
 |0,.bool,_,h,_=>by simp[fu] at h
 |0,.str,_,h,_=>by simp[fu] at h
 |0,.sl _,_,h,_=>by simp[fu] at h
 |0,.pair _ _,_,h,_=>by simp[fu] at h
 |0,.fm _,_,h,_=>by simp[fu] at h
 |_+1,.fm _,_,h,_=>by simp[fu] at h
 |0,.ic _ _,_,h,_=>by simp[fu] at h
 |_+1,.ic _ _,_,h,_=>by simp[fu] at h
 |0,.fc _,_,h,_=>by simp[fu] at h
 |_+1,.fc _,_,h,_=>by simp[fu] at h
 |_+1,.int _,_,h,_=>by simp[fu] at h
 |_+1,.bool,_,h,_=>by simp[fu] at h
 |_+1,.str,_,h,_=>by simp[fu] at h
 |_+1,.sl _,_,h,_=>by simp[fu] at h
 |_+1,.unit,_,h,_=>by simp[fu] at h
def zb9 {k fuel:Nat} {cs:List Value} {x:DataW H×List MemPlace} (ht:P.underlying t=some (.array k e)) (h:DataW.trod enc P w 0 sp held fuel t cs=some x) :
  ∃ n,∀ i,i<k->∃ y,DataW.trod enc P w 0 sp held n e ((cs.drop (i*P.cellsOf e)).take (P.cellsOf e))=some y:=by
 cases fuel with
 |zero=>simp[DataW.trod] at h
 |succ n=>
  unfold DataW.trod at h;split at h<;>simp_all
  obtain⟨hl,xs,hp,hd⟩:=h;refine⟨n,λi hi=>?_⟩;have h1:=mapM_some_get hp i i (by simp[hi]);have h2:=mapM_some_length hp;rw[uap (by simp at h2; omega)] at h1;exact⟨_,_,h1⟩
def Ep:(n:Nat)->(t:TypeId)->(ty:Ty)->(fuel:Nat)->(cs:List Value)->(x:DataW H×List MemPlace)->fZ P n t ty=true->DataW.trod enc P w 0 sp held fuel t cs=some x->cs.length=ty.size/\∃ y,aA w (np w) ty y (λj u=>cs[j]? = some u)
 |0,t,ty,fuel,cs,x,h,_=>by simp[fZ] at h
 |n+1,t,ty,fuel,cs,x,h,hx=>by
  simp only[fZ,uc9,ufc] at h;obtain⟨hsz,h⟩:=h;split at h
  ·rename_i ht;obtain⟨b,rfl,_⟩:=DataW.trod_bool ht hx;exact⟨rfl,b,rfl⟩
  ·rename_i k k' ht;have hk:k=k':=by simpa using h
   subst hk;obtain⟨m,rfl,_,hw⟩:=DataW.trod_int ht hx;exact⟨rfl,m,rfl,zc7 hw⟩
  ·rename_i ht;obtain⟨s,rfl,_,hs⟩:=DataW.trod_string ht hx;exact⟨rfl,s,rfl,hs⟩
  ·rename_i e te ht;simp at h;obtain⟨hpos,hte⟩:=h;have hse:P.cellsOf e=te.size:=by
    cases n with
    |zero=>simp[fZ] at hte
    |succ n=>
     simp only[fZ,uc9,ufc] at hte;exact hte.1
   rcases DataW.trod_slice ht hx with ⟨rfl,_⟩|⟨a,len,cap,elems,rest,m,rfl,rfl,_,_,h1,h2,hel,hget,_⟩
   ·exact⟨rfl,[],none,0,rfl,ue4 _,by simp,λi y hy=>by simp at hy⟩
   ·have hall:∀ i,i<len->∃ y,aA w (np w) te y (λj u=>w.cell? (a.add (i*te.size+j))=some u)/\a.block<w.heap.size:=λi hi=>by
     have hg:=hget i hi;rw[uap (by omega)] at hg;rw[Option.bind_eq_some_iff] at hg;obtain⟨ci,hci,htr⟩:=hg;rw[hse] at hci;obtain⟨hl,y,hy⟩:=Ep n e te m ci _ hte htr;obtain⟨hcl,hcg⟩:=qc8 hci;have hc:∀ j,j<te.size->w.cell? (a.add (i*te.size+j))=ci[j]? := λj hj=>by
      rw[<- qaf];exact hcg j hj
     refine⟨y,aA.mono (λ_ h=>h) (λ_ _=>rfl) (λj u hj hu=>(hc j hj).trans hu) hy,?_⟩;have h0:=hc 0 hpos;rw[uap (by omega)] at h0;have hlt:=qc7 h0;have:(a.add (i*te.size+0)).block=a.block:=by unfold Addr.add; split<;>rfl
     rwa [this] at hlt
    obtain⟨l,hl,hq⟩:=S0 len hall;subst hl;exact⟨rfl,l,some a,cap,rfl,h1,h2,λi y hy=>⟨a,rfl,(hq i y hy).2,(hq i y hy).1⟩⟩
  ·rename_i ty' fs ht;simp at h;obtain⟨xs,m,rfl,rfl,hl,hxl,hget⟩:=DataW.trod_struct ht hx;refine⟨by omega,?_⟩;have:=Tk (λt ty fuel cs x=>Ep n t ty fuel cs x) fs.toList _ 0 h.2 (λf hf=>by
    obtain⟨i,hi⟩:=ua8.1 hf;have hi':fs[i]? = some f:=by simpa using hi
    have hlt:=(uaf.1 hi').1;have hg:=hget i f hi';rw[uap (by omega)] at hg;exact⟨_,hg⟩)
   simpa using this
  ·rename_i ty' k e ht;simp at h;obtain⟨m,hm⟩:=zb9 ht hx;have hl:cs.length=P.cellsOf t:=by
    cases fuel with
    |zero=>simp[DataW.trod] at hx
    |succ m=>
     unfold DataW.trod at hx;split at hx<;>simp_all
   refine⟨by omega,?_⟩;have:=Tj (λt ty fuel cs x=>Ep n t ty fuel cs x) k _ 0 h.2 (λi hi=>by simpa using hm i hi);simpa using this
  ·cases h
def qw4 {ty:Ty} {d:DataW H} {ps:List MemPlace} {r:Reach} {base:Nat} (h:fZ P n t ty=true) (hv:Value.okWide P w r base t v) (hd:DataW.Trod enc P w 0 sp held t v d ps):∃ y,bu w (np w) ty y v:=by
 obtain⟨fuel,hf⟩:=hd;obtain⟨hl,y,hy⟩:=Ep n t ty fuel _ _ h hf;refine⟨y,by simpa using hl,?_,aA.mono (λ_ h=>h) (λ_ _=>rfl) (λj u hj hu=>by simpa using hu) hy⟩;cases n with
 |zero=>simp[fZ] at h
 |succ n=>
  simp only[fZ,uc9] at h;replace h:=h.2;unfold Value.okWide at hv;split at h
  ·rename_i ht;simp only[Cell.okWide,ht,Cell.ok] at hv;refine⟨λhw=>(by cases hw),λ⟨cs,hc⟩=>?_⟩;subst hc;exact hv.elim
  ·rename_i k k' ht;simp only[Cell.okWide,ht,Cell.ok] at hv;refine⟨λhw=>(by cases hw),λ⟨cs,hc⟩=>?_⟩;subst hc;exact hv.elim
  ·rename_i ht;simp only[Cell.okWide,ht,Cell.ok] at hv;refine⟨λhw=>(by cases hw),λ⟨cs,hc⟩=>?_⟩;subst hc;exact hv.elim
  ·rename_i e te ht;simp only[Cell.okWide,ht,Cell.ok] at hv;refine⟨λhw=>(by cases hw),λ⟨cs,hc⟩=>?_⟩;subst hc;exact hv.elim
  ·rename_i ty' fs ht;rw[ht] at hv;simp at h;obtain⟨cs,hc,_⟩:=hv;exact⟨λ_=>⟨cs,hc⟩,λ_=>h.1⟩
  ·rename_i ty' k e ht;rw[ht] at hv;simp at h;obtain⟨cs,hc,_⟩:=hv;exact⟨λ_=>⟨cs,hc⟩,λ_=>h.1⟩
  ·cases h
def kR (P:Program):List TypeId->List PT->Bool
 |[],[]=>true
 |t::ts,.d ty::ps=>fZ P 12 t ty&&kR P ts ps
 |_,_=>false
def Us {r:Reach} {base:Nat}:{ts:List TypeId} -> {ps:List PT} -> {vs:List Value} -> {ds:List (DataW H)} -> {pl:List MemPlace}->kR P ts ps=true->DataW.TrodAll enc P w 0 sp held ts vs ds pl ->
  (∀ (j:Nat) t v,ts[j]? = some t->vs[j]? = some v->Value.okWide P w r base t v)->∃ xs,cJ P w (np w) ps xs vs
 |[],[],[],[],_,_,_,_=>⟨(),rfl⟩
 |t::ts,.d ty::ps,v::vs,d::ds,_,h,ht,hv=>by
  simp only[kR,uc9] at h;obtain⟨p,q,h1,h2,_⟩:=ht;obtain⟨y,hy⟩:=qw4 h.1 (hv 0 t v rfl rfl) h1;obtain⟨ys,hys⟩:=Us h.2 h2 (λj t v a b=>hv (j+1) t v a b);exact⟨(y,ys),v,vs,rfl,hy,hys⟩
 |[],_::_,_,_,_,h,_,_=>by simp[kR] at h
 |_::_,[],_,_,_,h,_,_=>by simp[kR] at h
 |_::_,.ptr _::_,_,_,_,h,_,_=>by simp[kR] at h
 |_::_,.fn _ _::_,_,_,_,h,_,_=>by simp[kR] at h
 |_::_,.pf _ _::_,_,_,_,h,_,_=>by simp[kR] at h
 |_::_,.pfn _ _::_,_,_,_,h,_,_=>by simp[kR] at h
 |_::_,.pk _::_,_,_,_,h,_,_=>by simp[kR] at h
 |[],[],_::_,_,_,_,h,_=>h.elim
 |[],[],[],_::_,_,_,h,_=>h.elim
 |_::_,.d _::_,[],_,_,_,h,_=>h.elim
 |_::_,.d _::_,_::_,[],_,_,h,_=>h.elim
def Ur (hl:laidOutB P=true) {sp':Nat->Bool}:{ts:List TypeId} -> {vs:List Value} -> {ds:List (DataW H)} -> {pl:List MemPlace}->(ts.all λt=>P.readableRec t&&decide (t<P.types.size))=true ->
  DataW.TrodAll enc P w 0 (λ_=>true) true ts vs ds pl->(∀ p∈pl,w.sameAt W' p)->(∀ p∈pl,sp' p.block=true)->DataW.TrodAll enc P W' 0 sp' true ts vs ds pl
 |[],[],[],_,_,h,_,_=>h
 |t::ts,v::vs,d::ds,_,hr,h,h1,h2=>by
  simp at hr;obtain⟨p,q,a,b,rfl⟩:=h;exact⟨p,q,WideElems.Trod_stays hl hr.1.1 hr.1.2 a (λx hx=>h1 x (by simp[hx])) (λx hx=>h2 x (by simp[hx])),Ur hl (by simpa using hr.2) b (λx hx=>h1 x (by simp[hx])) (λx hx=>h2 x (by simp[hx])),rfl⟩
 |[],_::_,_,_,_,h,_,_=>h.elim
 |[],[],_::_,_,_,h,_,_=>h.elim
 |_::_,[],_,_,_,h,_,_=>h.elim
 |_::_,_::_,[],_,_,h,_,_=>h.elim
def qwq {f:Func} {s:ChangeSpec} {apart fresh handsOn again:Bool} {args:Array Value} {ds gs:List (DataW H)} {before pa pv:List MemPlace}
  (hW:DataW.Whole enc P f.params.toList s.vars apart W args.toList ds gs before)
  (hres:∀ (b:Nat) (sp:Nat->Bool) (hd:Bool),DataW.TrodAll enc P W' b sp hd f.resultTypes.toList (v.resultList f.resultTypes.size) (s.fn H (ds++gs)).results [])
  (hargs:∀ sp:Nat->Bool,(∀ p∈before,sp p.block=true)->DataW.TrodAll enc P W' 0 sp true f.params.toList args.toList (s.fn H (ds++gs)).args pa)
  (hvars:∀ sp:Nat->Bool,(∀ p∈before,sp p.block=true)->DataW.TrodVars enc P W' sp s.vars (s.fn H (ds++gs)).vars pv)
  (hps:before=pa++pv) (hb:Below W.heap.size W W')
  (hok:∀ (j:Nat) (t:TypeId) (r:Value),f.resultTypes[j]? = some t->(v.resultList f.resultTypes.size)[j]? = some r->Value.okWide P W' .any 0 t r) :
  s.post enc P f apart fresh handsOn again W args v W':=by
 have hlt:=λp hp=>hW.lt p hp;have hold:∀ p∈before,(λb=>decide (b<W.heap.size)) p.block=true:=λp hp=>by simpa using hlt p hp
 refine⟨ds,gs,before,[],pa,pv,hW,hres _ _ _,hargs _ hold,hvars _ hold,World.keptBut_mono (λp hp=>⟨hp,?_⟩) (hb.frame (· ∈ before)),λ_=>?_⟩
 ·rw[hps,udo] at hp;exact Or.inr hp
 ·obtain⟨_,_,_,_,_,hz,hn⟩:=hW;refine⟨hok,_,_,([]++pa)++pv,⟨[]++pa,pv,trodAll_append (hargs _ (λ_ _=>rfl)) (hres _ _ _),hvars _ (λ_ _=>rfl),rfl,?_,?_⟩,?_⟩
  ·intro b off hp;have hin:MemPlace.cell b off∈before:=by rw[hps]; simpa using hp
   rw[hb.frozen (hlt _ hin)];exact hz b off hin
  ·intro ha;have:=hn ha;rw[hps] at this;simpa using this
  ·intro p hp _;rw[hps];simpa using hp
def law_contract {fid:FuncId} {f:Func} {s:ChangeSpec} {ps:List PT} {apart fresh handsOn again:Bool} {tb:TypeId} (hl:laidOutB P=true) (hr:(f.params.toList.all λt=>P.readableRec t&&decide (t<P.types.size))=true) (hty:kR P f.params.toList ps=true)
  (hvars:s.vars=[]) (hrt:f.resultTypes = #[tb]) (htb:P.underlying tb=some .bool) (hs:∀ ds:List (DataW H),ds.length=f.params.size->s.fn H ds = { results:=[.lit (.bool true)],args:=ds })
  (hc:af P fid ⟨ps,[.bool],λ_=>(true,()),λ_=>[]⟩) (W:World) (base:Nat) (args:Array Value) (ds gs:List (DataW H)) (before:List MemPlace)
  (hval:∀ (j:Nat) t v,f.params[j]? = some t->args[j]? = some v->Value.okWide P W .any base t v)
  (hW:DataW.Whole enc P f.params.toList s.vars apart W args.toList ds gs before) :
  Calls P fid args W λe W'=>∃ v,e = .returned v/\s.post enc P f apart fresh handsOn again W args v W':=by
 have hW':=hW;obtain⟨p,q,hA,hV,rfl,hfz,hnd⟩:=hW;rw[hvars] at hV;obtain⟨rfl,rfl⟩:=trodVars_none hV;obtain⟨xs,hxs⟩:=Us hty hA (λj t v a b=>hval j t v (by simpa using a) (by simpa using b));have hcalls:=hc.2 W (np W) xs args.toList (λb hb=>hb) hxs trivial;refine hcalls.mono ?_;rintro e W' ⟨v,F',rfl,hbel,_,_,hv⟩;have hv':aE P W' F' (λ_ _=>True) (dE .bool true) v:=fT hv;have hvb:=hv'.2;subst hvb;refine⟨_,rfl,?_⟩;have hlen:(ds++[]).length=f.params.size:=by
  have:=trodAll_length hA;simp[this.2]
 have hsf:=hs (ds++[]) hlen;have hlt:∀ x∈p,x.block<W.heap.size:=λx hx=>hW'.lt x (by simp[hx]);refine qwq (pa:=p) (pv:=[]) hW' (λb sp hd=>?_) (λsp hsp=>?_) (λsp _=>?_) (by simp) hbel (ok_one hrt rfl (okWide_bool_mk htb true))
 ·rw[hrt,hsf];exact trodAll_mk1 (shut_bool htb true)
 ·rw[hsf];simp;exact Ur hl hr hA (λx hx=>hbel.same (hlt x hx)) (λx hx=>hsp x (by simp[hx]))
 ·rw[hvars,hsf];rfl
end
end
end Go.Ab
