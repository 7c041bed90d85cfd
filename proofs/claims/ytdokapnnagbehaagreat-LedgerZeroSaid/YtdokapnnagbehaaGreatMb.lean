/-
  Parts of the proof, one behind the other.
-/
import Derived.Test.YtdokapnnagbehaaGreatMa
set_option linter.all false
set_option maxRecDepth 100000
set_option maxHeartbeats 4000000
open Option renaming some->U,none->V
open Bool renaming true->Z,false->Y
open Decidable renaming decide->J
open Go Go.RowKit
variable {T α σ ρ β:Type} {P:Program} {ad:Addr} {arr cs cur:Array Value} {f:FuncId} {x a y day:Int} {k:IntKind} {l:List Int} {xs vs news:List Value} {off i n b c d j B m len:Nat} {F F' K:Nat->Prop} {R g R':Nat->Value->Prop} {o:Oper} {p:Prop} {e ety t ty el:TypeId} {v u vx:Value} {w w' W' W:World}
namespace Go.Ab
open Go Go.RowKit
section
variable {P:Program} {B:Nat} {o:Oper} {a:Act} {w w':World} {F F':Nat->Prop} {γ γ':Nat->Value} {M m:aT} {R:Nat->Value->Prop}
def CB{t:Ty}{l:List t.den}(hr:aA w F (.sl t) l (λ_ u=>u=v)):
  ∃ A c xs,v=.slice A l.length c/\l.length<=c/\(A=V->l=[])/\xs.length=l.length*t.size/\bU w F t l xs/\∀ ad,A=U ad->∀ (j:Nat) u,xs[j]?= U u->w.cell? (ad.add j)=U u:=by
 obtain⟨A,c,S,W,h3,O⟩:=hr;cases A with
 |none=>
  have hl:l=[]:=by
   cases l with
   |nil=>rfl
   |cons x l=>
    obtain⟨ad,m,_⟩:=O 0 x rfl;cases m
  subst hl;exact⟨V,c,[],S.symm,W,λ_=>rfl,by simp,λi x hi=>by simp at hi,λad m=>by cases m⟩
 |some ad=>
  refine⟨U ad,c,(List.range (l.length*t.size)).map λk=>(w.cell? (ad.add k)).getD undef,S.symm,W,(λh=>by cases h),by simp,λi x hi=>?_,λN m j u q=>?_⟩;obtain⟨N,m,_,P⟩:=O i x hi;cases m;refine P.mono (λ_ h=>h) (λ_ _=>rfl) λj u q hu=>?_;have Q:=(uak.1 hi).1;have:i*t.size+j<l.length*t.size:=by
   have:i*t.size+t.size<=l.length*t.size:=by rw[<- uet];exact ubd _ Q
   omega
  rw[ucn,List.getElem?_range this];simp[hu];cases m;rw[ucn]at q;have H:j<l.length*t.size:=by
   rcases uem j (l.length*t.size)with h|h
   exact h;rw[ua4 (by simpa using h)]at q;simp at q
  rw[List.getElem?_range H]at q;simp at q;have C:0<t.size:=by
   rcases ub4 t.size with h0|h0
   rw[h0]at H;omega;exact h0
  have hi:=(Nat.div_lt_iff_lt_mul C).2 H;obtain⟨N,m,_,P⟩:=O (j/t.size) _ (uaq hi);cases m;obtain⟨y,e1,_⟩:=aA.cell t P (j%t.size) (ufd _ C);rw[ues,Nat.div_add_mod]at e1;rw[e1]at q |-;simpa using q
def bU.append{t:Ty}{l k:List t.den}{q:List Value}(H:bU w F t l xs)(P:xs.length=l.length*t.size)(N:bU w F t k q):bU w F t (l++k) (xs++q):=by
 intro i x hi;rcases uem i l.length with h|h
 rw[uaj h]at hi;refine(H i x hi).mono (λ_ h=>h) (λ_ _=>rfl) λj u C m=>?_;have:i*t.size+t.size<=l.length*t.size:=by rw[<- uet];exact ubd _ h
 rw[uaj (by omega)];exact m;rw[uae h]at hi;refine(N (i-l.length) x hi).mono (λ_ h=>h) (λ_ _=>rfl) λj u C m=>?_;have O:i*t.size=l.length*t.size+(i-l.length)*t.size:=by rw[<- ue8];congr 1;omega
 rw[uae (by omega)];rw[<- m];congr 1;omega
def Sz{c:AC}{t:Ty}{l:List t.den}(hm:MemOK P B w F γ M)(H:∀ i y,m i=U y->M i=U y)(h:rp m c=U ⟨t,l⟩)(hr:bc P w F (ap M γ) c v):
  ∃ A O xs,v=.slice A l.length O/\l.length<=O/\(A=V->l=[])/\xs.length=l.length*t.size/\bU w F t l xs/\∀ ad,A=U ad->∀ (j:Nat) u,xs[j]?= U u->w.cell? (ad.add j)=U u:=by
 unfold rp at h;split at h<;>try trivial
 cases h;exact CB hr;cases h;obtain⟨A,_,h2⟩:=hr;exact CB h2;rename_i id;split at h<;>try trivial
 rename_i ety t' l' q;split at h<;>try trivial
 rename_i Q;cases h;have hv:=ez (H _ _ q) (by simp) hr;subst hv;obtain⟨xs,C,_,N,_⟩:=gg.of (hm.ob id _ (H _ _ q)) Q;rcases C.2 with ⟨S,W⟩|⟨g,O,cur,S,_,_,W,_⟩
 exact⟨V,0,xs,by rw[S,W],by omega,λ_=>uab W,C.1,N,λad Q=>by cases Q⟩;refine⟨_,_,xs,S,W,(λh=>by cases h),C.1,N,λad Q=>?_⟩;cases Q;exact C.cells (by rw[S];rfl);rename_i t' l' q;cases h;have hv:=ez (H _ _ q) (by simp) hr;subst hv;exact CB (hm.ob id _ (H _ _ q))
def UT(t ty e:TypeId)(i:TypeInfo)(q:P.underlying t=U (.slice e))(hi:P.info? e=U i)(A:Option Addr)(n j:Nat)(m:n<=j)(c:Nat):
  (Builtin.append_ #[t,t] ty #[.slice A n j,.slice V 0 c]).run P w=.ok (.slice A n j) w:=by
 cases A<;>simp[Builtin.append_,ud2 q,sizeOf,typeInfo,hi,Builtin.lenOf,Builtin.firstCells,m,storeCells]
def qr(t ty e:TypeId)(i:TypeInfo)(z:Value)(size:Nat)(S:P.underlying t=U (.slice e))(hi:P.info? e=U i)(hz:i.zero=U z)(C:i.size=size)(W:z.cells.size=size)(Q:0<size)(s:Value)(n:Nat)(xs:List Value)(m:w.ownsRow B e size s n xs)(A:Option Addr)(k c:Nat)(news:List Value)(hA:A=V->k=0)(hl:news.length=k*size)(hc:∀ ad,A=U ad->∀ (j:Nat) u,news[j]?= U u->w.cell? (ad.add j)=U u)(h1:∀ u∈news,u.oneCell'=Z)(N:n+k<=maxLen)(q:(n+k)*i.bytes<=140737488355328)(hB:B<=w.heap.size):
  ∃ F w',(Builtin.append_ #[t,t] ty #[s,.slice A k c]).run P w=.ok F w'/\w'.ownsRow B e size F (n+k) (xs++news)/\w.grownBy w' s.ownBlock/\(F.ownBlock=s.ownBlock\/F.ownBlock=U w.heap.size):=by
 cases A with
 |none=>
  have hk:=hA rfl;subst hk;have hn:=uab (by simpa using hl);subst hn;rcases m.2 with ⟨rfl,rfl⟩|⟨g,H,cur,rfl,_,_,O,_⟩
  exact⟨_,w,UT t ty e i S hi V 0 0 (ue6 _) c,by simpa using m,⟨rfl,rfl,rfl,ue6 _,λ_ _ _=>rfl⟩,.inl rfl⟩;exact⟨_,w,UT t ty e i S hi _ n H O c,by simpa using m,⟨rfl,rfl,rfl,ue6 _,λ_ _ _=>rfl⟩,.inl rfl⟩
 |some ad=>
  obtain⟨F,w',e1,e2,e3,_,e5⟩:=run_append_own_at w B t ty e i z size i.bytes S hi hz C rfl W Q s n xs m ad k c news hl (hc ad rfl) h1 N q hB;exact⟨F,w',e1,e2,e3,e5⟩
def qav(t ty e:TypeId)(i:TypeInfo)(z:Value)(size:Nat)(ht:P.underlying t=U (.slice e))(hi:P.info? e=U i)(hz:i.zero=U z)(O:i.size=size)(hzs:z.cells.size=size)(S:Option Addr)(n:Nat)(xs:List Value)(hS:S=V->n=0)(C:xs.length=n*size)(hxc:∀ ad,S=U ad->∀ (j:Nat) u,xs[j]?= U u->w.cell? (ad.add j)=U u)(A:Option Addr)(k c:Nat)(news:List Value)(hk:0<k)(hA:A=V->k=0)(W:news.length=k*size)(hc:∀ ad,A=U ad->∀ (j:Nat) u,news[j]?= U u->w.cell? (ad.add j)=U u)(Q:n+k<=maxLen)(q:(n+k)*i.bytes<=140737488355328)(hB:B<=w.heap.size):
  ∃ v' w',(Builtin.append_ #[t,t] ty #[.slice S n n,.slice A k c]).run P w=.ok v' w'/\w'.ownsRow B e size v' (n+k) (xs++news)/\w.grownBy w' V/\v'.ownBlock=U w.heap.size:=by
 subst O;obtain⟨ad,rfl⟩:∃ ad,A=U ad:=by
  cases A with
  |none=>have:=hA rfl;omega
  |some ad=>exact⟨ad,rfl⟩
 have F:(xs++news).length=(n+k)*i.size:=by rw[ub5,C,W,ue8]
 have hge:=grownCap_ge w (n+k) n e;have hcm:=ub6 w (n+k) n e Q;have H:((n+k:Nat):Int)<=9223372036854775807:=by simp only[maxLen]at Q;omega
 have m:(w.drew.alloc (.cells (xs.toArray++news.toArray++Builtin.zeroCells z.cells (grownCap w (n+k) n e-(n+k))) e)).ownsRow B e i.size (.slice (U ⟨w.heap.size,0,V⟩) (n+k) (grownCap w (n+k) n e)) (n+k) (xs++news):=by
  refine⟨F,.inr ⟨w.heap.size,_,_,rfl,hB,ud4 w.drew _,hge,hcm,?_,?_⟩⟩;simp only[uco,ucp,size_zeroCells,hzs,C,W,<- ue8];congr 1;omega;simp;rw[<- ucq,<- F];exact List.take_left
 have N:w.grownBy (w.drew.alloc (.cells (xs.toArray++news.toArray++Builtin.zeroCells z.cells (grownCap w (n+k) n e-(n+k))) e)) none:=⟨rfl,rfl,rfl,by simp,λb hb _=>heap_alloc_old w.drew _ b hb⟩;cases S with
 |none=>
  have hn:=hS rfl;subst hn;have hx:=uab (by simpa using C);subst hx;have hr:=run_append_nil w t ty e i z ht hi hz ad k c news W (hc ad rfl) hk (by simpa using H) (by have hb:=q;simp at hb;omega);simp at m N |-;exact⟨_,_,hr,m,N,rfl⟩
 |some sd=>
  have hr:=run_append_grow w t ty e i z ht hi hz sd n n xs C (hxc sd rfl) ad k c news W (hc ad rfl) (by omega) H (growslice_fits (by omega) q);exact⟨_,_,hr,m,N,rfl⟩
def kT{size:Nat}{s:Value}(h:w.ownsRow B t size s n xs):s.oneCell'=true:=by
 rcases h.2 with ⟨rfl,_⟩|⟨g,i,cur,rfl,_⟩<;>rfl
def qax{s x:AV}{e:Eff}{vs:Value}(hm:MemOK P B w F γ M)(hb:∀ b,F b->b<w.heap.size)(hB:B<=w.heap.size)(H:∀ i y,m i=U y->M i=U y)(hd:m d=V->M d=V)(h:Fv P d t s x m=U e)(hn:av e.need)(hs:aE P w F (ap M γ) s vs)(hx:aE P w F (ap M γ) x vx):
  ∃ u w' γ',(Builtin.append_ #[t,t] ty #[vs,vx]).run P w=.ok u w'/\Step B w F γ M w' F γ' (ax M e.wr)/\MemOK P B w' F γ' (ax M e.wr)/\aE P w' F (ap (ax M e.wr) γ') e.v u:=by
 unfold Fv at h;split at h<;>try trivial
 rename_i el ht;split at h<;>try trivial
 rename_i i tt hi htt hmd;have hMd:=hd hmd;split at h<;>try trivial
 rename_i hsz;obtain⟨Q,W,hsz2,hsz3⟩:=hsz;obtain⟨z,hz,hzs⟩:∃ z,i.zero=U z/\z.cells.size=tt.size:=by
  cases hz:i.zero with
  |none=>simp[hz]at hsz3
  |some z=>exact⟨z,rfl,by simpa[hz]using hsz3⟩
 split at h<;>try trivial
 rename_i new C;obtain⟨A,N,news,hvx,hlc,hA,hnl,hnr,q⟩:∃ A N news,vx=.slice A new.length N/\new.length<=N/\(A=V->new=[])/\news.length=new.length*tt.size/\bU w F tt new news/\∀ ad,A=U ad->∀ (j:Nat) u,news[j]?= U u->w.cell? (ad.add j)=U u:=by
  split at C<;>try trivial
  cases C;obtain⟨_,rfl⟩:=hx;exact⟨V,0,[],rfl,ue6 _,λ_=>rfl,by simp,λi x hi=>by simp at hi,λad he=>by cases he⟩;split at C<;>try trivial
  rename_i u l hl;split at C<;>try trivial
  rename_i hu;subst hu;cases C;exact Sz hm H hl hx.2
 subst hvx;have hA':A=V->new.length=0:=λh=>by rw[hA h];rfl
 have hone:=yQ hnr hnl;split at h<;>try trivial
 cases h;obtain⟨_,rfl⟩:=hs;obtain⟨v',w',e1,e2,e3,e4⟩:=qr t ty el i z tt.size ht hi hz W hzs hsz2 (.slice V 0 0) 0 [] (ucr w B el tt.size) A new.length N news hA' hnl q hone (by have:=hn.1;omega) (by have:=hn.2;simpa using this) hB;rw[ueu,udj]at e2;obtain⟨s1,s2⟩:=uN hm hb hB hMd e3 e2 (λg hg=>by rcases e4 with h|h<;>rw[h]at hg<;>simp[Value.ownBlock]at hg;omega) (hnr.mono (λ_ h=>h) (λb O=>e3.block b (hb b O) (by simp[Value.ownBlock]))) Q;exact⟨v',w',_,e1,s1,s2,lP (kT e2)⟩
 rename_i id;split at h<;>try trivial
 rename_i e' u l hid;split at h<;>try trivial
 rename_i hu;subst hu;split at h<;>try trivial
 rename_i he';obtain⟨rfl,_⟩:=he';cases h;have hcast:cA (rfl:u=u) l=l:=rfl;have hv:=ez (H _ _ hid) (by simp) hs.2;subst hv;obtain⟨xs,q1,q2,q3,q4⟩:=gg.of (hm.ob id _ (H _ _ hid)) Q;obtain⟨v',w',e1,e2,e3,e4⟩:=qr t ty e' i z u.size ht hi hz W hzs hsz2 (γ id) l.length xs q1 A new.length N news hA' hnl q hone hn.1 hn.2 hB;have hFb:=λb O=>e3.block b (hb b O) (λhe=>q2 b he.symm O);rw[<- ub5]at e2;obtain⟨s1,s2⟩:=CJ hm hb hB (H _ _ hid) hMd e3 e2 (e4.elim .inl (λh=>.inr (.inl h))) ((q3.append q1.1 hnr).mono (λ_ h=>h) hFb) Q Q;exact⟨v',w',_,e1,s1,s2,lP (kT e2)⟩
 rename_i u l;split at h<;>try trivial
 rename_i hu;subst hu;cases h;have hcast:cA (rfl:u=u) l=l:=rfl;obtain⟨_,S,hvs,hrs⟩:=hs;obtain⟨S',c',xs,hv,_,hS,hxl,hxr,hxc⟩:=CB hrs;rw[hvs]at hv;cases hv;subst hvs;obtain⟨v',w',e1,e2,e3,e4⟩:=qav t ty el i z u.size ht hi hz W hzs S l.length xs (λh=>by rw[hS h];rfl) hxl hxc A new.length N news hn.1 hA' hnl q hn.2.1 hn.2.2 hB;rw[<- ub5]at e2;obtain⟨s1,s2⟩:=uN hm hb hB hMd e3 e2 (λg hg=>by rw[e4]at hg;simp at hg;omega) ((hxr.append hxl hnr).mono (λ_ h=>h) (λb O=>e3.block b (hb b O) (by simp))) Q;exact⟨v',w',_,e1,s1,s2,lP (kT e2)⟩
end
section
variable {P:Program} {B:Nat} {o:Oper} {a:Act} {w w':World} {F F':Nat->Prop} {γ γ':Nat->Value} {M m:aT} {R:Nat->Value->Prop}
def cF(arr:Array Value)(off:Nat)(vs:List Value):Array Value:=(arr.toList.take off++vs++arr.toList.drop (off+vs.length)).toArray
def yy(h:off+vs.length<=arr.size):(cF arr off vs).size=arr.size:=by
 simp[cF];omega
def yx(h:off+vs.length<=arr.size)(i:j<vs.length):(cF arr off vs)[off+j]?= vs[j]? := by
 simp only[cF,List.getElem?_toArray];rw[uaj (by simp;omega),uae (by simp;omega)];congr 1;simp;omega
def rC(h:off+vs.length<=arr.size)(i:j<off\/off+vs.length<=j):(cF arr off vs)[j]?= arr[j]? := by
 simp only[cF,List.getElem?_toArray];rcases i with i|i
 rw[uaj (by simp;omega),uaj (by simp;omega),ub1,if_pos i];simp;rw[uae (by simp;omega),ub0];simp only[ub5,uc3,ubt];rw[show off+vs.length+(j-(min off arr.size+vs.length))=j from by omega];simp
def D8{C:TypeInfo}(hg:w.heap[b]?= U (.cells arr ty (0,0)))(hi:P.info? t=U C)(m:v.cells.size=P.cellsOf t)(j:off+v.cells.size<=arr.size)(i:∀ u∈v.cells,u.oneCell'=Z):(Instr.storeAt t (.pointer (U ⟨b,off,V⟩)) v).run P w=.ok () (w.setRow b (cF arr off v.cells.toList)):=by
 have:=run_storeCells_at (P:=P) b off ty v.cells.toList 0 arr w hg (by simpa using j) (λu q=>i u (ubg.1 q));simp[Instr.storeAt,Instr.sureAddr,storeVar,gw hi,m,this,cF]
def Le{m':aT}(hb:∀ b,F b->b<w.heap.size)(hF:¬ F b)(hB:B<=b)(hR:∀ i v,ap M γ i v->ap m' γ i v):Step B w F γ M (w.setRow b arr) F γ m':=
 ⟨λ_ h=>h,λc h=>uew w b c _ (λe=>hF (e ▸ h)),hR,λc h=>uew w b c _ (by omega),rfl,rfl,rfl,by simp,λc h=>by have:=hb c h;simpa using this,λc h=>.inl h⟩
def pJ{id:Nat}{cs cs':List AC}(N:MemOK P B w F γ M)(hb:∀ b,F b->b<w.heap.size)(t:M id=U (.box e cs))(m:γ id=.pointer (U ⟨b,0,V⟩))(hg:w.heap[b]?= U (.cells arr e (0,0)))(hF:¬ F b)(hB:B<=b)(H:off+vs.length<=arr.size)(Q:arr.size=cs'.length)(O:aN P w F (ap M γ) cs' (λj u=>(cF arr off vs)[j]?= U u)):
  Step B w F γ M (w.setRow b (cF arr off vs)) F γ (upd M id (.box e cs'))/\MemOK P B (w.setRow b (cF arr off vs)) F γ (upd M id (.box e cs')):=by
 have i:Step B w F γ M (w.setRow b (cF arr off vs)) F γ (upd M id (.box e cs')):=Le hb hF hB (nx t (by simp));refine⟨i,N.change t (by simp) i.hF i.hw (λc h=>h) (λc _ q=>⟨uew w b c _ (λC=>q ⟨_,m,C.symm⟩),λh=>h⟩) ?_⟩;exact⟨b,_,m,ue9 w b arr _ e (0,0) hg,hF,hB,by rw[yy H];exact Q,i.repCL O⟩
def qw6{id:Nat}{ob:Ob}(i:M id=U ob)(hg:ob ≠ .gone)(h:ap M γ id v):v=γ id:=by
 unfold ap at h;cases ob<;>simp_all
def UN{id:Nat}:{cs xs:List AC} -> {u:List (Nat×Ob)}->jr m cs=U (xs,u)->(cs.flatMap lH).all (· != id)=Z->∀ M:aT,ax M u id=M id
 |[],xs,u,h,_,M=>by
  obtain⟨rfl,rfl⟩:=h;rfl
 |c::r,xs,u,h,w,M=>by
  simp only[jr]at h;split at h;rename_i x C y F j t;cases h;have q:(lH c).all (· != id)=Z/\(r.flatMap lH).all (· != id)=true:=by
   simpa[udk]using w
  rw[gc,UN t q.2];unfold me at j;split at j;rename_i i;have hi:i≠id:=by
   have:=q.1;simpa[lH]using this
  split at j<;>try trivial
  simp at j;obtain⟨_,_,rfl⟩:=j;exact fa _ _ (Ne.symm hi);simp at j;obtain⟨_,rfl⟩:=j;rfl;simp at j;obtain⟨_,rfl⟩:=j;rfl;cases h
def zax{x v:AV}{e:Eff}{W:Value}(hm:MemOK P B w F γ M)(hb:∀ b,F b->b<w.heap.size)(O:∀ i y,m i=U y->M i=U y)(h:Lh P t x v m=U e)(hn:av e.need)(hx:aE P w F (ap M γ) x vx)(hv:aE P w F (ap M γ) v W):
  e.v=.dead/\∃ w' F',(Instr.storeAt t vx W).run P w=.ok () w'/\Step B w F γ M w' F' γ (ax M e.wr)/\MemOK P B w' F' γ (ax M e.wr):=by
 unfold Lh at h;split at h<;>try trivial
 rename_i new hnew;obtain⟨c1,c2,c3⟩:=o6 hnew hv;split at h<;>try trivial
 rename_i hi;obtain⟨ti,hti⟩:=uar.1 hi.1;have hsz:W.cells.size=P.cellsOf t:=by omega
 split at h<;>try trivial
 rename_i id off;split at h<;>try trivial
 rename_i ety cs Q;split at h<;>try trivial
 rename_i cs' C;cases h;obtain⟨b,arr,e1,rfl,e3,e4,e5,e6,e7⟩:=lw hm (O _ _ Q) hx.2;have hl:off+W.cells.toList.length<=arr.size:=by
  unfold nw at C;split at C;simp;omega;cases C
 obtain⟨p1,p2⟩:=Dt (g':=λj u=>(cF arr off W.cells.toList)[j]?= U u) C e7 (c2.turn λj u hj S=>by
   rw[yx hl (by simp;omega)];simpa using S) (λj u hj S=>by
   rw[rC hl (by simp;omega)];exact S)
 obtain⟨s1,s2⟩:=pJ hm hb (O _ _ Q) e1 e3 e4 e5 hl (by omega) p2;exact⟨rfl,_,F,D8 e3 hti hsz (by simpa using hl) c3,s1,s2⟩
 rename_i id sz i off;split at h<;>try trivial
 rename_i ety tt l new' u Q hrs;split at h<;>try trivial
 rename_i hc;obtain⟨hlt,hsz',hno⟩:=hc;split at h<;>try trivial
 rename_i row C;split at h<;>try trivial
 rename_i y hdec;cases h;have hil:i<l.length:=hn;obtain⟨F1,s1,m1,t1,l1,r1⟩:=yR hm hb (cX.of O) hrs c2;have hM1:ax M u id=U (.arr ety tt l):=by rw[UN hrs hno];exact O _ _ Q
 obtain⟨b,c,arr,e1,e2,e3,e4,e5,e6⟩:=NI m1 hM1 hlt hil;obtain⟨A,n0,c0,f1,rfl⟩:=hx;have f2:=qw6 (O _ _ Q) (by simp) f1;rw[e1]at f2;obtain⟨rfl,rfl,rfl⟩:=f2;subst hsz';have hlr:off+new'.length<=tt.size:=by
  unfold nw at C;split at C;rename_i hle;rw[fl]at hle;exact hle;cases C
 have hnl:W.cells.toList.length=new'.length:=by rw[l1];simpa using c1
 have N:i*tt.size+off+W.cells.toList.length<=arr.size:=by
  rw[uet]at e5;omega
 obtain⟨p1,p2⟩:=Dt (g':=λj u=>(cF arr (i*tt.size+off) W.cells.toList)[i*tt.size+j]?= U u) C e6
  (r1.turn λj u hj S=>by rw[<- uee,yx N (by omega)];simpa using S)
  (λj u hj S=>by rw[rC N (by omega)];exact S)
 obtain⟨q1,_⟩:=aA.dec tt hdec p2;have hst:Step B w F1 γ (ax M u) (w.setRow b (cF arr (i*tt.size+off) W.cells.toList)) F1 γ (upd (ax M u) id (.arr ety tt (l.set i y))):=Le s1.bd e3 e4 (nx hM1 (by simp));have hmm:MemOK P B (w.setRow b (cF arr (i*tt.size+off) W.cells.toList)) F1 γ (upd (ax M u) id (.arr ety tt (l.set i y))):=by
  have hnm:∀ b',γ id ≠ .map (U b'):=λb' he=>by rw[e1]at he;cases he
  refine m1.change hM1 (by simp) hst.hF hst.hw (λc h=>(lE hlt hnm).2 ((lE hlt hnm).1 h)) (λc _ hne=>⟨uew w b c _ (λe'=>hne (.inl (by rw[e1];simp[Value.ownBlock,e']))),λh=>h⟩) ?_;obtain⟨xs,hown,hnF,hrows,hone⟩:=gg.of (m1.ob id _ hM1) hlt;obtain⟨hxl,hn'|⟨g,cap,cur,hv',hbg,hg,hnc,hcm,hcs,ht⟩⟩:=hown;omega;rw[e1]at hv';obtain⟨rfl,rfl⟩:=hv';rw[e2]at hg;simp at hg;subst hg;have hrowsN:bU w F1 tt (l.set i y) ((cF arr (i*tt.size+off) W.cells.toList).toList.take (l.length*tt.size)):=by
   intro k x hk;have hkl:k<l.length:=by simpa using (uak.1 hk).1
   have hkb:k*tt.size+tt.size<=l.length*tt.size:=by rw[<- uet];exact ubd _ hkl
   rcases ucs k i with h1|h1|h1
   rw[ubh (by omega)]at hk;have hki:k*tt.size+tt.size<=i*tt.size:=by rw[<- uet];exact ubd _ h1
   refine(hrows k x hk).mono (λ_ h=>h) (λ_ _=>rfl) λj u hj S=>?_;rw[ub1,if_pos (by omega),ua5,rC N (by omega)];rw[<- ht,ub1,if_pos (by omega)]at S;simpa using S;subst h1;rw[ua0 hkl]at hk;cases hk;refine q1.mono (λ_ h=>h) (λ_ _=>rfl) λj u hj S=>?_;rw[ub1,if_pos (by omega),ua5];exact S;rw[ubh (by omega)]at hk;have hki:i*tt.size+tt.size<=k*tt.size:=by rw[<- uet];exact ubd _ h1
   refine(hrows k x hk).mono (λ_ h=>h) (λ_ _=>rfl) λj u hj S=>?_;rw[ub1,if_pos (by omega),ua5,rC N (by omega)];rw[<- ht,ub1,if_pos (by omega)]at S;simpa using S
  have hlc:l.length*tt.size<=arr.size:=by rw[hcs];exact ubd _ hnc
  have hxl':((cF arr (i*tt.size+off) W.cells.toList).toList.take (l.length*tt.size)).length=(l.set i y).length*tt.size:=by
   have h8:(cF arr (i*tt.size+off) W.cells.toList).toList.length=arr.size:=by simpa using yy N
   rw[uc3,h8,udl];omega
  refine .inl ⟨hlt,_,⟨hxl',.inr ⟨b,_,_,by rw[e1,udl],hbg,ue9 w b arr _ ety (0,0) e2,by rw[udl];exact hnc,hcm,by rw[yy N];exact hcs,by rw[udl]⟩⟩,hnF,hrowsN.mono hst.hF hst.hw,yQ hrowsN hxl'⟩
 have hrun:=D8 e2 hti hsz (by simpa using N) c3;refine⟨rfl,_,F1,by rw[i8,ueu];exact hrun,?_,?_⟩;rw[gc];exact s1.trans hst;rw[gc];exact hmm
 rename_i id off n i;split at h<;>try trivial
 rename_i ety cs k y Q;split at h<;>try trivial
 rename_i bf hseg;split at h<;>try trivial
 rename_i ns hns;split at h<;>try trivial
 rename_i cs' C;cases h;obtain⟨ad,a1,a2,a3,rfl⟩:=hx;obtain⟨b,arr,e1,e2,e3,e4,e5,e6,e7⟩:=lw hm (O _ _ Q) a1;simp at e2;subst e2;obtain⟨u,H,hu2⟩:∃ u,W.cells = #[u]/\(u=.int k y/\inR k y):=by
  obtain⟨⟨u,g1,_,g3⟩,_⟩:=c2;have:W.cells.size=1:=by simpa using c1
  refine⟨u,?_,g3⟩;apply ufj;simpa using this;intro j hj1 hj2;have:j=0:=by simp at hj2;exact hj2
  subst this;have:=(uaf.1 g1).2;simpa using this
 obtain⟨hu2,hy⟩:=hu2;subst hu2;have hseq:=Cu hns;obtain⟨g1,g2⟩:=uc hseg e7;have hsb:off+n<=cs.length:=by
  unfold ig at hseg;split at hseg;assumption;cases hseg
 have hl:off+i.toNat+W.cells.toList.length<=arr.size:=by rw[H];simp;omega
 have hnsl:ns.length=n:=by rw[hseq]at g1;simpa using g1
 have hset:∀ (ns:List Int) (j0:Nat),(pI ns j0 i y).length=ns.length/\∀ j,(pI ns j0 i y)[j]?= if i=((j0+j:Nat):Int)/\j<ns.length then U y else ns[j]? := by
  intro ns
  induction ns with
  |nil=>intro j0;exact⟨rfl,λj=>by simp[pI]⟩
  |cons q r ih=>
   intro j0;obtain⟨i1,i2⟩:=ih (j0+1);refine⟨by simp[pI,i1],λj=>?_⟩;cases j with
   |zero=>
    simp only[pI,uev,uc7];by_cases hq:i=(j0:Int);rw[if_pos ⟨hq,by omega⟩];simp[hq];rw[if_neg (by omega)];have:(i==(j0:Int))=false:=by simpa using hq
    simp[this]
   |succ j=>
    simp only[pI,List.getElem?_cons_succ,uc7];rw[i2];by_cases hq:i=((j0+1+j:Nat):Int)/\j<r.length;rw[if_pos hq,if_pos ⟨by rw[hq.1];congr 1;omega,by omega⟩];rw[if_neg hq,if_neg (λhh=>hq ⟨by rw[hh.1];congr 1;omega,by omega⟩)]
 obtain⟨z1,z2⟩:=hset ns 0;obtain⟨p1,p2⟩:=Dt (g':=λj u=>(cF arr (off+i.toNat) W.cells.toList)[j]?= U u) C e7
  (ki _ λj c hc=>by
   rw[ucn,z2]at hc;by_cases hj:i=((0+j:Nat):Int)/\j<ns.length;rw[if_pos hj]at hc;simp at hc;subst hc;refine⟨.int k y,?_,rfl,rfl,hy⟩;have hij:i.toNat=j:=by omega
   have:=yx hl (j:=0) (by rw[H];simp);rw[hij,uev]at this;rw[hij,this,H];rfl;rw[if_neg hj]at hc;have hcs:bf[j]?= U c:=by rw[hseq,ucn];exact hc
   obtain⟨u,d1,d2⟩:=g2.at_ hcs;refine⟨u,?_,d2⟩;rw[rC hl (by rw[H];simp;omega)];exact d1)
  (λj u hj S=>by
   rw[rC hl (by rw[H];simp at hj |-;omega)];exact S)
 obtain⟨s1,s2⟩:=pJ hm hb (O _ _ Q) e1 e3 e4 e5 hl (by omega) p2;exact⟨rfl,_,F,by rw[i8];exact D8 e3 hti hsz (by simpa using hl) c3,s1,s2⟩
end
section
variable {P:Program} {B:Nat} {o:Oper} {a:Act} {w w':World} {F F':Nat->Prop} {γ γ':Nat->Value} {M m:aT} {R:Nat->Value->Prop} {Γ:Gm}
def qtp{n c:Int}{kn kc:IntKind}{e:Eff}(hm:MemOK P B w F γ M)(hb:∀ b,F b->b<w.heap.size)(hB:B<=w.heap.size)(hd:m d=V->M d=V)(h:J4 P d t n c m=U e)(hn:av e.need):
  ∃ u w' γ',(Instr.makeSlice t (.int kn n) (.int kc c)).run P w=.ok u w'/\Step B w F γ M w' F γ' (ax M e.wr)/\MemOK P B w' F γ' (ax M e.wr)/\aE P w' F (ap (ax M e.wr) γ') e.v u:=by
 unfold J4 at h;split at h<;>try trivial
 rename_i el ht;split at h<;>try trivial
 rename_i i tt hi htt hmd;split at h<;>try trivial
 rename_i z hz;split at h<;>try trivial
 rename_i cs hcs;split at h<;>try trivial
 rename_i x Q;split at h<;>try trivial
 rename_i hsz;obtain⟨H,O,hs2,hs3⟩:=hsz;cases h;obtain⟨n1,n2,n3,n4⟩:=hn;obtain⟨z1,z2,_⟩:=o6 hcs (tf (P:=P) (R:=ap M γ) z);obtain⟨r1,_⟩:=aA.dec tt Q z2;have hr:=run_make w t el i z ht hi hz kn kc n c n1 n2 (by rw[uex];omega) (by simp only[maxLen]at n3;omega);have hcn:c.toNat<=maxLen:=by omega
 have C:∀ k,k<c.toNat*i.size->(madeCells z.cells (c.toNat*i.size))[k]?= z.cells[k%z.cells.size]? := by
  intro k W;have S:0<z.cells.size:=by omega
  have H:=ufd k S;have hg:z.cells[k%z.cells.size]! = z.cells[k%z.cells.size]:=by simp[H]
  simp[madeCells,W,hg]
 have N:bU (w.alloc (.cells (madeCells z.cells (c.toNat*i.size)) el)) F tt (List.replicate n.toNat x) ((madeCells z.cells (c.toNat*i.size)).toList.take (n.toNat*tt.size)):=by
  intro k y W;have hkn:k<n.toNat:=by simpa using (uak.1 W).1
  have hy:y=x:=by
   have:=(uak.1 W).2;simpa using this.symm
  subst hy;have hkb:k*tt.size+tt.size<=n.toNat*tt.size:=by rw[<- uet];exact ubd _ hkn
  have hnc:n.toNat*tt.size<=c.toNat*i.size:=by rw[O];exact ubd _ (by omega)
  refine r1.mono (λ_ h=>h) (λb hb'=>uc9 _ _ _ (hb b hb')) λj u hj hu=>?_;rw[ub1,if_pos (by omega),ua5,C _ (by omega),hs2];rw[show(k*tt.size+j)%tt.size=j from by rw[ues,Nat.mul_add_mod];exact Nat.mod_eq_of_lt hj];exact hu
 have q:(List.replicate n.toNat x).length=n.toNat:=by simp
 obtain⟨s1,s2⟩:=uN hm hb hB (hd hmd)
  (ubu w _ V)
  ⟨by
    rw[uc3,ubt,size_madeCells,q];have:n.toNat*tt.size<=c.toNat*i.size:=by rw[O];exact ubd _ (by omega)
    omega,
   .inr ⟨w.heap.size,c.toNat,_,by rw[q],hB,ud4 w _,by rw[q];omega,hcn,by rw[size_madeCells,O],by rw[q]⟩⟩
  (λg hg=>by simp[Value.ownBlock]at hg;omega) N H
 exact⟨_,_,_,hr,s1,s2,lP rfl⟩
def Qt{sz:Nat}{t:Ty}(S:t.size=sz):{vs:List (Nat×AV)} -> {ps:List (Nat×Value)} -> {l:List t.den} -> {k:Nat} -> {arr:Array Value}->n9 t k vs=U l->ps.length=vs.length ->
  (∀ (q i:Nat) (x:AV) (v:Nat×Value),vs[q]?= U (i,x)->ps[q]?= U v->v.1=i/\aE P w F R x v.2)->(k+vs.length)*sz<=arr.size ->
  l.length=vs.length/\∃ m,Instr.fill (λi=>U (i*sz,sz)) arr ps=U m/\m.size=arr.size/\(∀ j,j<k*sz->m[j]?= arr[j]?) /\
   ∀ (i:Nat) (x:t.den),l[i]?= U x->aA w F t x (λj u=>m[(k+i)*sz+j]?= U u)
 |[],[],l,k,arr,h,_,_,_=>by
  simp only[n9,uck]at h;subst h;exact⟨rfl,arr,rfl,rfl,λ_ _=>rfl,λi x hi=>by simp at hi⟩
 |(i,x)::r,(i',v)::ps,l,k,arr,h,C,hp,hb=>by
  obtain⟨rfl,hv⟩:=hp 0 i x (i',v) rfl rfl;simp only at hv;simp only[n9]at h;split at h<;>try trivial
  rename_i O;split at h<;>try trivial
  rename_i y l' hy Q;cases h;have H:=qP hy hv;obtain⟨e1,e2,e3⟩:=H;have hbk:k*sz+sz<=arr.size:=by
   have N:(k+1)*sz<=(k+(r.length+1))*sz:=ubd _ (by omega);rw[uet]at N;simp at hb;omega
  obtain⟨W,f2⟩:=Ij v.cells.toList (k*sz) 0 arr;have hz:v.cells.zipIdx.foldl (λcs (x:Value×Nat)=>cs.setIfInBounds (k*sz+x.2) x.1) arr=(v.cells.toList.zipIdx 0).foldl (λcs (x:Value×Nat)=>cs.setIfInBounds (k*sz+x.2) x.1) arr:=by
   rw[<- Array.foldl_toList,Array.toList_zipIdx]
  obtain⟨g1,m,g2,g3,g4,g5⟩:=Qt S Q (by simpa using C)
   (λq i x v N h2=>hp (q+1) i x v (by simpa using N) (by simpa using h2)) (by rw[W];simp at hb;rw[show k+1+r.length=k+(r.length+1) from by omega];exact hb)
  refine⟨by simp[g1],m,?_,by rw[g3,W],λj hj=>?_,λq z hq=>?_⟩;subst O;simp only[Instr.fill];rw[if_neg (by simp;omega),<- g2];congr 1;rw[g4 j (by rw[uet];omega),f2,if_neg (by omega)];cases q with
  |zero=>
   simp at hq;subst hq;refine e3.mono (λ_ h=>h) (λ_ _=>rfl) λj u hj hu=>?_;rw[uev,g4 _ (by rw[uet];omega),f2,if_pos (by simp;omega)];simpa using hu
  |succ q=>
   have:=g5 q z (by simpa using hq);rw[show k+1+q=k+(q+1) from by omega]at this;exact this
 |[],_::_,_,_,_,_,C,_,_=>by simp at C
 |_::_,[],_,_,_,_,C,_,_=>by simp at C
def qbo{i:TypeInfo}{z:Value}{tt:Ty}{vs:List (Nat×AV)}{ps:Array (Nat×Value)}{l:List tt.den}(hm:MemOK P B w F γ M)(hb:∀ b,F b->b<w.heap.size)(hB:B<=w.heap.size)(hd:M d=V)(ht:P.underlying t=U (.slice el))(hi:P.info? el=U i)(hz:i.zero=U z)(hs:i.size=tt.size)(hzs:z.cells.size=tt.size)(hpos:0<tt.size)(hbig:n*i.size<=16777216)(h:n9 tt 0 vs=U l)(hl:l.length=n)(hps:ps.size=vs.length)(hp:∀ (q i:Nat) (x:AV) (v:Nat×Value),vs[q]?= U (i,x)->ps[q]?= U v->v.1=i/\aE P w F (ap M γ) x v.2)(hlt:el<cj):
  ∃ u w' γ',(Instr.buildSlice t n ps).run P w=.ok u w'/\Step B w F γ M w' F γ' (upd M d (.arr el tt l))/\MemOK P B w' F γ' (upd M d (.arr el tt l))/\aE P w' F (ap (upd M d (.arr el tt l)) γ') (.c (.own d)) u:=by
 have N:vs.length=n:=by
  have:∀ (vs:List (Nat×AV)) (k:Nat) (l:List tt.den),n9 tt k vs=U l->l.length=vs.length:=by
   intro vs
   induction vs with
   |nil=>intro k l h;simp only[n9,uck]at h;subst h;rfl
   |cons x r ih=>
    intro k l h;simp only[n9]at h;split at h<;>try trivial
    split at h<;>try trivial
    rename_i h2;cases h;simp[ih _ _ h2]
  rw[<- this vs 0 l h,hl]
 have hnn:n<=maxLen:=by
  have:n*1<=n*i.size:=Nat.mul_le_mul_left _ (by omega);simp only[maxLen];omega
 have key:∀ C:Array Value,C.size=n*i.size->∃ m,Instr.fill (λj=>U (j*i.size,i.size)) C ps.toList=U m/\m.size=n*i.size/\∀ (k:Nat) (x:tt.den),l[k]?= U x->aA w F tt x (λj u=>m[k*i.size+j]?= U u):=by
  intro C h0;obtain⟨_,m,g2,g3,_,g5⟩:=Qt hs.symm (ps:=ps.toList) h (by simpa using hps) (λq i x v h1 h2=>hp q i x v h1 (by simpa using h2)) (by rw[h0,ueu,N];exact ue6 _);exact⟨m,g2,by rw[g3,h0],λk x hk=>by have:=g5 k x hk;rw[ueu]at this;exact this⟩
 have hzv:(zeroValue el).run P w=.ok z w:=by simp[zeroValue,typeInfo,hi,hz]
 have hrun:∃ m,m.size=n*i.size/\(∀ (k:Nat) (x:tt.den),l[k]?= U x->aA w F tt x (λj u=>m[k*i.size+j]?= U u)) /\
   (Instr.buildSlice t n ps).run P w=.ok (.slice (U ⟨w.heap.size,0,V⟩) n n) (w.alloc (.cells m el)):=by
  have W:P.cellsOf el=i.size:=by simp[Program.cellsOf,hi]
  have H:¬ (16777216<n*i.size):=by omega
  by_cases O:n*i.size=0;obtain⟨m,k1,S,k3⟩:=key ((Array.range 0).map λ_=>default) (by simp[O]);refine⟨m,S,k3,?_⟩;simp only[Instr.buildSlice,uep,ud2 ht,ucl,gw hi,W];simp[O,k1,newRow,Sem.run];obtain⟨m,k1,S,k3⟩:=key ((Array.range (n*i.size)).map (λj=>z.cells[j%z.cells.size]!)) (by simp);refine⟨m,S,k3,?_⟩;simp only[Instr.buildSlice,uep,ud2 ht,ucl,gw hi,W];simp[O,H,hzv,k1,newRow,newObj,Sem.run]
 obtain⟨m,S,k3,hr⟩:=hrun;have Q:bU (w.alloc (.cells m el)) F tt l (m.toList.take (l.length*tt.size)):=by
  intro k x hk;have hkl:=(uak.1 hk).1;have hkb:k*tt.size+tt.size<=l.length*tt.size:=by rw[<- uet];exact ubd _ hkl
  refine(k3 k x hk).mono (λ_ h=>h) (λb hb'=>uc9 _ _ _ (hb b hb')) λj u hj hu=>?_;rw[ub1,if_pos (by omega),ua5,<- hs];exact hu
 obtain⟨s1,s2⟩:=uN hm hb hB hd (ubu w _ V)
  ⟨by
    have h9:m.toList.length=n*tt.size:=by rw[<- hs];simpa using S
    rw[uc3,h9,hl];exact Nat.min_self _,.inr ⟨w.heap.size,n,_,by rw[hl],hB,ud4 w _,by rw[hl];exact ue6 _,hnn,by rw[S,hs],rfl⟩⟩
  (λg hg=>by simp[Value.ownBlock]at hg;omega) Q hlt
 exact⟨_,_,_,hr,s1,s2,lP rfl⟩
def Vl{t:Ty}{l:List t.den}{A:Option Addr}{lo hi mx:Nat}(P:aA w F (.sl t) l (λ_ u=>u=.slice A l.length c))(h1:lo<=hi)(h2:hi<=l.length)(h3:hi<=mx)(h4:mx<=c):
  aA w F (.sl t) ((l.drop lo).take (hi-lo)) (λ_ u=>u=.slice (if mx=lo then A else A.map (·.add (lo*t.size))) (hi-lo) (mx-lo)):=by
 obtain⟨S,W,e1,e2,e3,H⟩:=P;obtain⟨rfl,_,rfl⟩:=e1;have m:((l.drop lo).take (hi-lo)).length=hi-lo:=by simp;omega
 refine⟨_,mx-lo,by rw[m],by rw[m];omega,by omega,λi x q=>?_⟩;have C:i<hi-lo:=by rw[<- m];exact(uak.1 q).1
 rw[ub1,if_pos C,ub0]at q;obtain⟨ad,rfl,N,O⟩:=H _ _ q;refine⟨ad.add (lo*t.size),by rw[if_neg (by omega)];rfl,by rw[qp];exact N,O.mono (λ_ h=>h) (λ_ _=>rfl) λj u hj Q=>?_⟩;rw[m9,<- Q,ue8,uee]
def kY{n:Int}{y:Nat}{i:BoundsCode}(h0:0<=n)(j:n<=y):(Instr.sliceBound (.int k n) y i).run P w=.ok n.toNat w:=by
 simp[Instr.sliceBound,asIntOf,h0,j]
def qve{j:Bool}{r q:List AV}{x:Option Int}(h:uS j r=U (x,q))(m:bj P w F R r vs):
  (j=Y/\x=V/\q=r)\/(j=Z/\∃ k n v i,x=U n/\vs=v::i/\v=.int k n/\bj P w F R q i):=by
 unfold uS at h;split at h;simp at h;exact .inl ⟨rfl,h.1.symm,h.2.symm⟩;cases h;cases vs with
 |nil=>exact m.elim
 |cons v vs=>exact .inr ⟨rfl,_,_,v,vs,rfl,rfl,m.1.2.1,m.2⟩
 cases h
def qz8{ti:TypeInfo}{tt:Ty}{y:List tt.den}{l h k:Option Int}{kl kh kk:IntKind}{c:AC}{n:List Prop}{A:Option Addr}{i:Nat}(ht:P.underlying t=U (.slice e))(he:P.info? e=U ti)(hs:P.cellsOf e=tt.size)(j:KQ tt y l h k=U (c,n))(hn:av n)(hr:aA w F (.sl tt) y (λ_ u=>u=.slice A y.length i)):
  ∃ u,(Instr.sliceAt t (.slice A y.length i) (l.map (.int kl)) (h.map (.int kh)) (k.map (.int kk))).run P w=.ok u w/\u.oneCell'=Z/\bc P w F R c u:=by
 have hcap:y.length<=i:=by
  obtain⟨A',c',e1,e2,_⟩:=hr;simp at e1;omega
 have m:∀ (lo hi mx:Nat),(Instr.sliceBounds Z y.length i (l.map (.int kl)) (h.map (.int kh)) (k.map (.int kk))).run P w=.ok (lo,hi,mx) w ->
   (Instr.sliceAt t (.slice A y.length i) (l.map (.int kl)) (h.map (.int kh)) (k.map (.int kk))).run P w=.ok (.slice (if mx=lo then A else A.map (·.add (lo*tt.size))) (hi-lo) (mx-lo)) w:=by
  intro lo hi mx hb;simp[Instr.sliceAt,Instr.slice,ud2 ht,hb,gw he,hs]
 unfold KQ at j;split at j;cases j;obtain⟨N,O,W⟩:=hn;have hb:(Instr.sliceBounds Z y.length i (l.map (.int kl)) (h.map (.int kh)) ((none:Option Int).map (.int kk))).run P w=.ok ((l.getD 0).toNat,(h.getD y.length).toNat,i) w:=by
  cases h with
  |none=>
   cases l with
   |none=>simp[Instr.sliceBounds]
   |some lo=>simp at N O W;simp[Instr.sliceBounds,kY N O]
  |some hi=>
   have Q:hi<=(i:Int):=by simp at W;omega
   have C:0<=hi:=by simp at O;omega
   cases l with
   |none=>simp[Instr.sliceBounds,kY C Q]
   |some lo=>
    simp at N O W;simp[Instr.sliceBounds,kY C Q,kY (P:=P) (w:=w) (y:=hi.toNat) N (by omega)]
 have H:=Vl (lo:=(l.getD 0).toNat) (hi:=(h.getD y.length).toNat) hr (by omega) (by omega) (by omega) (ue6 _);refine⟨_,m _ _ _ hb,rfl,?_⟩;rw[show((h.getD y.length)-(l.getD 0)).toNat=(h.getD y.length).toNat-(l.getD 0).toNat from by omega];exact H;rename_i q;split at j<;>try trivial
 cases j;obtain⟨N,O,W,rfl⟩:=hn;have hb:(Instr.sliceBounds Z y.length i (l.map (.int kl)) ((U q).map (.int kh)) ((U q).map (.int kk))).run P w=.ok ((l.getD 0).toNat,q.toNat,q.toNat) w:=by
  have Q:q<=(i:Int):=by omega
  have C:0<=q:=by omega
  cases l with
  |none=>simp[Instr.sliceBounds,kY C Q,kY (P:=P) (w:=w) (y:=q.toNat) C (by omega)]
  |some lo=>
   simp at N O;simp[Instr.sliceBounds,kY C Q,kY (P:=P) (w:=w) (y:=q.toNat) C (by omega),kY (P:=P) (w:=w) (y:=q.toNat) N (by omega)]
 have H:=Vl (lo:=(l.getD 0).toNat) (mx:=q.toNat) hr (by omega) (by omega) (ue6 _) (by omega);refine⟨_,m _ _ _ hb,rfl,?_⟩;have S:((y.drop (l.getD 0).toNat).take (q-(l.getD 0)).toNat).length=q.toNat-(l.getD 0).toNat:=by simp;omega
 refine⟨_,by rw[S],?_⟩;rw[show(q-(l.getD 0)).toNat=q.toNat-(l.getD 0).toNat from by omega];exact H
def xp:{ps:List PT} -> {cs:List AC} -> {x:ag ps} -> {vs:List Value}->gY ps cs=U x->bj P w F R (cs.map .c) vs->cJ P w F ps x vs
 |[],[],_,[],_,_=>rfl
 |.d t::r,a::s,x,v::vs,h,i=>by
  simp only[gY]at h;split at h;rename_i y z H j;cases h;exact⟨v,vs,rfl,qP H i.1,xp j i.2⟩;cases h
 |.ptr t::r,.sptr cs::s,x,v::vs,h,i=>by
  simp only[gY]at h;split at h;rename_i y q z H j;cases h;obtain⟨_,ad,e1,e2,m⟩:=i.1;exact⟨v,vs,rfl,⟨ad,e1,e2,(aA.dec t H m).1⟩,xp j i.2⟩;cases h
 |.pfn ps rs::r,.sptr [.fv ps' rs' g]::s,x,v::vs,h,i=>by
  simp only[gY]at h;split at h<;>try trivial
  rename_i W;split at h<;>try trivial
  rename_i S;split at h<;>try trivial
  rename_i y j;cases h;subst W;subst S;obtain⟨_,ad,e1,e2,⟨⟨u,m,_,C⟩,_⟩⟩:=i.1;exact⟨v,vs,rfl,⟨ad,u,e1,e2,m,C⟩,xp j i.2⟩
 |.pfn _ _::_,.sptr [.fv _ _ _]::_,_,[],_,i=>i.elim
 |.pk f::r,.sptr [.fn f' []]::s,x,v::vs,h,i=>by
  simp only[gY]at h;split at h<;>try trivial
  rename_i Q;split at h<;>try trivial
  rename_i y j;cases h;subst Q;obtain⟨_,ad,e1,e2,⟨⟨u,m,_,C⟩,_⟩⟩:=i.1;obtain⟨vs0,rfl,N,_⟩:=C;have O:=Array.size_eq_zero_iff.mp N;subst O;exact⟨v,vs,rfl,⟨ad,e1,e2,m⟩,xp j i.2⟩
 |.pk _::_,.sptr [.fn _ []]::_,_,[],_,i=>i.elim
 |[],[],_,_::_,_,i=>i.elim
 |[],_::_,_,_,h,_=>by simp[gY]at h
 |_::_,[],_,_,h,_=>by simp[gY]at h
 |.d _::_,_::_,_,[],_,i=>i.elim
 |.ptr _::_,.sptr _::_,_,[],_,i=>i.elim
 |.fn _ _::_,_::_,_,_,h,_=>by simp[gY]at h
 |.pf _ _::_,_::_,_,_,h,_=>by simp[gY]at h
 |.ptr _::_,.dead::_,_,_,h,_ | .ptr _::_,.int _ _::_,_,_,h,_ | .ptr _::_,.bool _::_,_,_,h,_ | .ptr _::_,.str _::_,_,_,h,_ | .ptr _::_,.nil::_,_,_,h,_
 |.ptr _::_,.sl _ _::_,_,_,h,_ | .ptr _::_,.slx _ _::_,_,_,h,_ | .ptr _::_,.own _::_,_,_,h,_ | .ptr _::_,.ptr _ _::_,_,_,h,_ | .ptr _::_,.fn _ _::_,_,_,h,_ | .ptr _::_,.fv _ _ _::_,_,_,h,_ | .ptr _::_,.pv _ _ _ _::_,_,_,h,_ | .ptr _::_,.mp _::_,_,_,h,_ | .ptr _::_,.fs _ _::_,_,_,h,_=>by simp[gY]at h
def qc5{t u:Ty}(h:t=u){x:t.den}(i:bu w F t x v):bu w F u (GT h x) v:=by subst h;exact i
def Hx:{ps:List Ty} -> {j:List PT} -> {i:List AC} -> {f:aa ps->ag j}->jC ps j i=U f->(x:aa ps) -> {vs m:List Value}->dM w F ps x vs->bj P w F R (i.map .c) m->cJ P w F j (f x) (vs++m)
 |[],j,i,f,h,x,vs,m,C,u=>by
  simp only[jC]at h;split at h;rename_i S q;cases h;cases C;exact xp q u;cases h
 |t::r,.d Q::j,i,f,h,x,vs,m,C,u=>by
  simp only[jC]at h;split at h;rename_i O;split at h;rename_i g hg;cases h;obtain⟨v,H,rfl,q,N⟩:=C;exact⟨v,H++m,rfl,qc5 O q,Hx hg x.2 N u⟩;cases h;cases h
 |_::_,[],_,_,h,_,_,_,_,_=>by simp[jC]at h
 |_::_,.ptr _::_,_,_,h,_,_,_,_,_=>by simp[jC]at h
 |_::_,.fn _ _::_,_,_,h,_,_,_,_,_=>by simp[jC]at h
 |_::_,.pf _ _::_,_,_,h,_,_,_,_,_=>by simp[jC]at h
 |_::_,.pfn _ _::_,_,_,h,_,_,_,_,_=>by simp[jC]at h
 |_::_,.pk _::_,_,_,h,_,_,_,_,_=>by simp[jC]at h
def AX{i:List AC}(m:vs.length=i.length)(h:aN P w F R i (λj u=>vs[j]?= U u)):bj P w F R (i.map .c) vs:=by
 induction i generalizing vs with
 |nil=>cases vs with
  |nil=>trivial
  |cons _ _=>simp at m
 |cons c r C=>cases vs with
  |nil=>simp at m
  |cons v vs=>
   obtain⟨⟨u,e1,e2,q⟩,t⟩:=h;simp at e1;subst e1;exact⟨⟨e2,q⟩,C (by simpa using m) (by simpa using t)⟩
def Uj{rs i:List Ty}(k:rs=i){y:aa rs}{e:Ending}{j m:World}{F1:Nat->Prop}(h:fJ j F1 rs y e m):fJ j F1 i (AY k y) e m:=by subst k;exact h
def qxa{ps i rs j:List Ty}(h:ps=i)(k:rs=j){g:aa ps->aa rs}(m:jy P w F ps rs g v):jy P w F i j (xh h k g) v:=by subst h;subst k;exact m
def cJ.mono(hF:∀ b,F b->F' b)(hw:∀ b,F b->w'.heap[b]?= w.heap[b]?):{ps:List PT} -> {x:ag ps} -> {vs:List Value}->cJ P w F ps x vs->cJ P w' F' ps x vs
 |[],_,_,h=>h
 |p::_,_,_,⟨v,q,H,i,N⟩=>by
  refine⟨v,q,H,?_,cJ.mono hF hw N⟩;cases p with
  |d t=>exact bu.mono hF hw i
  |ptr t=>
   obtain⟨ad,e1,e2,m⟩:=i;refine⟨ad,e1,hF _ e2,m.mono hF hw λj u _ O=>?_⟩;rw[<- O];exact ubc (by rw[qp];exact hw _ e2)
  |fn ps rs=>exact jy.mono hF hw i
  |pf ps rs=>exact lq.mono hF hw i
  |pfn ps rs=>
   obtain⟨ad,u,e1,e2,m,C⟩:=i;refine⟨ad,u,e1,hF _ e2,?_,jy.mono hF hw C⟩;rw[<- m];exact ubc (by rw[qp];exact hw _ e2)
  |pk f=>
   obtain⟨ad,e1,e2,m⟩:=i;refine⟨ad,e1,hF _ e2,?_⟩;rw[<- m];exact ubc (by rw[qp];exact hw _ e2)
def qe7(Q:kN P Γ){ps rs:List Ty}{c:AC}{g:aa ps->aa rs}{n:List Prop}(h:Hw Γ ps rs c=U (g,n))(hn:av n)(W:bc P w F R c v)(_hR:∀ id u,R id u->True):jy P w F ps rs g v:=by
 unfold Hw at h;split at h<;>try trivial
 split at h<;>try trivial
 rename_i H;split at h<;>try trivial
 rename_i t;obtain⟨rfl,_⟩:=h;exact qxa H t W;rename_i f m;split at h<;>try trivial
 rename_i ct q;split at h<;>try trivial
 rename_i t;split at h<;>try trivial
 rename_i mm C;cases h;obtain⟨vs,rfl,e1,e2⟩:=W;obtain⟨s1,s2⟩:=Q.1 f ct q;refine⟨f,vs,rfl,s1,λw1 F1 S hb xs us hx=>?_⟩;have O:=hx.wf;have hc:=aN.mono (λb i=>(S b i).1) (λb i=>(S b i).2) (λ_ _ _=>uT) m (g':=λj u=>vs.toList[j]?= U u) (λj u hu=>by simpa using hu) e2;have N:=Hx C xs hx (AX (by simpa using e1) hc);have:=s2 w1 F1 (mm xs) (us++vs.toList) hb N (hn xs O);have he:(us++vs.toList).toArray=us.toArray++vs:=by simp
 rw[he]at this;exact this.mono λe w2 H=>Uj t H
def qxb{ps i rs j:List Ty}(h:ps=i)(k:rs=j){g:aa ps->aa rs}{D:aa ps->Prop}(m:lq P w F ps rs g D v):lq P w F i j (xh h k g) (OB h D) v:=by subst h;subst k;exact m
def qe8(O:kN P Γ){ps rs:List Ty}{c:AC}{x:(aa ps->aa rs)×(aa ps->Prop)}(h:Hy Γ ps rs c=U x)(S:bc P w F R c v):lq P w F ps rs x.1 x.2 v:=by
 unfold Hy at h;split at h<;>try trivial
 split at h<;>try trivial
 rename_i H;split at h<;>try trivial
 rename_i t;cases h;exact qxb H t S;rename_i f m;split at h<;>try trivial
 rename_i ct q;split at h<;>try trivial
 rename_i t;split at h<;>try trivial
 rename_i mm C;cases h;obtain⟨vs,rfl,e1,e2⟩:=S;obtain⟨s1,s2⟩:=O.1 f ct q;refine⟨f,vs,rfl,s1,λw1 F1 Q hb xs us W hx=>?_⟩;have hc:=aN.mono (λb i=>(Q b i).1) (λb i=>(Q b i).2) (λ_ _ _=>uT) m (g':=λj u=>vs.toList[j]?= U u) (λj u hu=>by simpa using hu) e2;have N:=Hx C xs hx (AX (by simpa using e1) hc);have:=s2 w1 F1 (mm xs) (us++vs.toList) hb N W;have he:(us++vs.toList).toArray=us.toArray++vs:=by simp
 rw[he]at this;exact this.mono λe w2 H=>Uj t H
def mK(m:kN P Γ):{ps:List PT} -> {xs:List AV} -> {x:ag ps} -> {n:List Prop} -> {vs:List Value}->jf Γ ps xs=U (x,n)->av n->bj P w F R xs vs->cJ P w F ps x vs
 |[],[],_,_,[],_,_,_=>rfl
 |p::r,a::s,x,n,v::vs,h,t,j=>by
  simp only[jf]at h;split at h;rename_i y H z N i C;cases h;refine⟨v,vs,rfl,?_,mK m C (jd.1 t).2 j.2⟩;unfold Pl at i;split at i;split at i<;>try trivial
  rename_i q;obtain⟨rfl,_⟩:=i;exact qP q j.1;split at i<;>try trivial
  rename_i q;obtain⟨rfl,_⟩:=i;obtain⟨_,ad,e1,e2,u⟩:=j.1;exact⟨ad,e1,e2,(aA.dec _ q u).1⟩;exact qe7 m i (jd.1 t).1 j.1.2 (λ_ _ _=>uT);split at i<;>try trivial
  rename_i q;obtain⟨rfl,_⟩:=i;exact qe8 m q j.1.2;cases i;cases h
 |[],[],_,_,_::_,_,_,j=>j.elim
 |_::_,_::_,_,_,[],_,_,j=>j.elim
 |[],_::_,_,_,_,h,_,_=>by simp[jf]at h
 |_::_,[],_,_,_,h,_,_=>by simp[jf]at h
def bj.append{xs i:List AV}{us:List Value}(h:bj P w F R xs us)(k:bj P w F R i vs):bj P w F R (xs++i) (us++vs):=by
 induction xs generalizing us with
 |nil=>cases us with
  |nil=>exact k
  |cons _ _=>exact h.elim
 |cons x xs j=>cases us with
  |nil=>exact h.elim
  |cons u us=>exact⟨h.1,j h.2⟩
def GR(t:kN P Γ){k:Int}{args:List AV}(H:∀ b,F b->b<w.heap.size)(W:bj P w F R args vs):{es:List (Int×Nat)} -> {rs:List Ty} -> {y:aa rs} -> {n:List Prop} ->
  mG Γ k args es=U ⟨rs,y,n⟩->av n->∃ f,ie (es.find? (λx=>x.1==k))=.func (.func f) #[] #[]/\(∀ args N,(callFunc f args).run P N=.ok (.enter f args) N)/\Calls P f vs.toArray w (fJ w F rs y)
 |[],_,_,_,h,_=>by simp[mG]at h
 |(i,f)::es,rs,y,n,h,hn=>by
  simp only[mG]at h;split at h<;>try trivial
  rename_i ct Q;split at h<;>try trivial
  rename_i x ns hd;obtain⟨s1,s2⟩:=t.1 f ct Q;have j:k=i->av (ns++ct.ok x)->∃ m,ie (((i,f)::es).find? (λx=>x.1==k))=.func (.func m) #[] #[]/\(∀ args N,(callFunc m args).run P N=.ok (.enter m args) N)/\Calls P m vs.toArray w (fJ w F ct.rs (ct.f x)):=λq hc=>by
   obtain⟨u,C⟩:=jd.1 hc;refine⟨f,by simp[q,ie],s1,s2 w F x vs H (mK t hd u W) C⟩
  split at h;injection h with h
  cases h;obtain⟨u,C⟩:=je.1 hn;exact j u C;split at h<;>try trivial
  rename_i es' _ rs' y' ms hr;split at h<;>try trivial
  rename_i S;cases h;subst S;obtain⟨u,C⟩:=je.1 hn;by_cases q:k=i;obtain⟨m,e1,e2,O⟩:=j q (u q);refine⟨m,e1,e2,?_⟩;have:(k==i)=true:=by simp[q]
  rw[this];exact O;obtain⟨m,e1,e2,O⟩:=GR t H W hr (C q);refine⟨m,?_,e2,?_⟩;rw[<- e1];have:(i==k)=false:=by rw[ubv];omega
  simp[this];have:(k==i)=false:=by rw[ubv];exact q
  rw[this];exact O
def Ws(C:kN P Γ){k:Int}{cs:List AC}{args:List AV}(hg:w.heap[b]?= U (.cells arr ety (0,0)))(hs:arr.size=cs.length)(ho:∀ u∈arr,u.oneCell'=Z)(hc:aN P w F R cs (λj u=>arr[j]?= U u))(Q:bj P w F R args vs):{es:List (Int×Nat)} -> {T:Ty} -> {z:T.den} -> {n:List Prop} ->
  zA Γ k cs args es=U ⟨T,z,n⟩->av n->cs.length=T.size/\∃ f,ie (es.find? (λx=>x.1==k))=.func (.func f) #[] #[]/\(∀ args w2,(callFunc f args).run P w2=.ok (.enter f args) w2) /\
   Calls P f (Value.pointer (U ⟨b,0,V⟩)::vs).toArray w λen w'=>∃ (u:Value) (O:List Value),en=.returned u/\O.length=T.size/\w'=w.setRow b O.toArray/\aA w F T z (λj u=>O[j]?= U u)
 |[],_,_,_,h,_=>by simp[zA]at h
 |(i,f)::es,T,z,n,h,W=>by
  simp only[zA]at h;split at h<;>try trivial
  rename_i H ps g N;have s1:=C.2 f _ N;split at h<;>try trivial
  rename_i x y S hv;have q:cs.length=H.size:=by have:=ku H S;simp at this;omega
  have hx:=(aA.dec H S hc).1;have hy:=lC hv Q;have m:=s1.calls w F b ety arr x y vs hg (by omega) ho hx hy;split at h;injection h with h
  cases h;have t:k=i:=W;exact⟨q,f,by simp[t,ie],s1.enters,m⟩;split at h<;>try trivial
  rename_i es' _ T' z' ms hr;split at h<;>try trivial
  rename_i hT;subst hT;cases h;by_cases t:k=i;refine⟨q,f,by simp[t,ie],s1.enters,?_⟩;have:(k==i)=true:=by simp[t]
  rw[this];exact m;obtain⟨_,f',e1,e2,e3⟩:=Ws C hg hs ho hc Q hr (W t);refine⟨q,f',?_,e2,?_⟩;rw[<- e1];have:(i==k)=false:=by rw[ubv];omega
  simp[this];have:(k==i)=false:=by rw[ubv];exact t
  rw[this];exact e3
def qc3(q:kN P Γ){x:AV}{args:List AV}{r:AV}{n:List Prop}(h:GS Γ x args=U (r,n))(C:av n)(j:∀ b,F b->b<w.heap.size)(H:aE P w F R x vx)(u:bj P w F R args vs):∃ f i,vx=.func (.func f) #[] i/\(∀ args W,(callFunc f args).run P W=.ok (.enter f args) W) /\
   ∃ rs y,r=jg rs y/\Calls P f (vs.toArray++i) w (fJ w F rs y):=by
 unfold GS at h;split at h<;>try trivial
 rename_i f i;obtain⟨_,t,rfl,e1,e2⟩:=H;unfold O7 at h;split at h<;>try trivial
 rename_i ct N;split at h<;>try trivial
 rename_i y n1 m;cases h;obtain⟨s1,s2⟩:=q.1 f ct N;refine⟨f,t,rfl,s1,ct.rs,ct.f y,rfl,?_⟩;have Q:=mK q m (jd.1 C).1 (u.append (AX (vs:=t.toList) (by simpa using e1) (by simpa using e2)));have:=s2 w F y (vs++t.toList) j Q (jd.1 C).2;have he:(vs++t.toList).toArray=vs.toArray++t:=by simp
 rw[he]at this;exact this;rename_i ps rs g;split at h<;>try trivial
 rename_i y m;cases h;have O:=H.2;obtain⟨f,i,rfl,s1,s2⟩:=O;exact⟨f,i,rfl,s1,rs,g y,rfl,s2 w F (λb hb=>⟨hb,rfl⟩) j y vs (lC m u)⟩;rename_i ps rs g D;split at h<;>try trivial
 rename_i y m;cases h;have O:=H.2;obtain⟨f,i,rfl,s1,s2⟩:=O;exact⟨f,i,rfl,s1,rs,g y,rfl,s2 w F (λb hb=>⟨hb,rfl⟩) j y vs C (lC m u)⟩;rename_i es k;split at h<;>try trivial
 rename_i rs y ns m;cases h;have S:=H.2;simp only[bc]at S;obtain⟨f,e1,e2,e3⟩:=GR q j u m C;rw[e1]at S;exact⟨f,#[],S,e2,rs,y,rfl,by simpa using e3⟩
end
section
variable {P:Program} {B:Nat} {o:Oper} {a:Act} {w w':World} {F F':Nat->Prop} {γ γ':Nat->Value} {M m:aT} {R:Nat->Value->Prop} {Γ:Gm}
def cL{S:Sem Value}(i:execOp a.eval o=(do pure (.value (<- S)):Sem Next))(j:S.run P w=.ok u w'):(execOp a.eval o).run P w=.ok (.value u) w':=by
 rw[i];simp[j]
def qwf{p:Bool}{x y r:AV}(h:yA p x y=U r)(i:p=Z->aE P w F R x u)(j:p=Y->aE P w F R y v):aE P w F R r (if p then u else v):=by
 unfold yA at h;split at h<;>try trivial
 cases h;cases p;exact⟨(j rfl).1,(j rfl).2⟩;exact⟨(i rfl).1,(i rfl).2⟩;split at h<;>try trivial
 rename_i m;subst m;cases h;cases p;exact⟨(j rfl).1,(j rfl).2⟩;exact⟨(i rfl).1,(i rfl).2⟩
def ST:{r:List AV} -> {x y:Int} -> {vs:List Value}->r8 k x r=U y->inR k x->bj P w F R r vs->(vs.foldlM (m:=Sem) Builtin.min2 (.int k x)).run P w=.ok (.int k y) w/\inR k y
 |[],x,y,[],h,q,_=>by
  simp only[r8,uck]at h;subst h;exact⟨by simp,q⟩
 |.c (.int H z)::r,x,y,v::vs,h,q,i=>by
  simp only[r8]at h;split at h<;>try trivial
  rename_i C;subst C;obtain⟨⟨_,rfl,hz⟩,i⟩:=i;have j:inR k (if z<x then z else x):=by split<;>assumption
  obtain⟨t,u⟩:=ST h j i;refine⟨?_,u⟩;simp[Builtin.min2,t]
 |[],_,_,_::_,_,_,i=>i.elim
 |_::_,_,_,[],_,_,i=>i.elim
 |.dead::_,_,_,_::_,h,_,_ | .agg _::_,_,_,_::_,h,_,_ | .tup _::_,_,_,_::_,h,_,_ | .optr _ _ _ _::_,_,_,_::_,h,_,_ | .aptr _ _ _::_,_,_,_::_,h,_,_ | .maybe _ _ _::_,_,_,_::_,h,_,_=>by simp[r8]at h
 |.c .dead::_,_,_,_::_,h,_,_ | .c (.bool _)::_,_,_,_::_,h,_,_ | .c (.str _)::_,_,_,_::_,h,_,_ | .c .nil::_,_,_,_::_,h,_,_ | .c (.sl _ _)::_,_,_,_::_,h,_,_
 |.c (.slx _ _)::_,_,_,_::_,h,_,_ | .c (.own _)::_,_,_,_::_,h,_,_ | .c (.ptr _ _)::_,_,_,_::_,h,_,_ | .c (.sptr _)::_,_,_,_::_,h,_,_ | .c (.fn _ _)::_,_,_,_::_,h,_,_ | .c (.fv _ _ _)::_,_,_,_::_,h,_,_ | .c (.pv _ _ _ _)::_,_,_,_::_,h,_,_ | .c (.mp _)::_,_,_,_::_,h,_,_ | .c (.fs _ _)::_,_,_,_::_,h,_,_=>by simp[r8]at h
def SN:{r:List AV} -> {x y:Int} -> {vs:List Value}->rz k x r=U y->inR k x->bj P w F R r vs->(vs.foldlM (m:=Sem) Builtin.max2 (.int k x)).run P w=.ok (.int k y) w/\inR k y
 |[],x,y,[],h,q,_=>by
  simp only[rz,uck]at h;subst h;exact⟨by simp,q⟩
 |.c (.int H z)::r,x,y,v::vs,h,q,i=>by
  simp only[rz]at h;split at h<;>try trivial
  rename_i C;subst C;obtain⟨⟨_,rfl,hz⟩,i⟩:=i;have j:inR k (if x<z then z else x):=by split<;>assumption
  obtain⟨t,u⟩:=SN h j i;refine⟨?_,u⟩;simp[Builtin.max2,t]
 |[],_,_,_::_,_,_,i=>i.elim
 |_::_,_,_,[],_,_,i=>i.elim
 |.dead::_,_,_,_::_,h,_,_ | .agg _::_,_,_,_::_,h,_,_ | .tup _::_,_,_,_::_,h,_,_ | .optr _ _ _ _::_,_,_,_::_,h,_,_ | .aptr _ _ _::_,_,_,_::_,h,_,_ | .maybe _ _ _::_,_,_,_::_,h,_,_=>by simp[rz]at h
 |.c .dead::_,_,_,_::_,h,_,_ | .c (.bool _)::_,_,_,_::_,h,_,_ | .c (.str _)::_,_,_,_::_,h,_,_ | .c .nil::_,_,_,_::_,h,_,_ | .c (.sl _ _)::_,_,_,_::_,h,_,_
 |.c (.slx _ _)::_,_,_,_::_,h,_,_ | .c (.own _)::_,_,_,_::_,h,_,_ | .c (.ptr _ _)::_,_,_,_::_,h,_,_ | .c (.sptr _)::_,_,_,_::_,h,_,_ | .c (.fn _ _)::_,_,_,_::_,h,_,_ | .c (.fv _ _ _)::_,_,_,_::_,h,_,_ | .c (.pv _ _ _ _)::_,_,_,_::_,h,_,_ | .c (.mp _)::_,_,_,_::_,h,_,_ | .c (.fs _ _)::_,_,_,_::_,h,_,_=>by simp[rz]at h
def Ex:{u:List (Nat×Ob)} -> {m M:aT}->(∀ i y,m i=U y->M i=U y)->∀ i y,ax m u i=U y->ax M u i=U y
 |[],_,_,h=>h
 |(id,ob)::r,m,M,h=>Ex (u:=r) λi y j=>by
  by_cases hi:i=id;subst hi;rw[iX]at j |-;exact j;rw[fa _ _ hi]at j |-;exact h i y j
def QI{id:Nat}{e2:TypeId}{cs cs' Q:List AC}{u:List (Nat×Ob)}(hm:MemOK P B w F γ M)(hb:∀ b,F b->b<w.heap.size)(t:∀ i y,m i=U y->M i=U y)(S:m id=U (.box e cs))(h:jr m cs=U (cs',u))(O:ax m u id=U (.box e2 Q)):
  ∃ F' b,γ id=.pointer (U ⟨b,0,V⟩)/\F' b/\Step B w F γ M w F' γ (ax M (u++[(id,.fbox cs')]))/\MemOK P B w F' γ (ax M (u++[(id,.fbox cs')])) /\
   aN P w F' (ap (ax M (u++[(id,.fbox cs')])) γ) cs' (λj u=>w.cell? ⟨b,j,V⟩=U u):=by
 obtain⟨b,arr,e1,N,e3,e4,e5,e6⟩:=hm.ob id _ (t _ _ S);obtain⟨F1,s1,m1,t1,l1,r1⟩:=yR hm hb (cX.of t) h e6;have H:=Ex t _ _ O;obtain⟨b',arr',f1,f2,f3,f4,f5,f6⟩:=m1.ob id _ H;rw[e1]at f1;simp at f1;have C:Step B w F1 γ (ax M u) w (λc=>F1 c\/c=b) γ (upd (ax M u) id (.fbox cs')):=
  ⟨λc h=>.inl h,λ_ _=>rfl,nx H (by simp),λ_ _=>rfl,rfl,rfl,rfl,ue6 _,λc h=>h.elim (s1.bd c) (λh=>by subst h;exact(uaf.1 N).1),λc h=>h.elim .inl (λh=>.inr (by omega))⟩
 have q:aN P w (λc=>F1 c\/c=b) (ap (upd (ax M u) id (.fbox cs')) γ) cs' (λj u=>w.cell? ⟨b,j,V⟩=U u):=
  (C.repCL r1).turn λj v _ hv=>by rw[tG N];exact hv
 have W:MemOK P B w (λc=>F1 c\/c=b) γ (upd (ax M u) id (.fbox cs')):=by
  refine m1.change H (by simp) C.hF C.hw (λc h=>h.elim) (λc _ hne=>⟨rfl,λh=>h.elim (λh=>h) (λh=>absurd ⟨_,e1,h.symm⟩ hne)⟩) ?_;exact⟨b,e1,Or.inr rfl,q⟩
 refine⟨λc=>F1 c\/c=b,b,e1,Or.inr rfl,?_,?_,?_⟩;rw[gc];exact s1.trans C;rw[gc];exact W;rw[gc];exact q
def D6:{xs:List AV} -> {cs:List AC} -> {u:List (Nat×Ob)} -> {m M:aT} -> {F:Nat->Prop} -> {vs:List Value}->MemOK P B w F γ M->(∀ b,F b->b<w.heap.size)->(∀ i y,m i=U y->M i=U y)->vO m xs=U (cs,u)->bj P w F (ap M γ) xs vs ->
  ∃ F',Step B w F γ M w F' γ (ax M u)/\MemOK P B w F' γ (ax M u)/\bj P w F' (ap (ax M u) γ) (cs.map .c) vs
 |[],cs,u,m,M,F,[],O,hb,H,h,q=>by
  obtain⟨rfl,rfl⟩:=h;exact⟨F,Step.refl hb,O,uT⟩
 |x::r,cs,u,m,M,F,v::vs,O,hb,H,h,q=>by
  unfold vO at h;split at h;rename_i t;cases t;rename_i id r' t;cases t;split at h<;>try trivial
  rename_i e cs0 C;split at h<;>try trivial
  rename_i cs' u1 N;split at h<;>try trivial
  rename_i e2 cs2 Q;split at h<;>try trivial
  rename_i y v2 S;cases h;obtain⟨F1,b,g1,g2,s1,m1,r1⟩:=QI O hb H C N Q;obtain⟨F2,s2,W,r2⟩:=D6 m1 s1.bd (Ex H) S (zE s1.hF s1.hw s1.hR q.2);obtain⟨_,b',q1,rfl⟩:=q.1;have hb':b'=b:=by
   unfold ap at q1;rw[H _ _ C]at q1;simp only[g1,ubs,uck,Addr.mk.injEq,and_true]at q1;exact q1
  subst hb';rw[gc];refine⟨F2,s1.trans s2,W,⟨rfl,⟨b',0,V⟩,rfl,s2.hF _ g2,s2.repCL (r1.turn λj u _ hu=>?_)⟩,r2⟩;rw[i8,ueu];exact hu;rename_i cs0 C;split at h<;>try trivial
  rename_i y v2 S;cases h;obtain⟨b,g1,g2,r1⟩:=HH O (H _ _ C) q.1.2;obtain⟨F2,s2,W,r2⟩:=D6 O hb H S q.2;subst g1;refine⟨F2,s2,W,⟨rfl,⟨b,0,V⟩,rfl,s2.hF _ g2,s2.repCL (r1.turn λj u _ hu=>?_)⟩,r2⟩;rw[i8,ueu];exact hu;rename_i c r' _ t;cases t;split at h<;>try trivial
  rename_i y u1 N;split at h<;>try trivial
  rename_i z v2 S;cases h;obtain⟨F1,s1,m1,t1,r1⟩:=D5 O hb (cX.of H) N q.1.2;obtain⟨F2,s2,W,r2⟩:=D6 m1 s1.bd (Ex H) S (zE s1.hF s1.hw s1.hR q.2);rw[gc];exact⟨F2,s1.trans s2,W,⟨q.1.1,bc.mono s2.hF s2.hw s2.hR _ r1⟩,r2⟩;cases h
 |[],_,_,_,_,_,_::_,_,_,_,_,q=>q.elim
 |_::_,_,_,_,_,_,[],_,_,_,_,q=>q.elim
def qc4{cs:List AC}(h:bj P w F R (cs.map .c) vs):vs.length=cs.length/\aN P w F R cs (λj u=>vs[j]?= U u):=by
 induction cs generalizing vs with
 |nil=>cases vs with
  |nil=>exact⟨rfl,uT⟩
  |cons _ _=>exact h.elim
 |cons c r q=>cases vs with
  |nil=>exact h.elim
  |cons v vs=>
   obtain⟨i,m⟩:=q h.2;exact⟨by simp[i],⟨v,rfl,h.1.1,h.1.2⟩,by simpa using m⟩
def bU.take{t:Ty}{l:List t.den}(h:bU w F t l xs)(i:Nat):bU w F t (l.take i) (xs.take (i*t.size)):=by
 intro j x q;rw[ub1]at q;split at q;rename_i C;refine(h j x q).mono (λ_ h=>h) (λ_ _=>rfl) λm u N H=>?_;have:j*t.size+t.size<=i*t.size:=by rw[<- uet];exact ubd _ C
 rw[ub1,if_pos (by omega)];exact H;cases q
def bU.drop{t:Ty}{l:List t.den}(h:bU w F t l xs)(i:Nat):bU w F t (l.drop i) (xs.drop (i*t.size)):=by
 intro j x q;rw[ub0]at q;refine(h (i+j) x q).mono (λ_ h=>h) (λ_ _=>rfl) λm u H C=>?_;rw[ub0,<- C,ue8,uee]
def qya{j:String}(h:CH P j ty=U f)(u:Value)(t:Array Value):(callMethod (.iface ty u) j t).run P w=(callFunc f (#[u]++t)).run P w:=by
 unfold CH at h
 split at h<;>try (cases h;done)
 rename_i i fs hi Q
 split at h<;>try (cases h;done)
 rename_i S m
 split at h<;>try (cases h;done)
 rename_i F N
 split at h<;>try (cases h;done)
 rename_i O
 simp at h
 subst h
 have q:S.path = #[]:=by simpa using O
 have C:(method (P.types.size+Made.depth-1+1) ty u j).run P w=.ok (F,u) w:=by
  simp[method,typeInfo,hi,m,q,N,follow,receiverAt,ud2 Q,Place.get]
 have H:P.types.size+Made.depth-1+1=P.types.size+Made.depth:=by unfold Made.depth;omega
 rw[H]at C
 simp only[callMethod,uep,run_program,ucl]
 rw[C]
 simp
def IN{i:String}{k:Int}:{es fs:List (Int×Nat)} -> {p:Int×Nat}->xY P i es=U fs->fs.find? (λx=>x.1==k)=U p->∃ ty,cD es k=U ty/\CH P i ty=U p.2
 |[],fs,p,h,j=>by
  simp only[xY,uck]at h;subst h;cases j
 |(w,ty)::es,fs,p,h,j=>by
  simp only[xY]at h;split at h<;>try trivial
  rename_i f q C F;cases h;cases m:(w==k);have t:q.find? (λx=>x.1==k)=U p:=by simpa[m]using j
  obtain⟨u,e1,e2⟩:=IN F t;refine⟨u,?_,e2⟩;unfold cD at e1 |-;simpa[m]using e1;have H:(w,f)=p:=by simpa[m]using j
  subst H;exact⟨ty,by simp[cD,m],C⟩
def O9{k:Int}{args:List AV}:{es:List (Int×Nat)} -> {rs:List Ty} -> {y:aa rs} -> {n:List Prop}->mG Γ k args es=U ⟨rs,y,n⟩->av n->∃ p,es.find? (λx=>x.1==k)=U p
 |[],_,_,_,h,_=>by simp[mG]at h
 |(i,f)::es,rs,y,n,h,q=>by
  by_cases j:k=i;exact⟨(i,f),by simp[j]⟩;have m:(i==k)=false:=by rw[ubv];omega
  simp only[mG]at h;split at h<;>try trivial
  split at h<;>try trivial
  split at h;injection h with h
  cases h;exact absurd (je.1 q).1 j;split at h<;>try trivial
  rename_i u _ F N ms C;split at h<;>try trivial
  cases h;obtain⟨H,t⟩:=je.1 q;obtain⟨p,w⟩:=O9 C (t j);exact⟨p,by simpa[m]using w⟩
def qnk(h:ya P t=Z):∃ ms,P.underlying t=U (.interface ms):=by
 unfold ya at h;split at h;rename_i ms i;exact⟨ms,i⟩;cases h
def qnl{ms:Array (String×TypeId)}(i:P.underlying t=U (.interface ms)):(Op.equalIn (d+1) t (.iface ty u) .nilIface).run P w=.ok Y w:=by
 simp[Op.equalIn,ud2 i]
def qnm{ms:Array (String×TypeId)}(i:P.underlying t=U (.interface ms)):(Op.equalIn (d+1) t .nilIface .nilIface).run P w=.ok Z w:=by
 simp[Op.equalIn,ud2 i]
def Cj{es:List (Int×Nat)}{t:Ty}{x:Int×t.den}(h:bc P w F R (.ic es t x) v):(∃ ty u,cD es x.1=U ty/\v=.iface ty u/\bu w F t x.2 u)\/(cD es x.1=V/\v=.nilIface):=by
 rcases h with ⟨ty,u,i,j,m,q,C⟩|⟨i,j⟩
 exact .inl ⟨ty,u,i,j.symm,m,q,C⟩;exact .inr ⟨i,j.symm⟩
def rD{B':Nat}{size:Nat}(h:w.ownsRow B e size v n xs)(hb:∀ g,v.ownBlock=U g->B'<=g):w.ownsRow B' e size v n xs:=by
 refine⟨h.1,h.2.imp id ?_⟩;rintro⟨g,i,cur,rfl,_,rest⟩;exact⟨g,i,cur,rfl,hb g rfl,rest⟩
def qvw{a:Nat}{e1 e2:TypeId}{j m:Ty}{l:List j.den}{x:List m.den}(u:MemOK P B w F γ M)(i:a≠b)(q:M a=U (.arr e1 j l))(t:M b=U (.arr e2 m x)):
  ∀ g,(γ b).ownBlock=U g->(γ a).ownBlock≠U g:=λg hg hc=>u.apart b a _ _ g (λe=>i e.symm) t q (.inl hg) (.inl hc)
def qx1{r:Row}{args:List AV}{e:Eff}(S:zZ P f r)(hm:MemOK P B w F γ M)(hb:∀ b,F b->b<w.heap.size)(hB:B<=w.heap.size)(N:∀ i y,m i=U y->M i=U y)(hd:m d=V->M d=V)(h:K5 r d args m=U e)(hn:av e.need)(hr:bj P w F (ap M γ) args vs):
  (∀ as w,(callFunc f as).run P w=.ok (.enter f as) w)/\Calls P f vs.toArray w λen w'=>∃ u γ',en=.returned u/\Step B w F γ M w' F γ' (ax M e.wr)/\MemOK P B w' F γ' (ax M e.wr)/\aE P w' F (ap (ax M e.wr) γ') e.v u:=by
 unfold K5 at h;split at h<;>try trivial
 rename_i e0 T bytes a hmd;split at h<;>try trivial
 rename_i t1 l hl;split at h<;>try trivial
 rename_i h1;subst h1;split at h<;>try trivial
 rename_i t;cases h
 match vs,hr with
 |[v1],⟨⟨_,hv1⟩,_⟩=>
  obtain⟨A,c,xs,rfl,hc,hA,hxl,hxr,hxc⟩:=Sz hm N hl hv1;refine⟨S.enters,(S.calls w l.length c A xs hc (λe=>by rw[hA e];rfl) hxl hxc (yQ hxr hxl) hn.1 hn.2).mono λen w2 hp=>?_⟩;obtain⟨v',rfl,H,q⟩:=hp;have W:=λb Q=>H.block b (hb b Q) (by simp);have hlow:=rD q λg hg=>uel hB (q.lt g hg).1;obtain⟨s1,m1⟩:=uN hm hb hB (hd hmd) H hlow (λg hg=>(q.lt g hg).1) (bU.mono (λ_ h=>h) W hxr) t;exact⟨v',_,rfl,s1,m1,lP (kT q)⟩
 rename_i e0 T bytes a i b hmd;split at h<;>try trivial
 rename_i e1 t1 l e2 C x hma hmb;split at h<;>try trivial
 rename_i h1;subst h1;split at h<;>try trivial
 rename_i h2;subst h2;split at h<;>try trivial
 rename_i he;obtain⟨t,rfl,rfl,hab⟩:=he;cases h;obtain⟨⟨h0,h0'⟩,hm1,h63,hby⟩:=hn
 match vs,hr with
 |[v1,v2,v3],⟨⟨_,hv1⟩,⟨_,hv2⟩,⟨_,hv3⟩,_⟩=>
  have O:=N _ _ hma;have hMb:=N _ _ hmb;have g1:=ez O (by simp) hv1;have g3:=ez hMb (by simp) hv3;have g2:=hv2.1;subst g1 g3 g2;obtain⟨j,rfl⟩:∃ j:Nat,i=j:=⟨i.toNat,by omega⟩;obtain⟨xs,q1,q2,q3,q4⟩:=gg.of (hm.ob a _ O) t;obtain⟨ns,r1,r2,r3,r4⟩:=gg.of (hm.ob b _ hMb) t;have r1':=r1;rw[hm1]at r1';refine⟨S.enters,(S.calls w B l.length j (γ a) (γ b) xs ns hB q1 r1' (qvw hm hab O hMb) (by omega) q4 r4 h63 hby).mono λen w2 hp=>?_⟩;obtain⟨v',rfl,H,q,hbl⟩:=hp;have W:=λb Q=>H.block b (hb b Q) (λhe=>q2 b he.symm Q);have hrows:bU w2 F C (kL (j:Int) (cA rfl l) (cA rfl x)) (xs.take (j*C.size)++ns++xs.drop (j*C.size)):=by
   have hc:kL (j:Int) (cA (rfl:C=C) l) (cA (rfl:C=C) x)=l.take j++x++l.drop j:=rfl;rw[hc];have t:(xs.take (j*C.size)).length=(l.take j).length*C.size:=by
    rw[uc3,uc3,q1.1,udm (show j<=l.length by omega),udm (ubd _ (show j<=l.length by omega))]
   refine bU.mono (λ_ h=>h) W (bU.append (bU.append (q3.take j) t r3) ?_ (q3.drop j));rw[ub5,ub5,t,r1.1,ue8]
  have hlen:(kL (j:Int) (cA (rfl:C=C) l) (cA (rfl:C=C) x)).length=l.length+1:=by
   show(l.take j++x++l.drop j).length=_;simp;omega
  rw[<- hlen]at q;obtain⟨s1,m1⟩:=CJ hm hb hB O (hd hmd) H q (hbl.elim .inl (λh=>.inr (.inl h))) hrows t t;exact⟨v',_,rfl,s1,m1,lP (kT q)⟩
end
section
variable {P:Program} {B:Nat} {o:Oper} {a:Act} {w w':World} {F F':Nat->Prop} {γ γ':Nat->Value} {M m:aT} {R:Nat->Value->Prop} {Γ:Gm}
def Ty.atom:Ty->Bool
 |.unit | .pair _ _=>Y
 |_=>Z
def oE{t:Ty}(i:t.atom=Z){cs:List AC}{x:t.den}{r:List AC}(h:dec t cs=U (x,r)):∃ c,cs=c::r/\dec t [c]=U (x,[]):=by
 cases t with
 |unit=>cases i
 |pair _ _=>cases i
 |int k=>
  simp only[dec,oB]at h |-;split at h<;>try trivial
  split at h<;>try trivial
  cases h;exact⟨_,rfl,by simp[*]⟩
 |bool=>
  simp only[dec,oA]at h |-;split at h<;>try trivial
  cases h;exact⟨_,rfl,by simp⟩
 |str=>
  simp only[dec,oD]at h |-;split at h<;>try trivial
  cases h;exact⟨_,rfl,by simp⟩
 |sl e=>
  simp only[dec,oC]at h |-;split at h<;>try trivial
  split at h<;>try trivial
  rename_i i;subst i;cases h;exact⟨_,rfl,by simp⟩;split at h<;>try trivial
  rename_i i;subst i;cases h;exact⟨_,rfl,by simp⟩;cases h;exact⟨_,rfl,by simp⟩
 |fm es=>
  simp only[dec,qO]at h |-;split at h<;>try trivial
  split at h<;>try trivial
  cases h;exact⟨_,rfl,by simp[*]⟩
 |ic es t=>
  simp only[dec,qN]at h |-;split at h<;>try trivial
  split at h<;>try trivial
  rename_i i;subst i;split at h<;>try trivial
  cases h;exact⟨_,rfl,by simp[*]⟩
 |fc f=>
  simp only[dec,qM]at h |-;split at h<;>try trivial
  split at h<;>try trivial
  cases h;exact⟨_,rfl,by simp[*]⟩;split at h<;>try trivial
  cases h;exact⟨_,rfl,by simp[*]⟩
def qgk{t:Ty}(i:t.atom=Z)(x:t.den):∃ c,enc t x=[c]:=by
 cases t with
 |unit=>cases i
 |pair _ _=>cases i
 |fc f=>cases f<;>exact⟨_,rfl⟩
 |_=>exact⟨_,rfl⟩
def oF:(t:Ty) -> {cs:List AC} -> {x:t.den} -> {r:List AC}->dec t cs=U (x,r)->∀ (k:Nat) (c:AC),(enc t x)[k]?= U c->∃ (c0:AC) (j:Ty) (x1:j.den),cs[k]?= U c0/\j.atom=Z/\dec j [c0]=U (x1,[])/\enc j x1=[c]
 |.unit,_,_,_,_,k,c,hc=>by simp[enc]at hc
 |.pair t u,cs,x,r,h,k,c,hc=>by
  simp only[dec]at h;split at h<;>try trivial
  rename_i x1 H m;split at h<;>try trivial
  rename_i x2 P q;cases h;have S:=ku t m;rcases uem k (enc t x1).length with w|w
  simp only[enc]at hc;rw[uaj w]at hc;exact oF t m k c hc;simp only[enc]at hc;rw[uae w]at hc;obtain⟨c0,j,y,C,N⟩:=oF u q _ c hc;refine⟨c0,j,y,?_,N⟩;rw[fl]at C w;have O:H=cs.drop t.size:=dec_drop t m;rw[O,ub0]at C;rw[<- C];congr 1;omega
 |.int i,cs,x,r,h,k,c,hc=>atomCase (t:=.int i) rfl h hc
 |.bool,cs,x,r,h,k,c,hc=>atomCase (t:=.bool) rfl h hc
 |.str,cs,x,r,h,k,c,hc=>atomCase (t:=.str) rfl h hc
 |.sl e,cs,x,r,h,k,c,hc=>atomCase (t:=.sl e) rfl h hc
 |.fm es,cs,x,r,h,k,c,hc=>atomCase (t:=.fm es) rfl h hc
 |.ic es t,cs,x,r,h,k,c,hc=>atomCase (t:=.ic es t) rfl h hc
 |.fc f,cs,x,r,h,k,c,hc=>atomCase (t:=.fc f) rfl h hc
where
 atomCase {t:Ty} (F:t.atom=Z) {cs:List AC} {x:t.den} {r:List AC} (h:dec t cs=U (x,r)) {k:Nat} {c:AC} (hc:(enc t x)[k]?= U c):∃ (c0:AC) (j:Ty) (x1:j.den),cs[k]?= U c0/\j.atom=Z/\dec j [c0]=U (x1,[])/\enc j x1=[c]:=by
  obtain⟨c0,rfl,m⟩:=oE F h;obtain⟨Q,q⟩:=qgk F x;rw[q]at hc;cases k with
  |zero=>
   simp at hc;subst hc;exact⟨c0,t,x,rfl,F,m,q⟩
  |succ k=>simp at hc
 dec_drop:(t:Ty) -> {cs:List AC} -> {x:t.den} -> {r:List AC}->dec t cs=U (x,r)->r=cs.drop t.size
  |.unit,_,_,_,h=>by
   simp only[dec,uck,ued]at h;simp[Ty.size,h.2]
  |.pair t u,cs,x,r,h=>by
   simp only[dec]at h;split at h<;>try trivial
   rename_i x1 H m;split at h<;>try trivial
   rename_i x2 P q;cases h;rw[dec_drop u q,dec_drop t m,List.drop_drop];rfl
  |.int i,cs,x,r,h=>by obtain⟨c0,rfl,_⟩:=oE (t:=.int i) rfl h;rfl
  |.bool,cs,x,r,h=>by obtain⟨c0,rfl,_⟩:=oE (t:=.bool) rfl h;rfl
  |.str,cs,x,r,h=>by obtain⟨c0,rfl,_⟩:=oE (t:=.str) rfl h;rfl
  |.sl e,cs,x,r,h=>by obtain⟨c0,rfl,_⟩:=oE (t:=.sl e) rfl h;rfl
  |.fm es,cs,x,r,h=>by obtain⟨c0,rfl,_⟩:=oE (t:=.fm es) rfl h;rfl
  |.ic es t,cs,x,r,h=>by obtain⟨c0,rfl,_⟩:=oE (t:=.ic es t) rfl h;rfl
  |.fc f,cs,x,r,h=>by obtain⟨c0,rfl,_⟩:=oE (t:=.fc f) rfl h;rfl
def Pm{i j:Ty}{l:List j.den}{x1:i.den}(m:i.atom=Z)(h:dec i [.sl j l]=U (x1,[])):enc i x1=[.sl j l]:=by
 cases i with
 |sl e=>
  simp only[dec,oC]at h;split at h<;>try trivial
  rename_i q;subst q;cases h;rfl
 |unit=>cases m
 |pair _ _=>cases m
 |int k=>simp[dec,oB]at h
 |bool=>simp[dec,oA]at h
 |str=>simp[dec,oD]at h
 |fm es=>simp[dec,qO]at h
 |ic es t=>simp[dec,qN]at h
 |fc f=>simp[dec,qM]at h
def qe9{i:Ty}{x1:i.den}(j:i.atom=Z)(h:dec i [.nil]=U (x1,[])):∃ m,enc i x1=[.sl m []]:=by
 cases i with
 |sl e=>
  simp only[dec,oC]at h;cases h;exact⟨e,rfl⟩
 |unit=>cases j
 |pair _ _=>cases j
 |int k=>simp[dec,oB]at h
 |bool=>simp[dec,oA]at h
 |str=>simp[dec,oD]at h
 |fm es=>simp[dec,qO]at h
 |ic es t=>simp[dec,qN]at h
 |fc f=>simp[dec,qM]at h
def Fy{i:Ty}{x1:i.den}{c0 c:AC}(h:dec i [c0]=U (x1,[]))(C:enc i x1=[c])(H:u.oneCell'=Z)(N:bc P w F R c0 u):bc P w F (λ_ _=>False) c u:=by
 have q:aA w F i x1 (λj v=>j=0/\v=u):=(aA.dec (P:=P) (R:=R) i h ⟨⟨u,⟨rfl,rfl⟩,H,N⟩,uT⟩).1;have m:=aA.enc (P:=P) (R:=λ_ _=>False) i x1 q;rw[C]at m;obtain⟨⟨O,⟨_,rfl⟩,_,t⟩,_⟩:=m;exact t
def Ew(ks:List Nat)(d:Nat)(O:Ob)(M:aT)(i:Nat):ax M (ks.map (λk=>(k,Ob.gone))++[(d,O)]) i=if i=d then U O else if i∈ks then U .gone else M i:=by
 rw[gc];show upd _ d O i=_;unfold upd;by_cases m:i=d;simp[m];simp only[if_neg m]
 induction ks generalizing M with
 |nil=>simp[ax]
 |cons k ks q=>
  simp only[ueh,ax];rw[q];by_cases j:i∈ks;simp[j];simp only[if_neg j,uef,j,or_false];unfold upd;rfl
def MemOK.mk_(h:MemOK P B w F γ M)(ks:List Nat){O:Ob}(hd:M d=V)(hks:∀ k∈ks,∃ o,M k=U o)(hO:O ≠ .gone)(hbd:∀ b,F b->b<w.heap.size)(hB:B<=w.heap.size)(hw:∀ b,F b->w'.heap[b]?= w.heap[b]?)(hos:w'.os=w.os)(htp:w'.tape=w.tape)(S:w'.output=w.output)(W:w.heap.size<=w'.heap.size)(q:∀ b,b<w.heap.size->(∀ k o,k∈ks->M k=U o->¬ bK w o (γ k) b)->w'.heap[b]?= w.heap[b]?)(Q:fI P B w' F (λ_ _=>False) v O)(hex:∀ b,bK w' O v b->(∃ k o,k∈ks/\M k=U o/\bK w o (γ k) b)\/w.heap.size<=b):
  Step B w F γ M w' F (cU γ d v) (ax M (ks.map (λk=>(k,Ob.gone))++[(d,O)]))/\MemOK P B w' F (cU γ d v) (ax M (ks.map (λk=>(k,Ob.gone))++[(d,O)])):=by
 have hdk:d ∉ ks:=λC=>by obtain⟨o,N⟩:=hks d C;rw[hd]at N;cases N
 have hR:∀ i u,ap M γ i u->ap (ax M (ks.map (λk=>(k,Ob.gone))++[(d,O)])) (cU γ d v) i u:=λi u hu=>by
  unfold ap at hu |-;rw[Ew];by_cases hi:i=d;subst hi;rw[hd]at hu;exact hu.elim;rw[if_neg hi];by_cases C:i∈ks;simp[C];rw[if_neg C,eC _ _ hi];exact hu
 refine⟨⟨λ_ h=>h,hw,hR,λb hb=>?_,hos,htp,S,W,λb hb=>uca (hbd b hb) W,λ_ h=>.inl h⟩,?_⟩;exact q b (by omega) λk o C N t=>by have:=(gZ (h.ob k o N) t).2.2;omega
 have m:∀ i o,(i∈ks\/i=d)->ax M (ks.map (λk=>(k,Ob.gone))++[(d,O)]) i=U o->(i=d/\o=O)\/(i≠d/\o=.gone):=λi o H hi=>by
  rw[Ew]at hi;by_cases t:i=d;rw[if_pos t]at hi;exact .inl ⟨t,(ud0 hi).symm⟩;rw[if_neg t,if_pos (H.resolve_right t)]at hi;exact .inr ⟨t,(ud0 hi).symm⟩
 refine h.re (λi=>i∈ks\/i=d) (λi hi=>?_) (λi hi=>eC _ _ (λe=>hi (.inr e))) hw hR (λb hb hn=>q b hb λk o C N=>hn k o (.inl C) N) ?_ ?_ ?_;rw[Ew,if_neg (λe=>hi (.inr e)),if_neg (λe=>hi (.inl e))];intro i o H hi;rcases m i o H hi with ⟨rfl,rfl⟩|⟨_,rfl⟩
 rw[fy];exact Q.keep (λ_ h=>h) (λ_ _=>rfl) (λ_ _ h=>h.elim) (λb hb=>⟨rfl,(gZ (γ:=λ_=>v) (id:=0) Q hb).2.1⟩);trivial;intro i o b H hi hb;rcases m i o H hi with ⟨rfl,rfl⟩|⟨_,rfl⟩
 rw[fy]at hb;exact(hex b hb).imp (λ⟨k,o,h1,h2,h3⟩=>⟨k,o,.inl h1,h2,h3⟩) (λh=>h);exact hb.elim;intro i j oi oj b H hs' hij hi hj hbi hbj;rcases m i oi H hi with ⟨rfl,rfl⟩|⟨_,rfl⟩
 rcases m j oj hs' hj with ⟨rfl,rfl⟩|⟨_,rfl⟩
 exact hij rfl;exact hbj;exact hbi
def yz{O:Ob}(ks:List Nat)(j:O ≠ .gone)(i:v.oneCell'=Z):aE P w F (ap (ax M (ks.map (λk=>(k,Ob.gone))++[(d,O)])) (cU γ d v)) (.c (.own d)) v:=by
 refine⟨i,?_⟩;simp only[bc];unfold ap;rw[Ew,if_pos rfl,fy];cases O<;>first|rfl|exact absurd rfl j
def UX{e inn:Nat}(h:KG e off inn=Z):rY (ed e off inn)=e/\cB (ed e off inn)=off/\jV (ed e off inn)=inn/\cj<=ed e off inn/\ed e off inn<dL/\inn<cj:=ucw h
def qyd{tt H:Ty}{l:List H.den}{cs:List AC}{x:tt.den}(i:dec tt (cs.set off (.sl H l))=U (x,[]))(q:off<cs.length)(hr:aN P w F R cs g):
  (enc tt x)[off]?= U (.sl H l)/\∀ (k:Nat) c,(enc tt x)[k]?= U c->k≠off->∃ u,g k u/\bc P w F (λ_ _=>False) c u:=by
 have hl:=ku tt i;have j:off<(enc tt x).length:=by rw[fl];simp at hl;omega
 refine⟨?_,λk c hc W=>?_⟩;obtain⟨c0,t1,x1,m,N,C,t⟩:=oF tt i off _ (uaq j);rw[ua0 q]at m;cases m;have:=Pm N C;rw[this]at t;rw[uaq j];exact ufo U (List.cons.inj t).1.symm;obtain⟨c0,t1,x1,m,N,C,t⟩:=oF tt i k c hc;rw[ubh (λe=>W e.symm)]at m;obtain⟨u,O,Q,S⟩:=hr.at_ m;exact⟨u,O,Fy C t Q S⟩
def qns{inn:Nat}{H:Ty}{c:AC}{l:List H.den}{u:List (Nat×Ob)}(hm:MemOK P B w F γ M)(q:∀ i y,m i=U y->M i=U y)(h:IT m inn H c=U (l,u))(hi:inn<cj)(O:bc P w F (ap M γ) c v):
  ∃ (ks:List Nat) (t:List Value),u=ks.map (λk=>(k,Ob.gone))/\(∀ k∈ks,∃ o,M k=U o)/\w.ownsRow B inn H.size v l.length t/\bU w F H l t/\(∀ y∈t,y.oneCell'=Z)/\∀ b,v.ownBlock=U b->¬ F b/\∃ k o,k∈ks/\M k=U o/\bK w o (γ k) b:=by
 unfold IT at h;split at h<;>try trivial
 cases h;obtain rfl:v=.slice V 0 0:=O;exact⟨[],[],rfl,λk N=>by simp at N,ucr _ _ _ _,λi x hx=>by simp at hx,λy hy=>by simp at hy,λb hb=>by simp[Value.ownBlock]at hb⟩;rename_i k;split at h<;>try trivial
 rename_i e t0 l0 N;split at h<;>try trivial
 rename_i ht;subst ht;split at h<;>try trivial
 rename_i he;subst he;cases h;have C:=q _ _ N;have hv:=ez C (by simp) O;subst hv;obtain⟨t,Q,S,W,h4⟩:=gg.of (hm.ob k _ C) hi;exact⟨[k],t,rfl,λk' j=>by simp at j;subst j;exact⟨_,C⟩,Q,W,h4,λb hb=>⟨S b hb,k,_,by simp,C,.inl hb⟩⟩
def WI{i:TypeInfo}(h:(i.zero.any λz=>z.cells.size==n)=Z):∃ z,i.zero=U z/\z.cells.size=n:=by
 cases hz:i.zero with
 |none=>simp[hz]at h
 |some z=>exact⟨z,rfl,by simpa[hz]using h⟩
def qx6{i:TypeInfo}{z:Value}(ht:P.underlying t=U (.slice el))(hi:P.info? el=U i)(hz:i.zero=U z)(hs:v.cells.size=i.size)(H:i.size<=16777216)(N:0<i.size):
  (Instr.buildSlice t 1 #[(0,v)]).run P w=.ok (.slice (U ⟨w.heap.size,0,V⟩) 1 1) (w.alloc (.cells v.cells el)):=by
 have C:(zeroValue el).run P w=.ok z w:=by simp[zeroValue,typeInfo,hi,hz]
 have q:P.cellsOf el=i.size:=by simp[Program.cellsOf,hi]
 have hb:¬ (16777216<i.size):=by omega
 have u:¬ (i.size=0):=by omega
 have W:∀ m:Array Value,m.size=i.size->Instr.fill (λj=>U (j*i.size,i.size)) m [(0,v)]=U v.cells:=by
  intro m h0;obtain⟨f1,O⟩:=Ij v.cells.toList 0 0 m;have F:v.cells.zipIdx.foldl (λcs (x:Value×Nat)=>cs.setIfInBounds (0*i.size+x.2) x.1) m=(v.cells.toList.zipIdx 0).foldl (λcs (x:Value×Nat)=>cs.setIfInBounds (0+x.2) x.1) m:=by
   rw[<- Array.foldl_toList,Array.toList_zipIdx,Nat.zero_mul]
  simp only[Instr.fill];rw[if_neg (by simp;omega)];show U _=U _;congr 1;refine Eq.trans F (uch λj=>?_);rw[O j];by_cases hj:j<v.cells.size;simp[hj];omega;have Q:v.cells[j]?= none:=by simp;omega
  have S:m[j]?= none:=by simp;omega
  simp[Q,S]
 simp only[Instr.buildSlice,uep,ud2 ht,ucl,gw hi,q];simp[u,hb,C,W _ _,newRow,newObj,Sem.run]
def yU{e:Nat}{tt:Ty}{l:List tt.den}(h:RwOK P B w F v e tt l K xs)(hb:innB w e tt.size l.length K v b):
  ∃ i u,i<l.length/\¬ K i/\xs[i*tt.size+cB e]?= U u/\u.ownBlock=U b:=by
 obtain⟨i,u,m,q,t,C⟩:=hb;obtain⟨_,_,H,_,_,j,_⟩:=h.inn i _ (uaq m) q;obtain rfl:=R6 h.own j t;exact⟨i,u,m,q,j,C⟩
def qbp{x:AV}{e:Eff}(hm:MemOK P B w F γ M)(hb:∀ b,F b->b<w.heap.size)(hB:B<=w.heap.size)(hsub:∀ i y,m i=U y->M i=U y)(hd:m d=V->M d=V)(ht:P.underlying t=U (.slice el))(h:FT P Γ d el x m=U e)(hx:aE P w F (ap M γ) x v):
  ∃ u w' γ',(Instr.buildSlice t 1 #[(0,v)]).run P w=.ok u w'/\Step B w F γ M w' F γ' (ax M e.wr)/\MemOK P B w' F γ' (ax M e.wr)/\aE P w' F (ap (ax M e.wr) γ') e.v u:=by
 unfold FT at h;split at h<;>try trivial
 rename_i off inn tt i cs S htt hi hcs hmd;split at h<;>try trivial
 rename_i t' c ht' hc;split at h<;>try trivial
 rename_i l u hin;split at h<;>try trivial
 rename_i y N;split at h<;>try trivial
 rename_i Q;obtain⟨W,hs,hpos,hbig,hz⟩:=Q;obtain⟨z,hz,hzs⟩:=WI hz;obtain⟨r1,r2,r3,r4,r5,r6⟩:=UX W;cases h;obtain⟨c1,c2,c3⟩:=o6 hcs hx;have hoff:off<cs.length:=(uak.1 hc).1;have hlen:=ku tt N;simp at hlen;obtain⟨p1,p2⟩:=qyd N hoff c2;obtain⟨ui,q1,q2,q3⟩:=c2.at_ hc;obtain⟨ks,ys,rfl,k1,k2,k3,k4,k5⟩:=qns hm hsub hin r6 q3;have hrun:=qx6 (w:=w) ht hi hz (v:=v) (by omega) hbig (by omega);have C:∀ b,b<w.heap.size->(w.alloc (.cells v.cells el)).heap[b]?= w.heap[b]? := λb h=>uc9 _ _ _ h;have hub:∀ b,ui.ownBlock=U b->b<w.heap.size:=λb q=>(k2.lt b q).2;have S:RwOK P B (w.alloc (.cells v.cells el)) F (.slice (U ⟨w.heap.size,0,V⟩) 1 1) (ed el off inn) tt [y] (λ_=>False) v.cells.toList:=by
  refine⟨⟨by simp;omega,.inr ⟨w.heap.size,1,_,rfl,hB,by rw[r1];exact ud4 w _,ue6 _,by decide,by omega,by rw[ua3 (by simp;omega)]⟩⟩,λg hg hF=>?_,λu hu=>c3 u (ubg.1 hu),?_,?_,?_⟩;simp[Value.ownBlock]at hg;have:=hb g hF;omega;intro j x' k c' H hk hne;cases j with
  |succ j=>simp at H
  |zero=>
   simp at H;subst H;rw[r2]at hne;obtain⟨u',e1,e2⟩:=p2 k c' hk hne;exact⟨u',by simpa using e1,bc.mono (λ_ h=>h) (λb q=>C b (hb b q)) (λ_ _ h=>h) c' e2⟩
  intro j x' H _;cases j with
  |succ j=>simp at H
  |zero=>
   simp at H;subst H;refine⟨t',l,ui,ys,by rw[r2];exact p1,by rw[r2];simpa using q1,by rw[r3];exact pm k2 (λb q=>C b (hub b q)),k3.mono (λ_ h=>h) (λb q=>C b (hb b q)),k4,λb q=>⟨λhe=>?_,(k5 b q).1⟩⟩;simp[Value.ownBlock]at he;have:=hub b q;omega
  intro i j ui uj b hi H _ _ hij;simp at hi H;omega
 obtain⟨s1,s2⟩:=hm.mk_ ks (O:=.arr (ed el off inn) tt [y]) (v:=.slice (U ⟨w.heap.size,0,V⟩) 1 1) (hd hmd) k1 (by simp) hb hB (λb q=>C b (hb b q)) rfl rfl rfl (by simp) (λb q _=>C b q) (.inr (.inl ⟨r4,r5,_,S⟩)) (by
  intro b q;rcases q with q|⟨_,q⟩|q
  simp[Value.ownBlock]at q;exact .inr (by omega);obtain⟨i,u,h1,_,h2,h3⟩:=yU S q;have hi0:i=0:=by simpa using h1
  subst hi0;rw[r2]at h2;have:ui=u:=by
   have h4:v.cells[off]?= U u:=by simpa using h2
   rw[q1]at h4;exact ud0 h4
  subst this;exact .inl (k5 b h3).2;cases q)
 exact⟨_,_,_,hrun,s1,s2,yz ks (by simp) rfl⟩
def qto{n c:Int}{kn kc:IntKind}{e:Eff}(hm:MemOK P B w F γ M)(hb:∀ b,F b->b<w.heap.size)(hB:B<=w.heap.size)(hd:m d=V->M d=V)(h:J6 P Γ d t n c m=U e)(hn:av e.need):
  ∃ u w' γ',(Instr.makeSlice t (.int kn n) (.int kc c)).run P w=.ok u w'/\Step B w F γ M w' F γ' (ax M e.wr)/\MemOK P B w' F γ' (ax M e.wr)/\aE P w' F (ap (ax M e.wr) γ') e.v u:=by
 unfold J6 at h;split at h<;>try trivial
 rename_i el ht;split at h<;>try trivial
 rename_i off inn i tt hrw0 hi htt hmd;split at h<;>try trivial
 rename_i z hz;split at h<;>try trivial
 rename_i cs hcs;split at h<;>try trivial
 rename_i x W hnil;split at h<;>try trivial
 rename_i hcond;obtain⟨hall,hs1,hs2,hs3⟩:=hcond;obtain⟨r1,r2,r3,r4,r5,r6⟩:=UX hall;cases h;obtain⟨n1,n2,n3,n4⟩:=hn;obtain⟨z1,z2,z3⟩:=o6 hcs (tf (P:=P) (w:=w) (F:=F) (R:=ap M γ) z);have hr:=run_make w t el i z ht hi hz kn kc n c n1 n2 (by rw[uex];omega) (by simp only[maxLen]at n3;omega);have hcn:c.toNat<=maxLen:=by omega
 have S:∀ k,k<c.toNat*i.size->(madeCells z.cells (c.toNat*i.size))[k]?= z.cells[k%z.cells.size]? := by
  intro k H;have hpos:0<z.cells.size:=by omega
  have hlt:=ufd k hpos;have hg:z.cells[k%z.cells.size]! = z.cells[k%z.cells.size]:=by simp[hlt]
  simp[madeCells,H,hg]
 have hold:∀ b,b<w.heap.size->(w.alloc (.cells (madeCells z.cells (c.toNat*i.size)) el)).heap[b]?= w.heap[b]? := λb h=>uc9 _ _ _ h;have C:(List.replicate n.toNat x).length=n.toNat:=by simp
 have hdl:=ku tt W;have Q:off<tt.size:=by
  have:=(uak.1 hnil).1;simp at hdl;omega
 have hat:∀ k j,k<n.toNat->j<tt.size->((madeCells z.cells (c.toNat*i.size)).toList.take (n.toNat*tt.size))[k*tt.size+j]?= z.cells[j]? := λk j H hj=>by
  have hkb:k*tt.size+tt.size<=n.toNat*tt.size:=by rw[<- uet];exact ubd _ H
  have hnc:n.toNat*tt.size<=c.toNat*i.size:=by rw[hs1];exact ubd _ (by omega)
  rw[ub1,if_pos (by omega),ua5,S _ (by omega),hs2];rw[show(k*tt.size+j)%tt.size=j from by rw[ues,Nat.mul_add_mod];exact Nat.mod_eq_of_lt hj]
 have hx:∀ k y,(List.replicate n.toNat x)[k]?= U y->k<n.toNat/\y=x:=λk y H=>by
  have N:=(uak.1 H);exact⟨by simpa using N.1,by have:=N.2;simpa using this.symm⟩
 have hui:z.cells[off]?= U (.slice V 0 0):=by
  obtain⟨u,e1,_,e3⟩:=z2.at_ hnil;have e4:u=.slice V 0 0:=e3;rw[e4]at e1;exact e1
 have hxi:∃ t',(enc tt x)[off]?= U (.sl t' []):=by
  have ho':off<(enc tt x).length:=by rw[fl];exact Q
  obtain⟨c0,t1,x1,a1,a2,a3,a4⟩:=oF tt W off _ (uaq ho');rw[hnil]at a1;cases a1;obtain⟨t',N⟩:=qe9 a2 a3;rw[N]at a4;refine⟨t',?_⟩;rw[uaq ho'];exact ufo U (List.cons.inj a4).1.symm
 have hrw:RwOK P B (w.alloc (.cells (madeCells z.cells (c.toNat*i.size)) el)) F (.slice (U ⟨w.heap.size,0,V⟩) n.toNat c.toNat) (ed el off inn) tt (List.replicate n.toNat x) (λ_=>False) ((madeCells z.cells (c.toNat*i.size)).toList.take (n.toNat*tt.size)):=by
  refine⟨⟨?_,.inr ⟨w.heap.size,c.toNat,_,by rw[C],hB,by rw[r1];exact ud4 w _,by rw[C];omega,hcn,by rw[size_madeCells,hs1],by rw[C]⟩⟩,λg hg hF=>?_,λu hu=>?_,?_,?_,?_⟩;rw[uc3,ubt,size_madeCells,C];have:n.toNat*tt.size<=c.toNat*i.size:=by rw[hs1];exact ubd _ (by omega)
  omega;simp[Value.ownBlock]at hg;have:=hb g hF;omega;have hu':=ubp hu;obtain⟨k,H,rfl⟩:=List.getElem_of_mem hu';have hk':k<c.toNat*i.size:=by simpa[size_madeCells]using H
  have N:=S k hk';have hlt:k%z.cells.size<z.cells.size:=ufd k (by omega);rw[uam (by simpa using H),uam hlt]at N;have h2:=ud0 N;rw[Array.getElem_toList,h2];exact z3 _ (Array.getElem_mem hlt);intro k y j c' H hc' hne;obtain⟨hkn,rfl⟩:=hx k y H;have hj:j<tt.size:=by have:=(uak.1 hc').1;rw[fl]at this;exact this
  obtain⟨c0,t1,x1,a1,a2,a3,a4⟩:=oF tt W j c' hc';obtain⟨u,e1,e2,e3⟩:=z2.at_ a1;exact⟨u,by rw[hat k j hkn hj];exact e1,bc.mono (λ_ h=>h) (λb q=>hold b (hb b q)) (λ_ _ h=>h) c' (Fy a3 a4 e2 e3)⟩;intro k y H _;obtain⟨hkn,rfl⟩:=hx k y H;obtain⟨t',N⟩:=hxi;exact⟨t',[],.slice V 0 0,[],by rw[r2];exact N,by rw[r2,hat k off hkn Q];exact hui,ucr _ _ _ _,λi x hx=>by simp at hx,λy hy=>by simp at hy,λb q=>by simp[Value.ownBlock]at q⟩;intro k j ui uj b H hj _ _ _ N _ h3;rw[C]at H;rw[r2,hat k off H Q,hui]at N;cases N;simp[Value.ownBlock]at h3
 obtain⟨s1,s2⟩:=hm.mk_ [] (O:=.arr (ed el off inn) tt (List.replicate n.toNat x)) (v:=.slice (U ⟨w.heap.size,0,V⟩) n.toNat c.toNat) (hd hmd) (λk H=>by simp at H) (by simp) hb hB (λb q=>hold b (hb b q)) rfl rfl rfl (by simp) (λb q _=>hold b q) (.inr (.inl ⟨r4,r5,_,hrw⟩)) (by
  intro b q;rcases q with q|⟨_,q⟩|q
  simp[Value.ownBlock]at q;exact .inr (by omega);obtain⟨k,u,N,_,h2,h3⟩:=yU hrw q;rw[C]at N;rw[r2,hat k off N Q,hui]at h2;cases h2;simp[Value.ownBlock]at h3;cases q)
 exact⟨_,_,_,hr,s1,s2,yz [] (by simp) rfl⟩
def qye{e:Nat}{tt:Ty}:RwOK P B w F (.slice V 0 0) e tt [] (λ_=>False) []:=
 ⟨by simpa using ucr w B (rY e) tt.size,λg hg=>by simp[Value.ownBlock]at hg,λu q=>by simp at q,λi x k c m=>by simp at m,λi x m=>by simp at m,λi j t C b hi=>absurd hi (Nat.not_lt_zero i)⟩
def qa6{sz:Nat}{xs j:List α}{k:Nat}(h:xs.length=n*sz)(hi:i<n)(m:k<sz):(xs++j)[i*sz+k]?= xs[i*sz+k]? := by
 have:i*sz+sz<=n*sz:=by rw[<- uet];exact ubd _ hi
 rw[uaj (by omega)]
def qa7{sz:Nat}{xs j:List α}{k:Nat}(h:xs.length=n*sz)(hi:n<=i):(xs++j)[i*sz+k]?= j[(i-n)*sz+k]? := by
 have:n*sz+(i-n)*sz=i*sz:=by rw[<- ue8];congr 1;omega
 rw[uae (by omega)];congr 1;omega
def UZ{vs v':Value}{e:Nat}{tt:Ty}{l l2:List tt.den}{ys:List Value}(hs:RwOK P B w F vs e tt l (λ_=>False) xs)(hx:RwOK P B w F vx e tt l2 (λ_=>False) ys)(hb:∀ b,F b->b<w.heap.size)(hg:w.grownBy w' vs.ownBlock)(hown:w'.ownsRow B (rY e) tt.size v' (l.length+l2.length) (xs++ys))(hv:v'.ownBlock=vs.ownBlock\/v'.ownBlock=U w.heap.size)(hap:∀ b,vs.ownBlock=U b\/innB w e tt.size l.length (λ_=>False) vs b->¬ (vx.ownBlock=U b\/innB w e tt.size l2.length (λ_=>False) vx b)):
  RwOK P B w' F v' e tt (l++l2) (λ_=>False) (xs++ys)/\∀ b,innB w' e tt.size (l++l2).length (λ_=>False) v' b->innB w e tt.size l.length (λ_=>False) vs b\/innB w e tt.size l2.length (λ_=>False) vx b:=by
 have h1:=hs.own.1;have hF:∀ b,F b->w'.heap[b]?= w.heap[b]? := λb m=>hg.block b (hb b m) (λhe=>hs.nf b he.symm m);have W:∀ b,b<w.heap.size->vs.ownBlock≠U b->w'.heap[b]?= w.heap[b]? /\ v'.ownBlock≠U b:=λb hlt hne=>
  ⟨hg.block b hlt (λhe=>hne he.symm),λhe=>hv.elim (λh=>hne (h ▸ he)) (λh=>by rw[h]at he;simp at he;omega)⟩
 have hsz:∀ (x:tt.den) k c,(enc tt x)[k]?= U c->k<tt.size:=λx k c hc=>by have:=(uak.1 hc).1;rw[fl]at this;exact this
 have C:∀ i,i<(l++l2).length->(∃ x,i<l.length/\l[i]?= U x/\(l++l2)[i]?= U x/\∀ k,k<tt.size->(xs++ys)[i*tt.size+k]?= xs[i*tt.size+k]?) \/
   (∃ x,l.length<=i/\l2[i-l.length]?= U x/\(l++l2)[i]?= U x/\∀ k,(xs++ys)[i*tt.size+k]?= ys[(i-l.length)*tt.size+k]?):=λi hi=>by
  rcases uem i l.length with h|h
  exact .inl ⟨_,h,uaq h,by rw[uaj h,uaq h],λk hk=>qa6 h1 h hk⟩;rw[ub5]at hi;exact .inr ⟨_,h,uaq (by omega),by rw[uae h,uaq (by omega)],λk=>qa7 h1 h⟩
 have t:∀ i x u,(l++l2)[i]?= U x->(∃ N H,(enc tt x)[cB e]?= U (.sl N H))->(xs++ys)[i*tt.size+cB e]?= U u->(i<l.length/\xs[i*tt.size+cB e]?= U u)\/(l.length<=i/\ys[(i-l.length)*tt.size+cB e]?= U u):=λi x u hi hx' hu=>by
  obtain⟨N,H,hx'⟩:=hx';rcases C i (uak.1 hi).1 with ⟨x',a1,_,_,O⟩|⟨x',a1,_,_,O⟩
  exact .inl ⟨a1,by rw[<- O _ (hsz _ _ _ hx')];exact hu⟩;exact .inr ⟨a1,by rw[<- O];exact hu⟩
 have hR:RwOK P B w' F v' e tt (l++l2) (λ_=>False) (xs++ys):=by
  refine⟨by rw[ub5];exact hown,λg hg' hF'=>?_,λu hu=>?_,?_,?_,?_⟩;rcases hv with h|h
  exact hs.nf g (h ▸ hg') hF';rw[h]at hg';simp at hg';have:=hb g hF';omega;rcases udp.1 hu with hu|hu
  exact hs.one u hu;exact hx.one u hu;intro i x k c hi hc hk;rcases C i (uak.1 hi).1 with ⟨x',a1,Q,q,O⟩|⟨x',a1,Q,q,O⟩
  rw[hi]at q;cases q;obtain⟨u,e1,e2⟩:=hs.cells i x k c Q hc hk;exact⟨u,by rw[O k (hsz _ _ _ hc)];exact e1,bc.mono (λ_ h=>h) hF (λ_ _ h=>h) c e2⟩;rw[hi]at q;cases q;obtain⟨u,e1,e2⟩:=hx.cells _ x k c Q hc hk;exact⟨u,by rw[O k];exact e1,bc.mono (λ_ h=>h) hF (λ_ _ h=>h) c e2⟩;intro i x hi _;rcases C i (uak.1 hi).1 with ⟨x',a1,Q,q,O⟩|⟨x',a1,Q,q,O⟩
  rw[hi]at q;cases q;obtain⟨N,H,u,zs,b1,b2,b3,b4,b5,b6⟩:=hs.inn i x Q (λh=>h);have S:=λb m=>W b (b3.lt b m).2 (b6 b m).1;exact⟨N,H,u,zs,b1,by rw[O _ (hsz _ _ _ b1)];exact b2,pm b3 (λb m=>(S b m).1),b4.mono (λ_ h=>h) hF,b5,λb m=>⟨(S b m).2,(b6 b m).2⟩⟩;rw[hi]at q;cases q;obtain⟨N,H,u,zs,b1,b2,b3,b4,b5,b6⟩:=hx.inn _ x Q (λh=>h);have S:=λb (m:u.ownBlock=U b)=>W b (b3.lt b m).2 (λhe=>hap b (.inl he) (.inr (hx.innB (uak.1 Q).1 (λh=>h) b2 m)));exact⟨N,H,u,zs,b1,by rw[O];exact b2,pm b3 (λb m=>(S b m).1),b4.mono (λ_ h=>h) hF,b5,λb m=>⟨(S b m).2,(b6 b m).2⟩⟩;intro i j ui uj b hi hj _ _ hij hui huj hbi hbj;have hsl:∀ i,i<(l++l2).length->∃ x,(l++l2)[i]?= U x/\∃ N H,(enc tt x)[cB e]?= U (.sl N H):=λi hi=>by
   rcases C i hi with ⟨x',a1,Q,q,O⟩|⟨x',a1,Q,q,O⟩
   obtain⟨N,H,_,_,b1,_⟩:=hs.inn i x' Q (λh=>h);exact⟨x',q,N,H,b1⟩;obtain⟨N,H,_,_,b1,_⟩:=hx.inn _ x' Q (λh=>h);exact⟨x',q,N,H,b1⟩
  obtain⟨xi,c1,c2⟩:=hsl i hi;obtain⟨xj,d1,d2⟩:=hsl j hj;rw[ub5]at hi hj;rcases t i xi ui c1 c2 hui with ⟨p1,p2⟩|⟨p1,p2⟩
  rcases t j xj uj d1 d2 huj with ⟨q1,q2⟩|⟨q1,q2⟩
  exact hs.disj i j ui uj b p1 q1 (λh=>h) (λh=>h) hij p2 q2 hbi hbj;exact hap b (.inr (hs.innB p1 (λh=>h) p2 hbi)) (.inr (hx.innB (by omega) (λh=>h) q2 hbj));rcases t j xj uj d1 d2 huj with ⟨q1,q2⟩|⟨q1,q2⟩
  exact hap b (.inr (hs.innB q1 (λh=>h) q2 hbj)) (.inr (hx.innB (by omega) (λh=>h) p2 hbi));exact hx.disj _ _ ui uj b (by omega) (by omega) (λh=>h) (λh=>h) (by omega) p2 q2 hbi hbj
 refine⟨hR,λb m=>?_⟩;obtain⟨i,u,h1',_,h2,h3⟩:=yU hR m;obtain⟨N,H,u',_,b1,b2,_⟩:=hR.inn i _ (uaq h1') (λh=>h);rw[h2]at b2;cases b2;rw[ub5]at h1';rcases t i _ u (uaq (by rw[ub5];exact h1')) ⟨N,H,b1⟩ h2 with ⟨p1,p2⟩|⟨p1,p2⟩
 exact .inl (hs.innB p1 (λh=>h) p2 h3);exact .inr (hx.innB (by omega) (λh=>h) p2 h3)
def RwOK.of{e:Nat}{t:Ty}{l:List t.den}(h:fI P B w F R v (.arr e t l))(i:cj<=e)(j:e<dL):∃ xs,RwOK P B w F v e t l (λ_=>False) xs:=by
 rcases h with ⟨k,_⟩|⟨_,_,h⟩|⟨k,_⟩
 exact absurd k (Nat.not_lt.2 i);exact h;exact absurd j (Nat.not_lt.2 k)
def qaw{k:Nat}{s:AV}{e:Eff}{vs:Value}(hm:MemOK P B w F γ M)(hb:∀ b,F b->b<w.heap.size)(hB:B<=w.heap.size)(hsub:∀ i y,m i=U y->M i=U y)(hd:m d=V->M d=V)(h:Fw P d t s k m=U e)(hn:av e.need)(hs:aE P w F (ap M γ) s vs)(hx:aE P w F (ap M γ) (.c (.own k)) vx):
  ∃ u w' γ',(Builtin.append_ #[t,t] ty #[vs,vx]).run P w=.ok u w'/\Step B w F γ M w' F γ' (ax M e.wr)/\MemOK P B w' F γ' (ax M e.wr)/\aE P w' F (ap (ax M e.wr) γ') e.v u:=by
 unfold Fw at h;split at h<;>try trivial
 rename_i el ht;split at h<;>try trivial
 rename_i i e2 tt l2 hi hk hmd;split at h<;>try trivial
 rename_i hcond;obtain⟨r1,r2,r3,hsz1,hsz2,hz0⟩:=hcond;obtain⟨z,hz,hzs⟩:=WI hz0;have N:=hsub _ _ hk;have hvx:=ez N (by simp) hx.2;subst hvx;obtain⟨ys,hy⟩:=RwOK.of (hm.ob k _ N) r1 r2;obtain⟨A,S,hvk,hAn,W⟩:∃ A S,γ k=.slice A l2.length S/\(A=V->l2.length=0)/\∀ ad,A=U ad->∀ (j:Nat) u,ys[j]?= U u->w.cell? (ad.add j)=U u:=by
  rcases hy.own.2 with ⟨h3,h4⟩|⟨g,S,cur,h3,_⟩
  exact⟨V,0,by rw[h3,h4],λ_=>h4,λad he=>by cases he⟩;refine⟨_,_,h3,(λh=>by cases h),λad he=>?_⟩;cases he;exact hy.own.cells (by rw[h3];rfl)
 split at h<;>try trivial
 cases h;obtain⟨_,rfl⟩:=hs;obtain⟨v',w',e1,e2',Q,e4⟩:=qr t ty el i z tt.size ht hi hz hsz1 hzs hsz2 (.slice V 0 0) 0 [] (ucr w B el tt.size) A l2.length S ys hAn hy.own.1 W hy.one (by have:=hn.1;omega) (by have:=hn.2;simpa using this) hB;obtain⟨p1,p2⟩:=UZ (qye (e:=e2) (tt:=tt)) hy hb Q (by rw[r3];simpa using e2') e4 (λb q=>by
  rcases q with q|⟨_,_,q,_⟩
  simp[Value.ownBlock]at q;exact absurd q (Nat.not_lt_zero _))
 rw[udj,udj]at p1;rw[udj]at p2;have C:∀ b,b<w.heap.size->w'.heap[b]?= w.heap[b]? := λb h=>Q.block b h (by simp[Value.ownBlock]);obtain⟨s1,s2⟩:=hm.mk_ [k] (O:=.arr e2 tt l2) (v:=v') (hd hmd) (λk' hk'=>by simp at hk';subst hk';exact⟨_,N⟩) (by simp) hb hB (λb q=>C b (hb b q)) Q.os Q.tape Q.output Q.size (λb q _=>C b q) (.inr (.inl ⟨r1,r2,_,p1⟩)) (by
  intro b q;rcases q with q|⟨_,q⟩|q
  rcases e4 with h|h
  rw[h]at q;simp[Value.ownBlock]at q;rw[h]at q;simp at q;exact .inr (by omega);rcases p2 b q with ⟨_,_,h0,_⟩|h0
  exact absurd h0 (Nat.not_lt_zero _);exact .inl ⟨k,_,by simp,N,.inr (.inl ⟨r1,h0⟩)⟩;exact absurd q (nq p1.own b))
 rw[<- hvk]at e1;exact⟨v',w',_,e1,s1,s2,yz [k] (by simp) (kT p1.own)⟩;rename_i id;split at h<;>try trivial
 rename_i e3' u0 l hid;split at h<;>try trivial
 rename_i hu;subst hu;split at h<;>try trivial
 rename_i hc;obtain⟨rfl,hne⟩:=hc;cases h;have H:=hsub _ _ hid;have hv:=ez H (by simp) hs.2;subst hv;obtain⟨xs,hxs⟩:=RwOK.of (hm.ob id _ H) r1 r2;have hown:=hxs.own;rw[r3]at hown;obtain⟨v',w',e1,e2',Q,e4⟩:=qr t ty el i z u0.size ht hi hz hsz1 hzs hsz2 (γ id) l.length xs hown A l2.length S ys hAn hy.own.1 W hy.one hn.1 hn.2 hB;obtain⟨p1,p2⟩:=UZ hxs hy hb Q (by rw[r3];exact e2') e4 (λb hb1 hb2=>hm.apart id k _ _ b hne H N (hb1.imp id_ (λh=>.inl ⟨r1,h⟩)) (hb2.imp id_ (λh=>.inl ⟨r1,h⟩)));have C:∀ b,b<w.heap.size->(γ id).ownBlock≠U b->w'.heap[b]?= w.heap[b]? := λb h hne=>Q.block b h (λhe=>hne he.symm);obtain⟨s1,s2⟩:=hm.mk_ [id,k] (O:=.arr e3' u0 (l++l2)) (v:=v') (hd hmd) (λk' hk'=>by
   simp at hk';rcases hk' with rfl|rfl
   exact⟨_,H⟩;exact⟨_,N⟩) (by simp) hb hB (λb q=>C b (hb b q) (λhe=>hxs.nf b he q)) Q.os Q.tape Q.output Q.size (λb q hno=>C b q (λhe=>hno id _ (by simp) H (.inl he))) (.inr (.inl ⟨r1,r2,_,p1⟩)) (by
  intro b q;rcases q with q|⟨_,q⟩|q
  rcases e4 with h|h
  exact .inl ⟨id,_,by simp,H,.inl (h ▸ q)⟩;rw[h]at q;simp at q;exact .inr (by omega);rcases p2 b q with h0|h0
  exact .inl ⟨id,_,by simp,H,.inr (.inl ⟨r1,h0⟩)⟩;exact .inl ⟨k,_,by simp,N,.inr (.inl ⟨r1,h0⟩)⟩;exact absurd q (nq p1.own b))
 rw[<- hvk]at e1;exact⟨v',w',_,e1,s1,s2,yz [id,k] (by simp) (kT p1.own)⟩
where
 id_ {α:Prop} (h:α):α:=h
def qql{id sz:Nat}{e:Eff}(hm:MemOK P B w F γ M)(hb:∀ b,F b->b<w.heap.size)(hsub:∀ i y,m i=U y->M i=U y)(hd:m d=V->M d=V)(h:Jz P d t id sz i off m=U e)(hn:av e.need)(hx:aE P w F (ap M γ) (.optr id sz i off) v):
  ∃ u γ',(Instr.loadAt t v).run P w=.ok u w/\Step B w F γ M w F γ' (ax M e.wr)/\MemOK P B w F γ' (ax M e.wr)/\aE P w F (ap (ax M e.wr) γ') e.v u:=by
 unfold Jz at h;split at h<;>try trivial
 rename_i N tt l hid hmd;split at h<;>try trivial
 rename_i t' li hli;split at h<;>try trivial
 rename_i hc;obtain⟨r1,r2,rfl,rfl,r3,hw,hi1,hi2⟩:=hc;cases h;have hil:i<l.length:=hn;have O:=hsub _ _ hid;have hMd:=hd hmd;have hne:d≠id:=by rintro rfl;rw[hMd]at O;cases O
 obtain⟨xs,H⟩:=RwOK.of (hm.ob id _ O) r1 r2;have hgd:l.getD i tt.dflt=l[i]:=by rw[uah,uaq hil];rfl
 rw[hgd]at hli;obtain⟨t'',li',u,ys,a1,a2,a3,a4,a5,a6⟩:=H.inn i _ (uaq hil) (λh=>h);rw[hli]at a1;cases a1;obtain⟨A,n,c,g1,rfl⟩:=hx;have g2 : .slice (U A) n c=γ id:=by
  unfold ap at g1;rw[O]at g1;exact g1
 obtain⟨A',n',c',g3,g4⟩:=rk H.own a2;rw[<- g2]at g3;cases g3;obtain⟨ds,hds⟩:=uar.1 hi2;refine⟨u,cU γ d u,?_,?_⟩;simp[Instr.loadAt,Instr.sureAddr,loadVar,yT hds,hw,Sem.run,g4];have hM':∀ j,ax M [(id,Ob.hole N tt l i),(d,.arr (jV N) t' li)] j=if j=d then U (.arr (jV N) t' li)else if j=id then U (.hole N tt l i)else M j:=λj=>by
  simp only[ax,upd]
 have hR:∀ j u',ap M γ j u'->ap (ax M [(id,Ob.hole N tt l i),(d,.arr (jV N) t' li)]) (cU γ d u) j u':=λj u' C=>by
  unfold ap at C |-;rw[hM'];by_cases W:j=d;subst W;rw[hMd]at C;exact C.elim;rw[if_neg W];by_cases h2:j=id;subst h2;rw[O]at C;rw[if_pos rfl,eC _ _ W];exact C;rw[if_neg h2,eC _ _ W];exact C
 have Q:∀ j o,(j=id\/j=d)->ax M [(id,Ob.hole N tt l i),(d,.arr (jV N) t' li)] j=U o->(j=d/\o=.arr (jV N) t' li)\/(j=id/\o=.hole N tt l i):=λj o hs C=>by
  rw[hM']at C;by_cases W:j=d;rw[if_pos W]at C;exact .inl ⟨W,(ud0 C).symm⟩;rw[if_neg W,if_pos (hs.resolve_right W)]at C;exact .inr ⟨hs.resolve_right W,(ud0 C).symm⟩
 have S:RwOK P B w F (γ id) N tt l (· = i) xs:=⟨H.own,H.nf,H.one,H.cells,λj x C _=>H.inn j x C (λh=>h),λj k uj uk b C hk _ _=>H.disj j k uj uk b C hk (λh=>h) (λh=>h)⟩;have hnm:∀ b,u ≠ .map (U b):=nq a3;have hin:∀ b,bK w (.arr (jV N) t' li) u b->u.ownBlock=U b:=λb q=>(lE r3 hnm).1 q;refine⟨⟨λ_ h=>h,λ_ _=>rfl,hR,λ_ _=>rfl,rfl,rfl,rfl,ue6 _,hb,λ_ h=>.inl h⟩,hm.re (λj=>j=id\/j=d) (λj C=>?_) (λj C=>eC _ _ (λe=>C (.inr e))) (λ_ _=>rfl) hR (λ_ _ _=>rfl) ?_ ?_ ?_,?_⟩;show ax M _ j=M j;rw[hM',if_neg (λe=>C (.inr e)),if_neg (λe=>C (.inl e))];intro j o hs C;rcases Q j o hs C with ⟨rfl,rfl⟩|⟨rfl,rfl⟩
 rw[fy];exact .inl ⟨r3,ys,a3,λb q=>(a6 b q).2,a4,a5⟩;rw[eC _ _ hne.symm];exact⟨r1,r2,xs,S⟩;intro j o b hs C q;refine .inl ⟨id,_,.inl rfl,O,?_⟩;rcases Q j o hs C with ⟨rfl,rfl⟩|⟨rfl,rfl⟩
 rw[fy]at q;exact .inr (.inl ⟨r1,H.innB hil (λh=>h) a2 (hin b q)⟩);rw[eC _ _ hne.symm]at q;rcases q with q|⟨j,u',q1,_,q3⟩
 exact .inl q;exact .inr (.inl ⟨r1,j,u',q1,λh=>h,q3⟩);have key:∀ b,u.ownBlock=U b->¬ bK w (.hole N tt l i) (γ id) b:=λb hub q=>by
  rcases q with q|q
  exact(a6 b hub).1 q;obtain⟨j,u',q1,q2,q3,q4⟩:=yU S q;exact H.disj j i u' u b q1 hil (λh=>h) (λh=>h) q2 q3 a2 q4 hub
 intro j k oj ok b hs hs' hjk C hk hbj hbk;rcases Q j oj hs C with ⟨rfl,rfl⟩|⟨rfl,rfl⟩
 rcases Q k ok hs' hk with ⟨rfl,rfl⟩|⟨rfl,rfl⟩
 exact hjk rfl;rw[fy]at hbj;rw[eC _ _ hne.symm]at hbk;exact key b (hin b hbj) hbk;rcases Q k ok hs' hk with ⟨rfl,rfl⟩|⟨rfl,rfl⟩
 rw[fy]at hbk;rw[eC _ _ hne.symm]at hbj;exact key b (hin b hbk) hbj;exact hjk rfl;refine⟨kT a3,?_⟩;simp only[bc];unfold ap;rw[hM',if_pos rfl,fy]
def qv0{sz:Nat}(h:w.ownsRow B e sz v n xs)(O:j<n*sz):
  ∃ b arr i,v=.slice (U ⟨b,0,V⟩) n i/\w.heap[b]?= U (.cells arr e (0,0))/\B<=b/\j+1<=arr.size/\∀ u,(w.setRow b (cF arr j [u])).ownsRow B e sz v n (xs.set j u):=by
 obtain⟨Q,⟨_,rfl⟩|⟨b,i,cur,rfl,hb,N,t,F,H,W⟩⟩:=h;simp at O;have S:n*sz<=i*sz:=ubd _ t;have P:j + [Value.nilFunc].length<=cur.size:=by simp;omega
 refine⟨b,cur,i,rfl,N,hb,by omega,λu=>?_⟩;have q:j + [u].length<=cur.size:=by simp;omega
 refine⟨by simp[Q],.inr ⟨b,i,_,rfl,hb,ue9 w b cur _ e (0,0) N,t,F,by rw[yy q];exact H,?_⟩⟩;rw[<- W];refine List.ext_getElem? λk=>?_;rw[ub1,List.getElem?_set];by_cases C:k<n*sz;rw[if_pos C,ua5];by_cases m:j=k;subst m;rw[if_pos rfl,if_pos (by simp;omega)];have:=yx q (j:=0) (by simp);simpa using this;rw[if_neg m,rC q (by simp;omega),ub1,if_pos C,ua5];rw[if_neg C];by_cases m:j=k;omega;rw[if_neg m,ub1,if_neg C]
def zaw{id sz k:Nat}{e:Eff}{vk:Value}(hm:MemOK P B w F γ M)(hb:∀ b,F b->b<w.heap.size)(hsub:∀ i y,m i=U y->M i=U y)(h:Li P t id sz i off k m=U e)(hn:av e.need)(hx:aE P w F (ap M γ) (.optr id sz i off) v)(hk:aE P w F (ap M γ) (.c (.own k)) vk):
  e.v=.dead/\∃ w',(Instr.storeAt t v vk).run P w=.ok () w'/\Step B w F γ M w' F γ (ax M e.wr)/\MemOK P B w' F γ (ax M e.wr):=by
 unfold Li at h;split at h<;>try trivial
 rename_i S tt l j e2 t2 l2 hid hmk;split at h<;>try trivial
 rename_i t' ht';split at h<;>try trivial
 rename_i hc;obtain⟨rfl,rfl,r3,rfl,rfl,hi1,hcell,hne⟩:=hc;split at h<;>try trivial
 rename_i y hdec;cases h;obtain⟨hil,rfl⟩:i<l.length/\i=j:=hn;have hMi:=hsub _ _ hid;have hMk:=hsub _ _ hmk;obtain⟨r1,r2,xs,N⟩:=hm.ob id _ hMi;have hvk:=ez hMk (by simp) hk.2;subst hvk;obtain⟨zs,z1,z2,z3,z4⟩:=gg.of (hm.ob k _ hMk) r3;have hone:(γ k).oneCell'=true:=kT z1;have hcl:(γ k).cells = #[γ k]:=by cases hq:γ k<;>first|rfl|(rw[hq]at hone;simp[Value.oneCell']at hone)
 have hgd:l.getD i tt.dflt=l[i]:=by rw[uah,uaq hil];rfl
 rw[hgd]at hdec;have hlen:=ku tt hdec;have Q:cB S<tt.size:=by
  unfold KM at ht';split at ht'<;>try trivial
  rename_i hq;have:=(uak.1 hq).1;rw[fl]at this;exact this
 have hpos:i*tt.size+cB S<l.length*tt.size:=by
  have:i*tt.size+tt.size<=l.length*tt.size:=by rw[<- uet];exact ubd _ hil
  omega
 obtain⟨b,arr,cap,hv,hh,hBb,hja,hset⟩:=qv0 N.own hpos;obtain⟨A,n,c,g1,rfl⟩:=hx;have g2 : .slice (U A) n c=γ id:=by
  unfold ap at g1;rw[hMi]at g1;exact g1
 rw[hv]at g2;cases g2;have hbo:(γ id).ownBlock=U b:=by rw[hv];rfl
 obtain⟨ti,hti⟩:=uar.1 hi1;have hrun:(Instr.storeAt t (.pointer (U ((⟨b,0,V⟩:Addr).add (i*tt.size+cB S)))) (γ k)).run P w=.ok () (w.setRow b (cF arr (i*tt.size+cB S) [γ k])):=by
  rw[i8,ueu];have:=D8 (P:=P) (v:=γ k) hh hti (by rw[hcl];exact hcell.symm) (by rw[hcl];simpa using hja) (λu hu=>by rw[hcl]at hu;simp at hu;rw[hu];exact hone);rw[hcl]at this;exact this
 have hnF:¬ F b:=N.nf b hbo;have hold:∀ c,c≠b->(w.setRow b (cF arr (i*tt.size+cB S) [γ k])).heap[c]?= w.heap[c]? := λc hc=>uew w b c _ hc;have hM':∀ j,ax M [(k,Ob.gone),(id,.arr S tt (l.set i y))] j=if j=id then U (.arr S tt (l.set i y))else if j=k then U .gone else M j:=λj=>by
  simp only[ax,upd]
 have hR:∀ j u',ap M γ j u'->ap (ax M [(k,Ob.gone),(id,.arr S tt (l.set i y))]) γ j u':=λj u' O=>by
  unfold ap at O |-;rw[hM'];by_cases H:j=id;subst H;rw[hMi]at O;rw[if_pos rfl];exact O;rw[if_neg H];by_cases h2:j=k;subst h2;rw[if_pos rfl];trivial;rw[if_neg h2];exact O
 have hapk:∀ c,(γ k).ownBlock=U c->¬ bK w (.hole S tt l i) (γ id) c:=λc hc hc'=>hm.apart k id _ _ c (λe=>hne e.symm) hMk hMi (.inl hc) hc';have hFk:∀ c,F c->(w.setRow b (cF arr (i*tt.size+cB S) [γ k])).heap[c]?= w.heap[c]? := λc hc=>hold c (λe=>hnF (e ▸ hc));have hst:Step B w F γ M (w.setRow b (cF arr (i*tt.size+cB S) [γ k])) F γ (ax M [(k,Ob.gone),(id,.arr S tt (l.set i y))]):=Le hb hnF hBb hR;have C:∀ (j q:Nat),j≠i->q<tt.size->(xs.set (i*tt.size+cB S) (γ k))[j*tt.size+q]?= xs[j*tt.size+q]? := λj q O hq=>by
  refine ubh λhe=>?_;rcases uem j i with H|H
  have:j*tt.size+tt.size<=i*tt.size:=by rw[<- uet];exact ubd _ H
  omega;have:i*tt.size+tt.size<=j*tt.size:=by rw[<- uet];exact ubd _ (by omega)
  omega
 have hsame:∀ q,q≠cB S->(xs.set (i*tt.size+cB S) (γ k))[i*tt.size+q]?= xs[i*tt.size+q]? := λq hq=>ubh (by omega);have W:(xs.set (i*tt.size+cB S) (γ k))[i*tt.size+cB S]?= U (γ k):=ua0 (by rw[N.own.1];exact hpos);have hsz:∀ (x:tt.den) q c,(enc tt x)[q]?= U c->q<tt.size:=λx q c hc=>by have:=(uak.1 hc).1;rw[fl]at this;exact this
 have hoffc:cB S<(enc tt l[i]).length:=by rw[fl];exact Q
 have hyo:(enc tt y)[cB S]?= U (.sl t' l2):=by
  obtain⟨c0,t1,x1,a1,a2,a3,a4⟩:=oF tt hdec (cB S) _ (uaq (by rw[fl];exact Q));rw[ua0 hoffc]at a1;cases a1;rw[Pm a2 a3]at a4;rw[uaq (by rw[fl];exact Q)];exact ufo U (List.cons.inj a4).1.symm
 have hrow:∀ j x,(l.set i y)[j]?= U x->(j=i/\x=y)\/(j≠i/\l[j]?= U x):=λj x O=>by
  by_cases H:j=i;subst H;rw[ua0 hil]at O;exact .inl ⟨rfl,(ud0 O).symm⟩;rw[ubh (λe=>H e.symm)]at O;exact .inr ⟨H,O⟩
 have hinb:∀ j x,j≠i->l[j]?= U x->∀ u c,xs[j*tt.size+cB S]?= U u->u.ownBlock=U c->c≠b:=λj x O hx u c hu hc he=>by
  obtain⟨_,_,u',_,_,b2,_,_,_,b6⟩:=N.inn j x hx O;rw[hu]at b2;cases b2;exact(b6 c hc).1 (he ▸ hbo)
 have hkb:∀ c,(γ k).ownBlock=U c->c≠b:=λc hc he=>hapk c hc (.inl (he ▸ hbo));have hR2:RwOK P B (w.setRow b (cF arr (i*tt.size+cB S) [γ k])) F (γ id) S tt (l.set i y) (λ_=>False) (xs.set (i*tt.size+cB S) (γ k)):=by
  refine⟨by rw[udl];exact hset (γ k),N.nf,λu hu=>?_,?_,?_,?_⟩;rcases uap hu with H|H
  exact N.one u H;rw[H];exact hone;intro j x q c O hc hq;rcases hrow j x O with ⟨rfl,rfl⟩|⟨H,h2⟩
  obtain⟨c0,t1,x1,a1,a2,a3,a4⟩:=oF tt hdec q c hc;rw[ubh (λe=>hq e.symm)]at a1;obtain⟨u,b1,b2⟩:=N.cells j _ q c0 (uaq hil) a1 hq;exact⟨u,by rw[hsame q hq];exact b1,bc.mono (λ_ h=>h) hFk (λ_ _ h=>h) c (Fy a3 a4 (N.one u (ubf b1)) b2)⟩;obtain⟨u,b1,b2⟩:=N.cells j x q c h2 hc hq;exact⟨u,by rw[C j q H (hsz _ _ _ hc)];exact b1,bc.mono (λ_ h=>h) hFk (λ_ _ h=>h) c b2⟩;intro j x O _;rcases hrow j x O with ⟨rfl,rfl⟩|⟨H,h2⟩
  exact⟨t',l2,γ k,zs,hyo,W,pm z1 (λc hc=>hold c (hkb c hc)),z3.mono (λ_ h=>h) hFk,z4,λc hc=>⟨λhe=>hapk c hc (.inl he),z2 c hc⟩⟩;obtain⟨tq,li,u,ys,b1,b2,b3,b4,b5,b6⟩:=N.inn j x h2 H;exact⟨tq,li,u,ys,b1,by rw[C j _ H Q];exact b2,pm b3 (λc hc=>hold c (hinb j x H h2 u c b2 hc)),b4.mono (λ_ h=>h) hFk,b5,b6⟩;intro p q up uq c hp hq _ _ hpq hup huq hcp hcq;rw[udl]at hp hq;by_cases H:p=i;subst H;rw[W]at hup;cases hup;rw[C q _ (λe=>hpq e.symm) Q]at huq;exact hapk c hcp (.inr ⟨q,uq,hq,λe=>hpq e.symm,rk N.own huq,hcq⟩);by_cases h2:q=i;subst h2;rw[W]at huq;cases huq;rw[C p _ H Q]at hup;exact hapk c hcq (.inr ⟨p,up,hp,H,rk N.own hup,hcp⟩);rw[C p _ H Q]at hup;rw[C q _ h2 Q]at huq;exact N.disj p q up uq c hp hq H h2 hpq hup huq hcp hcq
 have hat:∀ j o,(j=id\/j=k)->ax M [(k,Ob.gone),(id,.arr S tt (l.set i y))] j=U o->(j=id/\o=.arr S tt (l.set i y))\/(j≠id/\o=.gone):=λj o hs O=>by
  rw[hM']at O;by_cases H:j=id;rw[if_pos H]at O;exact .inl ⟨H,(ud0 O).symm⟩;rw[if_neg H,if_pos (hs.resolve_left H)]at O;exact .inr ⟨H,(ud0 O).symm⟩
 refine⟨rfl,_,hrun,hst,hm.re (λj=>j=id\/j=k) (λj O=>?_) (λ_ _=>rfl) hst.hw hR (λc _ hno=>hold c (λhe=>hno id _ (.inl rfl) hMi (.inl (he ▸ hbo)))) ?_ ?_ ?_⟩;show ax M _ j=M j;rw[hM',if_neg (λe=>O (.inl e)),if_neg (λe=>O (.inr e))];intro j o hs O;rcases hat j o hs O with ⟨rfl,rfl⟩|⟨_,rfl⟩
 exact .inr (.inl ⟨r1,r2,_,hR2⟩);trivial;intro j o c hs O hc;rcases hat j o hs O with ⟨rfl,rfl⟩|⟨_,rfl⟩
 refine .inl ?_;rcases hc with hc|⟨_,hc⟩|hc
 exact⟨j,_,.inl rfl,hMi,.inl hc⟩;obtain⟨p,u,q1,_,q3,q4⟩:=yU hR2 hc;rw[udl]at q1;by_cases H:p=i;subst H;rw[W]at q3;cases q3;exact⟨k,_,.inr rfl,hMk,.inl q4⟩;rw[C p _ H Q]at q3;exact⟨j,_,.inl rfl,hMi,.inr ⟨p,u,q1,H,rk N.own q3,q4⟩⟩;exact absurd hc (nq N.own c);exact hc.elim;intro p q op oq c hs hs' hpq hp hq hcp hcq;rcases hat p op hs hp with ⟨rfl,rfl⟩|⟨_,rfl⟩
 rcases hat q oq hs' hq with ⟨rfl,rfl⟩|⟨_,rfl⟩
 exact hpq rfl;exact hcq;exact hcp
def AZ{i:TypeId}(j:P.underlying i=U (.int .i64))(b:Bool)(d:Nat)(n:Int):(Instr.checkKey b (d+1) i (.int .i64 n)).run P w=.ok () w:=by
 simp[Instr.checkKey,ud2 j]
def Ih{n:Int}:(es:List MapEntry)->(l:List (Int×α))->(i:Nat)->es.length=l.length->(∀ (j:Nat) (e:MapEntry) (x:Int×α),es[j]?= U e->l[j]?= U x->e.key=.int .i64 x.1) ->
  (Instr.findNow (.int .i64) (.int .i64 n) es i=U V/\(∀ z,ip l n z=z)/\∀ y,ec l n y=l++[(n,y)]) \/
  (∃ (j:Nat) (e:MapEntry) (x:Int×α),Instr.findNow (.int .i64) (.int .i64 n) es i=U (U (i+j,e.val))/\es[j]?= U e/\l[j]?= U x/\x.1=n/\(∀ z,ip l n z=x.2)/\∀ y,ec l n y=l.set j (n,y))
 |[],[],i,_,_=>.inl ⟨rfl,λ_=>rfl,λ_=>rfl⟩
 |[],_::_,_,h,_=>by simp at h
 |_::_,[],_,h,_=>by simp at h
 |e::es,x::l,i,h,F=>by
  have h0:e.key=.int .i64 x.1:=F 0 e x rfl rfl;simp only[Instr.findNow,h0,Instr.sameNow,if_true];by_cases m:x.1=n;refine .inr ⟨0,e,x,by simp[m],rfl,rfl,m,λz=>by simp[ip,m],λy=>by simp[ec,m]⟩;have e1:(n==x.1)=false:=by rw[ubv];exact λh=>m h.symm
  have e2:(x.1==n)=false:=by rw[ubv];exact m
  simp only[e1];rcases Ih (n:=n) es l (i+1) (by simpa using h) (λj w C P Q=>F (j+1) w C (by simpa using P) (by simpa using Q))with ⟨q,t,u⟩|⟨j,w,C,q,t,u,H,N,O⟩
  refine .inl ⟨q,λz=>?_,λy=>?_⟩;have:=t z;simp only[ip]at this |-;rw[List.find?_cons,e2];exact this;simp[ec,e2,u];refine .inr ⟨j+1,w,C,?_,by simpa using t,by simpa using u,H,λz=>?_,λy=>?_⟩;rw[q];congr 3;omega;have:=N z;simp only[ip]at this |-;rw[List.find?_cons,e2];exact this;simp[ec,e2,O]
def J9{i:Ty}(h:yj P t=U (e,i)):∃ k,P.underlying t=U (.map k e)/\P.underlying k=U (.int .i64)/\i.flat=Z/\i.wide=false:=by
 unfold yj at h;split at h<;>try trivial
 rename_i k u m;split at h<;>try trivial
 rename_i q j _;split at h<;>try trivial
 rename_i hc;cases h;exact⟨k,m,j,hc⟩
def KL{t:Ty}(h:t.wide=Y):t.size=1:=by cases t<;>first|rfl|(simp[Ty.wide]at h)
def JN(h:v.oneCell'=Z):v.cells = #[v]:=by cases v<;>first|rfl|simp[Value.oneCell']at h
def qtq{e:Eff}(S:MemOK P B w F γ M)(hb:∀ b,F b->b<w.heap.size)(hB:B<=w.heap.size)(N:m d=V->M d=V)(h:J5 P d t m=U e):
  ∃ u w' γ',(Instr.makeMap t V).run P w=.ok u w'/\Step B w F γ M w' F γ' (ax M e.wr)/\MemOK P B w' F γ' (ax M e.wr)/\aE P w' F (ap (ax M e.wr) γ') e.v u:=by
 unfold J5 at h;split at h<;>try trivial
 rename_i el vt W C;cases h;obtain⟨k,_,_,H,h4⟩:=J9 W;have q:∀ b,b<w.heap.size->(w.alloc (.map #[] 0)).heap[b]?= w.heap[b]? := λb h=>uc9 _ _ _ h;obtain⟨s1,s2⟩:=S.mk_ [] (O:=.arr dL (.pair (.int .i64) vt) []) (v:=.map (U w.heap.size)) (N C) (λk Q=>by simp at Q) (by simp) hb hB (λb j=>q b (hb b j)) rfl rfl rfl (by simp) (λb j _=>q b j)
  (.inr (.inr ⟨ue6 _,_,#[],0,rfl,ud4 w _,λh=>by have:=hb _ h;omega,hB,by simp[Ty.flat,H],rfl,ufc _,λi x hx=>by simp at hx⟩)) (by
   intro b j;rcases j with j|⟨_,i,u,h0,_⟩|j
   simp[Value.ownBlock]at j;exact absurd h0 (Nat.not_lt_zero i);cases j;exact .inr (ue6 _))
 exact⟨_,_,_,rfl,s1,s2,yz [] (by simp) rfl⟩
def wE.of{e:Nat}{t:Ty}{l:List t.den}(h:fI P B w F R v (.arr e t l))(i:dL<=e):wE B w F t l v:=by
 rcases h with ⟨k,_⟩|⟨_,k,_⟩|⟨_,h⟩
 exact absurd (Nat.lt_trans k (by decide)) (Nat.not_lt.2 i);exact absurd k (Nat.not_lt.2 i);exact h
def qqn{id:Nat}{n:Int}{e:Eff}(hm:MemOK P B w F γ M)(O:∀ i y,m i=U y->M i=U y)(h:J1 P t id n m=U e)(hx:aE P w F (ap M γ) (.c (.own id)) v):
  e.wr=[]/\∃ u,(Instr.lookup t v (.int .i64 n) Y).run P w=.ok u w/\aE P w F (ap M γ) e.v u:=by
 unfold J1 at h;split at h<;>try trivial
 rename_i el vt eb vt' l ht hid;split at h<;>try trivial
 rename_i z hz;split at h<;>try trivial
 rename_i z0 hz0;split at h<;>try trivial
 rename_i hc;obtain⟨hge,rfl⟩:=hc;cases h;obtain⟨k,h1,h2,h3,h4⟩:=J9 ht;have hM:=O _ _ hid;have hv:=ez hM (by simp) hx.2;subst hv;obtain⟨b,es,ck,q1,q2,q3,q4,q5,q6,q7,q8⟩:=wE.of (hm.ob id _ hM) hge;have hzv:(zeroValue el).run P w=.ok z w:=by
  cases hi:P.info? el with
  |none=>simp[hi]at hz
  |some i=>simp[hi]at hz;simp[zeroValue,typeInfo,hi,hz]
 have C:(Instr.checkKey es.isEmpty 10000 k (.int .i64 n)).run P w=.ok () w:=AZ h2 es.isEmpty 9999 n;have N:(getObj b).run P w=.ok (.map es ck) w:=by simp[getObj,Sem.run,q2]
 refine⟨rfl,?_⟩;have H:∀ (j:Nat) (e:MapEntry) (x:Int×vt'.den),es.toList[j]?= U e->l[j]?= U x->e.key=.int .i64 x.1:=λj e x he hx'=>by
  obtain⟨e',Q,_,_,k4⟩:=q8 j x hx';rw[ua5]at he;rw[he]at Q;cases Q;have:=k4.1.1;simpa using this
 rcases Ih (n:=n) es.toList l 0 (by simpa using q6) H with ⟨a1,S,_⟩|⟨j,e',x,a1,S,a3,a4,a5,_⟩
 refine⟨z,?_,?_⟩;rw[q1];simp[Instr.lookup,ud2 h1,N,C,Instr.findKey,ud2 h2,a1,hzv];rw[S];exact fT (qP hz0 (tf (P:=P) (R:=λ_ _=>False) z));refine⟨e'.val,?_,?_⟩;rw[q1];simp[Instr.lookup,ud2 h1,N,C,Instr.findKey,ud2 h2,a1];rw[a5];obtain⟨e'',Q,_,W,k4⟩:=q8 j x a3;rw[ua5]at S;rw[S]at Q;cases Q;refine fT ⟨by rw[JN W,KL h4];rfl,⟨λhw=>(by rw[h4]at hw;cases hw),λ⟨cs,hcs⟩=>(by rw[hcs]at W;simp[Value.oneCell']at W)⟩,?_⟩;refine(aA.flat (w':=w) (F':=F) h3 k4.2).mono (λ_ h=>h) (λ_ _=>rfl) λq u hq hu=>?_;rw[KL h4]at hq;have hq0:q=0:=by omega
 subst hq0;rw[JN W];simpa[Ty.size]using hu
def zcp{id:Nat}{n:Int}{x:AV}{e:Eff}(hm:MemOK P B w F γ M)(hb:∀ b,F b->b<w.heap.size)(hsub:∀ i y,m i=U y->M i=U y)(h:L7 P t id n x m=U e)(hn:av e.need)(hin:inR .i64 n)(hv:aE P w F (ap M γ) (.c (.own id)) v)(C:aE P w F (ap M γ) x vx):
  e.v=.dead/\∃ w',(Instr.mapUpdate t v (.int .i64 n) vx).run P w=.ok () w'/\Step B w F γ M w' F γ (ax M e.wr)/\MemOK P B w' F γ (ax M e.wr):=by
 unfold L7 at h;split at h<;>try trivial
 rename_i el vt eb N l ht hid;split at h<;>try trivial
 rename_i y hy;split at h<;>try trivial
 rename_i hc;obtain⟨hge,rfl⟩:=hc;cases h;have hlen:l.length<maxLen:=hn;obtain⟨k,h1,h2,h3,h4⟩:=J9 ht;have hM:=hsub _ _ hid;have hv:=ez hM (by simp) hv.2;subst hv;obtain⟨b,es,ck,q1,q2,q3,q4,q5,q6,q7,q8⟩:=wE.of (hm.ob id _ hM) hge;have hck:(Instr.checkKey Y 10000 k (.int .i64 n)).run P w=.ok () w:=AZ h2 Y 9999 n;have hob:(getObj b).run P w=.ok (.map es ck) w:=by simp[getObj,Sem.run,q2]
 have hblt:b<w.heap.size:=(uaf.1 q2).1;have hso:∀ o:Obj,(setObj b o).run P w=.ok () { w with heap:=w.heap.setIfInBounds b o }:=λo=>by simp[setObj,Sem.run,q2]
 have hkey:∀ (j:Nat) (e:MapEntry) (x:Int×N.den),es.toList[j]?= U e->l[j]?= U x->e.key=.int .i64 x.1:=λj e x he hx'=>by
  obtain⟨e',k1,_,_,k4⟩:=q8 j x hx';rw[ua5]at he;rw[he]at k1;cases k1;have:=k4.1.1;simpa using this
 obtain⟨d1,d2,d3⟩:=qP hy C;have Q:vx.oneCell'=true:=by
  cases hvx:vx with
  |agg cs=>
   have:=d2.2 ⟨cs,hvx⟩;rw[h4]at this;cases this
  |tuple cs=>
   rw[hvx]at C;cases x with
   |c a=>simp[aE,Value.oneCell']at C
   |agg cs=>simp[aE]at C
   |_=>simp[lB]at hy
  |_=>rfl
 have hrep:aA w (λ_=>False) N y (λj u=>j=0/\u=vx):=by
  refine(aA.flat (w':=w) (F':=λ_=>False) h3 d3).mono (λ_ h=>h) (λ_ _=>rfl) λj u hj hu=>?_;rw[KL h4]at hj;have hj0:j=0:=by omega
  subst hj0;rw[JN Q]at hu;exact⟨rfl,by simpa using hu.symm⟩
 have W:aA w (λ_=>False) (.pair (.int .i64) N) (n,y) (λj u=>[Value.int .i64 n,vx][j]?= U u):=by
  refine⟨⟨by simp,hin⟩,hrep.mono (λ_ h=>h) (λ_ _=>rfl) λj u _ hu=>?_⟩;obtain⟨rfl,rfl⟩:=hu;simp[Ty.size]
 have O:∀ (q:Array MapEntry) H,q.size=(ec l n y).length->(ec l n y).length<=maxLen->(∀ (i:Nat) x,(ec l n y)[i]?= U x->∃ e,q[i]?= U e/\e.key.oneCell'=Z/\e.val.oneCell'=Z/\aA w (λ_=>False) (.pair (.int .i64) N) x (λj u=>[e.key,e.val][j]?= U u)) ->
   Step B w F γ M { w with heap:=w.heap.setIfInBounds b (.map q H) } F γ (ax M [(id,.arr eb (.pair (.int .i64) N) (ec l n y))])/\MemOK P B { w with heap:=w.heap.setIfInBounds b (.map q H) } F γ (ax M [(id,.arr eb (.pair (.int .i64) N) (ec l n y))]):=by
  intro q H g1 g2 g3;have S:∀ c,c≠b->({ w with heap:=w.heap.setIfInBounds b (.map q H) }:World).heap[c]?= w.heap[c]? := λc hc=>by
   show(w.heap.setIfInBounds b _)[c]?= _;rw[Array.getElem?_setIfInBounds];rw[if_neg (λe=>hc e.symm)]
  have hsame:({ w with heap:=w.heap.setIfInBounds b (.map q H) }:World).heap[b]?= U (.map q H):=by
   show(w.heap.setIfInBounds b _)[b]?= _;rw[Array.getElem?_setIfInBounds];simp[hblt]
  have hst:Step B w F γ M { w with heap:=w.heap.setIfInBounds b (.map q H) } F γ (upd M id (.arr eb (.pair (.int .i64) N) (ec l n y))):=
   ⟨λ_ h=>h,λc h=>S c (λe=>q3 (e ▸ h)),nx hM (by simp),λc h=>S c (by omega),rfl,rfl,rfl,by simp,λc h=>by have:=hb c h;simpa using this,λ_ h=>.inl h⟩
  refine⟨hst,hm.change hM (by simp) hst.hF hst.hw (λc hc=>?_) (λc _ hne=>⟨S c (λe=>hne (.inr (.inr (e ▸ q1)))),λh=>h⟩) (.inr (.inr ⟨hge,b,q,H,q1,hsame,q3,q4,q5,g1,g2,λi x C=>?_⟩))⟩;rcases hc with hc|⟨_,i,u,_,_,⟨A,_,_,hc,_⟩,_⟩|hc
  rw[q1]at hc;simp[Value.ownBlock]at hc;rw[q1]at hc;cases hc;exact .inr (.inr hc);obtain⟨e,k1,k2,k3,k4⟩:=g3 i x C;exact⟨e,k1,k2,k3,k4.mono (λ_ h=>h) (λ_ h=>h.elim) (λ_ _ _ h=>h)⟩
 refine⟨rfl,?_⟩;rcases Ih (n:=n) es.toList l 0 (by simpa using q6) hkey with ⟨a1,_,a3⟩|⟨j,e',x',a1,a2,a3,a4,_,a6⟩
 rw[a3]at O |-;refine⟨_,?_,O (es.push ⟨.int .i64 n,vx,ck⟩) (ck+1) (by simp[q6]) (by simp;omega) λi x C=>?_⟩;rw[q1];simp[Instr.mapUpdate,ud2 h1,hob,hck,Instr.findKey,ud2 h2,a1,hso];rcases uem i l.length with hi|hi
 rw[uaj hi]at C;obtain⟨e,k1,k2⟩:=q8 i x C;exact⟨e,by rw[Array.getElem?_push_lt (by omega)];rw[uam (by omega)]at k1;exact k1,k2⟩;rw[uae hi]at C;have hi0:i-l.length=0:=by
  have:=(uak.1 C).1;simp at this;omega
 rw[hi0]at C;simp at C;subst C;refine⟨⟨.int .i64 n,vx,ck⟩,?_,rfl,Q,W⟩;have:i=es.size:=by omega
 subst this;simp;have a2':es[j]?= U e':=by rw[<- ua5];exact a2
 rw[a6]at O |-;have hkx:=hkey j e' x' a2 a3;have hjl:j<l.length:=(uak.1 a3).1;have hsb:(Instr.keyThatStays e'.key (.int .i64 n)).run P w=.ok (.int .i64 n) w:=by
  rw[hkx,a4];simp[Instr.keyThatStays,Instr.sameBits]
 refine⟨_,?_,O (es.modify j λe=>{ e with key:=.int .i64 n,val:=vx }) ck (by simp[q6]) (by simp;omega) λi x C=>?_⟩;rw[q1];simp[Instr.mapUpdate,ud2 h1,hob,hck,Instr.findKey,ud2 h2,a1,a2',hsb,hso];by_cases hi:i=j;subst hi;rw[ua0 hjl]at C;cases C;exact⟨{ e' with key:=.int .i64 n,val:=vx },by rw[Array.getElem?_modify];simp[a2'],rfl,Q,W⟩;rw[ubh (λe=>hi e.symm)]at C;obtain⟨e,k1,k2⟩:=q8 i x C;exact⟨e,by rw[Array.getElem?_modify];simp[hi,Ne.symm hi,k1],k2⟩
def qnn{x:AV}{e:Eff}(h:IQ P t x=U e)(C:aE P w F R x v):e.wr=[]/\∃ u,(Instr.makeInterface t v).run P w=.ok u w/\aE P w F R e.v u:=by
 unfold IQ at h;split at h<;>try trivial
 rename_i el id i;cases h;obtain⟨_,b,j,rfl⟩:=C;exact⟨rfl,_,by simp[Instr.makeInterface,ud2 i],rfl,b,j,rfl⟩;rename_i d i _;split at h<;>try trivial
 rename_i tt q;split at h<;>try trivial
 rename_i y Q;cases h;obtain⟨j,H,N⟩:=qP Q C;have m:∀ ms,d ≠ .interface ms:=λms O=>by
  subst O;simp[kg,i]at q
 refine⟨rfl,.iface t v,?_,rfl,.inl ⟨t,v,by simp[cD],rfl,j,H,N⟩⟩;simp only[Instr.makeInterface,uep,ud2 i,ucl];cases d<;>first|(exact absurd rfl (m _))|rfl
def qay{xt:TypeId}{ok:Bool}{es:List (Int×Nat)}{t:Ty}{x:Int×t.den}{e:Eff}(h:Fx P ty ok es t x=U e)(O:av e.need)(S:aE P w F R (.c (.ic es t x)) v):
  e.wr=[]/\∃ u,(Instr.typeAssert v xt ty ok).run P w=.ok u w/\aE P w F R e.v u:=by
 have key:(∃ d,P.underlying ty=U d/\∀ ms,d ≠ .interface ms)->cD es x.1=U ty->∃ u,(Instr.typeAssert v xt ty ok).run P w=.ok u w/\aE P w F R (if ok then .tup [dE t x.2,.c (.bool Z)]else dE t x.2) u:=by
  rintro⟨d,H,i⟩ N;rcases Cj S.2 with ⟨ty',u,j,rfl,W⟩|⟨j,_⟩
  rw[N]at j;cases j;have Q:=fT (P:=P) (R:=R) W;cases ok with
  |true=>
   refine⟨.tuple #[u,.bool Z],?_,?_⟩;simp only[Instr.typeAssert,uep,ud2 H,ucl];cases d<;>first|(exact absurd rfl (i _))|simp
   exact⟨_,rfl,rfl,⟨u,rfl,Q⟩,⟨_,rfl,rfl,rfl⟩,uT⟩
  |false=>
   refine⟨u,?_,Q⟩;simp only[Instr.typeAssert,uep,ud2 H,ucl];cases d<;>first|(exact absurd rfl (i _))|simp
  rw[N]at j;cases j
 unfold Fx at h;split at h<;>try trivial
 rename_i fs k C;cases h;exact⟨rfl,key ⟨_,C,λms m=>by cases m⟩ O⟩;rename_i q k C;cases h;exact⟨rfl,key ⟨_,C,λms m=>by cases m⟩ O⟩
def qqm(Q:kN P Γ){fv:AV}{args:List AV}{e:Eff}{vf:Value}(hm:MemOK P B w F γ M)(hb:∀ b,F b->b<w.heap.size)(hB:B<=w.heap.size)(O:∀ i y,m i=U y->M i=U y)(h:J0 Γ fv args m=U e)(hn:av e.need)(hf:aE P w F (ap M γ) fv vf)(ha:bj P w F (ap M γ) args vs):
  e.wr=[]/\∃ f j,vf=.func (.func f) #[] j/\(∀ args w2,(callFunc f args).run P w2=.ok (.enter f args) w2)/\Calls P f (vs.toArray++j) w λen w'=>∃ u,en=.returned u/\Step B w F γ M w' F γ M/\MemOK P B w' F γ M/\aE P w' F (ap M γ) e.v u:=by
 unfold J0 at h;split at h<;>try trivial
 split at h<;>try trivial
 rename_i f j W u hrs;split at h<;>try trivial
 rename_i ct hct;split at h<;>try trivial
 rename_i C;split at h<;>try trivial
 rename_i x n hx;cases h;obtain⟨F1,s1,m1,t1,r1⟩:=iy hm hb (cX.of O) hrs ha;obtain⟨_,S,rfl,e1,e2⟩:=hf;obtain⟨hn1,hn2⟩:=jd.1 hn;have t:bj P w F1 (ap (ax M u) γ) (j.map .c) S.toList:=AX (by simpa using e1) (aN.mono s1.hF s1.hw s1.hR j (λ_ _ h=>h) (by simpa using e2));have hps:=mK Q hx hn1 (r1.append t);obtain⟨q1,q2⟩:=Q.1 f ct hct;refine⟨rfl,f,S,rfl,q1,?_⟩;have hc:=q2 w F1 x _ s1.bd hps hn2;have du:(vs++S.toList).toArray=vs.toArray++S:=by simp
 rw[du]at hc;refine hc.mono λen w2 hp=>?_;obtain⟨v2,F2,rfl,q,hF2,hF2',N⟩:=hp;obtain⟨s2,m2⟩:=Step.below (F':=F) hm hB hb q (λ_ h=>h) (λb H=>⟨.inl H,uca (hb b H) q.size⟩);exact⟨v2,rfl,s2,m2,tN (N.flat C)⟩
def TJ{e:Eff}{S:Sem Unit}(m:execOp a.eval o=(do S;pure .skip:Sem Next))(i:e.v=.dead)(t:S.run P w=.ok () w')(u:Step B w F γ M w' F γ (ax M e.wr))(q:MemOK P B w' F γ (ax M e.wr)):sV P B o a w F γ M e.v e.wr:=by
 rw[i];intro K Q j;unfold Oper.wp;have:(execOp a.eval o).run P w=.ok .skip w':=by
  rw[m];simp[t]
 rw[this];exact j undef w' F γ u q trivial
def qeg(hΓ:kN P Γ){op:Op}{vs:List AV}{e:Eff}(ho:o.op=op)(hm:MemOK P B w F γ M)(hb:∀ b,F b->b<w.heap.size)(hB:B<=w.heap.size)(H:∀ i y,m i=U y->M i=U y)(hd:m d=V->M d=V)(hc:Hh P Γ d op vs m=U e)(hn:av e.need)(C:bj P w F (ap M γ) vs (op.operands.toList.map a.eval)):sV P B o a w F γ M e.v e.wr:=by
 unfold Hh at hc;split at hc<;>try trivial
 rename_i t n ps v;split at hc<;>try trivial
 rename_i el ht;split at hc<;>try trivial
 rename_i hcond;obtain⟨rfl,hps⟩:=hcond;obtain⟨x0,rfl⟩:∃ x0,ps = #[(0,x0)]:=by
  have q:ps.toList.length=1:=by simpa using ufo List.length hps
  match hp:ps.toList,q with
  |[(i,x0)],_=>
   rw[hp]at hps;simp at hps;subst hps;exact⟨x0,by rw[<- uc5,hp]⟩
 have hx:aE P w F (ap M γ) v (a.eval x0):=by
  have q:(Op.buildSlice t 1 #[(0,x0)]).operands.toList.map a.eval=[a.eval x0]:=by simp[Op.operands]
  rw[q]at C;exact C.1
 obtain⟨u,w',γ',q,N,O,h4⟩:=qbp hm hb hB H hd ht hc hx;exact ir (cL (S:=Instr.buildSlice t 1 #[(0,a.eval x0)]) (by unfold execOp;rw[ho];simp) q) N O h4;rename_i t n0 c0 kn n kc c;obtain⟨⟨_,e1,_⟩,⟨_,e2,_⟩,_⟩:=C;obtain⟨u,w',γ',q,N,O,h4⟩:=qto (kn:=kn) (kc:=kc) hm hb hB hd hc hn;exact ir (cL (S:=Instr.makeSlice t (a.eval n0) (a.eval c0)) (by unfold execOp;rw[ho]) (by rw[e1,e2];exact q)) N O h4;rename_i t x0 id sz i off;obtain⟨u,γ',q,N,O,h4⟩:=qql hm hb H hd hc hn C.1;exact ir (cL (S:=Instr.loadAt t (a.eval x0)) (by unfold execOp;rw[ho]) q) N O h4;rename_i t x0 v0 id sz i off k;obtain⟨q,w',N,O,h4⟩:=zaw hm hb H hc hn C.1 C.2.1;exact TJ (S:=Instr.storeAt t (a.eval x0) (a.eval v0)) (by unfold execOp;rw[ho]) q N O h4;rename_i j ts s k;split at hc<;>try trivial
 rename_i t t' hts;split at hc<;>try trivial
 rename_i htt;subst htt;have W:(Op.call ⟨.builtin .append,j,ts⟩).operands.toList.map a.eval=(j.map a.eval).toList:=by simp[Op.operands,Call.operands]
 rw[W]at C;obtain⟨v1,v2,hv,hs,hx⟩:∃ v1 v2,j.map a.eval = #[v1,v2]/\aE P w F (ap M γ) s v1/\aE P w F (ap M γ) (.c (.own k)) v2:=by
  cases hl:(j.map a.eval).toList with
  |nil=>rw[hl]at C;exact C.elim
  |cons v r=>cases r with
   |nil=>rw[hl]at C;exact C.2.elim
   |cons v2 r=>cases r with
    |nil=>rw[hl]at C;exact⟨v,v2,by rw[<- uc5,hl],C.1,C.2.1⟩
    |cons _ _=>rw[hl]at C;exact C.2.2.elim
 have hts':ts = #[t,t]:=by rw[<- uc5,hts]
 obtain⟨u,w',γ',N,O,h4,h5⟩:=qaw (ty:=0) hm hb hB H hd hc hn hs hx;refine ir ?_ O h4 h5;unfold execOp;rw[ho];simp only[resolve,uep,uer,ucl,invoke,hv,hts'];have hbb:∀ ty cs,builtin .append #[t,t] ty cs #[v1,v2]=(do pure (.value (<- Builtin.append_ #[t,t] 0 #[v1,v2])):Sem Next):=λty cs=>rfl;rw[hbb];simp[N];rename_i t;obtain⟨u,w',γ',q,N,O,h4⟩:=qtq hm hb hB hd hc;exact ir (cL (S:=Instr.makeMap t V) (by unfold execOp;rw[ho];rfl) q) N O h4;rename_i t x0 y0 id n;obtain⟨hx,⟨_,hy,_⟩,_⟩:=C;obtain⟨q,u,N,O⟩:=qqn hm H hc hx;rw[q];exact dl hm hb (cL (S:=Instr.lookup t (a.eval x0) (a.eval y0) Y) (by unfold execOp;rw[ho]) (by rw[hy];exact N)) O;rename_i t x0 y0 z0 id n v;obtain⟨hx,⟨_,hy,hin⟩,hv,_⟩:=C;obtain⟨q,w',N,O,h4⟩:=zcp hm hb H hc hn hin hx hv;exact TJ (S:=Instr.mapUpdate t (a.eval x0) (a.eval y0) (a.eval z0)) (by unfold execOp;rw[ho]) q (by rw[hy];exact N) O h4;rename_i t x0 v;obtain⟨q,u,N,O⟩:=qnn hc C.1;rw[q];exact dl hm hb (cL (S:=Instr.makeInterface t (a.eval x0)) (by unfold execOp;rw[ho]) N) O;rename_i x0 xt ty ok es t x;obtain⟨q,u,N,O⟩:=qay (xt:=xt) hc hn C.1;rw[q];exact dl hm hb (cL (S:=Instr.typeAssert (a.eval x0) xt ty ok) (by unfold execOp;rw[ho]) N) O;rename_i f first cap id
 split at hc<;>try trivial
 rename_i hcond;cases hc;obtain⟨q,N⟩:=hcond;obtain⟨x0,rfl⟩:∃ x0,first = #[x0]:=Array.size_eq_one_iff.1 q
 obtain rfl:=Array.eq_empty_of_size_eq_zero N;have W:(Op.makeFunc (.func f) #[x0] #[]).operands.toList.map a.eval=[a.eval x0]:=by simp[Op.operands]
 rw[W]at C;obtain⟨⟨_,b,e1,e2⟩,_⟩:=C;refine dl hm hb (cL (S:=Instr.makeFunc (.func f) ((#[x0]:Array Operand).map a.eval) ((#[]:Array Operand).map a.eval)) (u:=.func (.func f) #[a.eval x0] #[]) (by unfold execOp;rw[ho]) (by simp[Instr.makeFunc])) ⟨rfl,b,e1,by rw[e2]⟩;rename_i f0 j ts fv args;have W:(Op.call ⟨.value f0,j,ts⟩).operands.toList.map a.eval=a.eval f0::(j.map a.eval).toList:=by simp[Op.operands,Call.operands]
 rw[W]at C;obtain⟨q,f,caps,e1,e2,e3⟩:=qqm hΓ hm hb hB H hc hn C.1 C.2;rw[q];intro K Q hK;unfold Oper.wp;have hrun:(execOp a.eval o).run P w=.ok (.enter f (j.map a.eval++caps)) w:=by
  unfold execOp;rw[ho];simp[resolve,e1,Deferred.ofValue,invoke,e2]
 rw[hrun];show Calls P f (j.map a.eval++caps) w _;rw[ube]at e3;refine e3.mono λen w2 hp=>?_;obtain⟨u,rfl,s1,m1,r1⟩:=hp;exact hK u w2 F γ s1 m1 r1
def UU{j:String}{S:Bool}(h:JC P j ty=U (f,S))(ad:Addr)(t:Array Value):
  (S=Y->(callMethod (.iface ty (.pointer (U ad))) j t).run P w=(callFunc f (#[.pointer (U ad)]++t)).run P w) /\
  (S=Z->∀ u,w.cell? ad=U u->(callMethod (.iface ty (.pointer (U ad))) j t).run P w=(callFunc f (#[u]++t)).run P w):=by
 unfold JC at h;split at h<;>try trivial
 rename_i i el hi hu;split at h<;>try trivial
 rename_i mm C;split at h<;>try trivial
 rename_i W pr hf;split at h<;>try trivial
 rename_i O;obtain⟨O,Q⟩:=O;simp at h;obtain⟨rfl,H⟩:=h;have F:mm.path = #[]:=by simpa using O
 have hd:P.types.size+Made.depth-1+1=P.types.size+Made.depth:=by unfold Made.depth;omega
 have key:∀ u,(method (P.types.size+Made.depth-1+1) ty (.pointer (U ad)) j).run P w=.ok (W,u) w->(callMethod (.iface ty (.pointer (U ad))) j t).run P w=(callFunc W (#[u]++t)).run P w:=λu hm=>by
  rw[hd]at hm;simp only[callMethod,uep,run_program,ucl];rw[hm];simp
 refine⟨λq=>key _ ?_,λq u hc=>key u ?_⟩;have m:pr=true:=by rw[q]at H;simpa using H
 subst m;simp[method,typeInfo,hi,C,F,hf,follow,receiverAt,ud2 hu,Place.get];have m:pr=false:=by rw[q]at H;simpa using H
 subst m;obtain⟨_,h2,h3⟩:=Q.resolve_left (by simp);obtain⟨ds,N⟩:=uar.1 h2;have hl:(loadVar el ad).run P w=.ok u w:=by simp[loadVar,yT N,h3,Sem.run,hc]
 have hw:∀ s:String,(Builtin.ssaWrapNilChk_ #[ty] ty #[.pointer (U ad),strVal "", strVal s]).run P w=.ok (.pointer (U ad)) w:=λs=>rfl;simp[method,typeInfo,hi,C,F,hf,follow,receiverAt,ud2 hu,Place.get,hw,asAddr,hl]
end
section
variable {P:Program} {B:Nat} {o:Oper} {a:Act} {w w':World} {F F':Nat->Prop} {γ γ':Nat->Value} {M m:aT} {R:Nat->Value->Prop} {Γ:Gm}
def WL{idx:List Nat}:{xs:List AV} -> {vs:List Value}->bj P w F R xs vs->∀ (q i:Nat) (x:AV) (v:Nat×Value),(idx.zip xs)[q]?= U (i,x)->(idx.zip vs)[q]?= U v->v.1=i/\aE P w F R x v.2:=by
 induction idx with
 |nil=>intro xs vs _ q i x v h;simp at h
 |cons k idx C=>
  intro xs vs t q i x v j m;cases xs with
  |nil=>simp at j
  |cons y xs=>cases vs with
   |nil=>exact t.elim
   |cons u vs=>cases q with
    |zero=>
     simp at j m;obtain⟨rfl,rfl⟩:=j;subst m;exact⟨rfl,t.1⟩
    |succ q=>exact C t.2 q i x v (by simpa using j) (by simpa using m)
def i7(P:Program)(w:World)(F:Nat->Prop)(R:Nat->Value->Prop)(j:Tmp->Value):AV->Value->Prop
 |.maybe g i v,u=>j g=.bool i->aE P w F R v u
 |v,u=>aE P w F R v u
def nV(P:Program)(w:World)(F:Nat->Prop)(R:Nat->Value->Prop)(i:Tmp->Value):List AV->List Value->Prop
 |[],[]=>True
 |a::r,v::s=>i7 P w F R i a v/\nV P w F R i r s
 |_,_=>False
def i7.plain{j:Tmp->Value}{x:AV}(h:i7 P w F R j x v)(i:fX x=Z):aE P w F R x v:=by
 cases x<;>first|exact h|simp[fX]at i
def nV.plain{j:Tmp->Value}:{xs:List AV} -> {vs:List Value}->nV P w F R j xs vs->xs.all fX=Z->bj P w F R xs vs
 |[],[],_,_=>trivial
 |x::r,v::s,h,i=>by
  simp only[ueg,uda]at i;exact⟨h.1.plain i.1,nV.plain h.2 i.2⟩
 |[],_::_,h,_=>h.elim
 |_::_,[],h,_=>h.elim
def UL{c x:AC}{u:List (Nat×Ob)}(j:m d=V)(h:me m c=U (x,u))(M:aT):ax M u d=M d:=by
 unfold me at h;split at h;rename_i id;split at h<;>try trivial
 rename_i i;split at h<;>try trivial
 obtain⟨_,rfl⟩:=h;exact fa _ _ (λe=>by subst e;rw[j]at i;cases i);simp at h;obtain⟨_,rfl⟩:=h;rfl;simp at h;obtain⟨_,rfl⟩:=h;rfl
def UM(i:m d=V):{cs xs:List AC} -> {u:List (Nat×Ob)}->jr m cs=U (xs,u)->∀ M:aT,ax M u d=M d
 |[],xs,u,h,M=>by
  obtain⟨_,rfl⟩:=h;rfl
 |c::r,xs,u,h,M=>by
  simp only[jr]at h;split at h;rename_i j q;obtain⟨_,rfl⟩:=h;rw[gc,UM i q,UL i j];cases h
def qx4{x y:AV}{u:List (Nat×Ob)}(j:m d=V)(h:pD m x=U (y,u))(M:aT):ax M u d=M d:=by
 unfold pD at h;split at h<;>try trivial
 split at h<;>try trivial
 rename_i i;obtain⟨_,rfl⟩:=h;exact UL j i M;split at h<;>try trivial
 rename_i i;obtain⟨_,rfl⟩:=h;exact UM j i M
def UK(i:m d=V):{cs xs:List AV} -> {u:List (Nat×Ob)}->dK m cs=U (xs,u)->∀ M:aT,ax M u d=M d
 |[],xs,u,h,M=>by
  obtain⟨_,rfl⟩:=h;rfl
 |c::r,xs,u,h,M=>by
  simp only[dK]at h;split at h;rename_i j q;obtain⟨_,rfl⟩:=h;rw[gc,UK i q,qx4 i j];cases h
def qqk{c:AC}{tt:Ty}{l:List tt.den}(h:Jy c=U ⟨tt,l⟩)(i:bc P w F R c v):∃ A j,v=.slice A l.length j/\aA w F (.sl tt) l (λ_ u=>u=v):=by
 unfold Jy at h;split at h<;>try trivial
 cases h;obtain⟨A,c,m,_⟩:=id i;exact⟨A,c,m.symm,i⟩;cases h;obtain⟨A,m,i⟩:=i;exact⟨A,_,m,i⟩
def JU{x:Option Operand}{l:Option Int}{r m:List AV}{us:List Value}(h:uS x.isSome r=U (l,m))(j:bj P w F R r (x.toList.map a.eval++us)):
  (∃ k:IntKind,x.map a.eval=l.map (.int k))/\bj P w F R m us:=by
 rcases qve h j with ⟨i,rfl,rfl⟩|⟨i,k,n,v,C,rfl,q,t,u⟩
 cases x with
 |none=>exact⟨⟨.i64,rfl⟩,by simpa using j⟩
 |some x=>simp at i
 cases x with
 |none=>simp at i
 |some x=>
  obtain⟨rfl,rfl⟩:=q;exact⟨⟨k,by simp[t]⟩,u⟩
def qey{γ:Nat->Value}{m M:aT}{lo hi mx:Bool}{x:AV}{r:List AV}{e:Eff}(hm:MemOK P B w F γ M)(hb:∀ b,F b->b<w.heap.size)(hB:B<=w.heap.size)(hsub:∀ i y,m i=U y->M i=U y)(hd:m d=V->M d=V)(h:Hn P d t lo hi mx x r m=U e)(hn:av e.need)(hx:aE P w F (ap M γ) x vx)(hr:bj P w F (ap M γ) r vs):
  lo=Y/\hi=Z/\mx=Y/\∃ vh u γ',vs=[vh]/\(Instr.sliceAt t vx V (U vh) V).run P w=.ok u w/\Step B w F γ M w F γ' (ax M e.wr)/\MemOK P B w F γ' (ax M e.wr)/\aE P w F (ap (ax M e.wr) γ') e.v u:=by
 unfold Hn at h;split at h<;>try trivial
 rename_i id k q;split at h<;>try trivial
 rename_i el ety tt l ht hid hmd;split at h<;>try trivial
 rename_i hc;cases h;obtain⟨n1,n2⟩:0<=q/\q<=l.length:=hn;obtain⟨H,hc⟩:=hc;obtain⟨ti,hti⟩:=uar.1 hc.1;cases vs with
 |nil=>exact hr.elim
 |cons vh vs=>
  cases vs with
  |cons _ _=>exact hr.2.elim
  |nil=>
   obtain⟨⟨_,rfl,_⟩,_⟩:=hr;have hM:=hsub _ _ hid;have hMd:=hd hmd;have hv:=ez hM (by simp) hx.2;subst hv;obtain⟨xs,q1,q2,q3,q4⟩:=gg.of (hm.ob id _ hM) H;have O:(l.take q.toNat).length=q.toNat:=by simp;omega
   have W:=q1.1;have hle:q.toNat*tt.size<=l.length*tt.size:=ubd _ (by omega);have hrows:bU w F tt (l.take q.toNat) (xs.take (q.toNat*tt.size)):=λi y hi=>by
    have hi':l[i]?= U y:=by
     rw[ub1]at hi;split at hi;exact hi;cases hi
    have hiq:i<q.toNat:=by
     rw[ub1]at hi;split at hi;assumption;cases hi
    refine(q3 i y hi').mono (λ_ h=>h) (λ_ _=>rfl) (λj u hj hu=>?_);have:i*tt.size+j<q.toNat*tt.size:=by
     have:(i+1)*tt.size<=q.toNat*tt.size:=ubd _ hiq;rw[ue8]at this;omega
    rw[ub1,if_pos this];exact hu
   refine⟨rfl,rfl,rfl,.int k q,?_⟩;rcases q1.2 with ⟨hnil,hz⟩|⟨g,C,cur,hsl,hg,hcur,hcap,hmax,hsz,htake⟩
   have S:q.toNat=0:=by omega
   have N:(Instr.sliceAt t (γ id) V (U (.int k q)) V).run P w=.ok (.slice V 0 0) w:=by
    rw[hnil];have Q:(Instr.sliceBounds Z 0 0 V (U (.int k q)) V).run P w=.ok (0,0,0) w:=by
     simp[Instr.sliceBounds,kY (y:=0) n1 (by omega),S]
    simp[Instr.sliceAt,Instr.slice,ud2 ht,Q,gw hti]
   obtain⟨s1,s2⟩:=CJ hm hb hB hM hMd (ub7 _ _) (by rw[O,S];exact ucr w B ety tt.size) (.inr (.inr rfl))
    (λi y hi=>by
     rw[S]at hi;simp at hi) H H
   exact⟨_,_,rfl,N,s1,s2,lP rfl⟩;have N:(Instr.sliceAt t (γ id) V (U (.int k q)) V).run P w=.ok (.slice (U ⟨g,0,V⟩) q.toNat C) w:=by
    rw[hsl];have Q:(Instr.sliceBounds Z l.length C V (U (.int k q)) V).run P w=.ok (0,q.toNat,C) w:=by
     simp[Instr.sliceBounds,kY (y:=C) n1 (by omega)]
    simp only[Instr.sliceAt,Instr.slice,ud2 ht,Q,gw hti,uep,Result.andThen];simp[Addr.add]
   obtain⟨s1,s2⟩:=CJ hm hb hB hM hMd (ub7 _ _)
    (by
     rw[O];refine⟨by rw[uc3,W];omega,.inr ⟨g,C,cur,rfl,hg,hcur,by omega,hmax,hsz,?_⟩⟩;rw[<- htake,ud5];congr 1;omega)
    (.inl (by rw[hsl];rfl)) hrows H H
   exact⟨_,_,rfl,N,s1,s2,lP rfl⟩
def S1:{vs:List AV} -> {i:List AC} -> {u:List (Nat×Ob)} -> {us:List Value}->lL vs=U (i,u)->bj P w F R vs us->u=[]/\bj P w F R (i.map .c) us
 |[],_,_,us,h,j=>by
  obtain⟨rfl,rfl⟩:=h;exact⟨rfl,j⟩
 |.c a::r,i,u,[],h,j=>j.elim
 |.c a::r,i,u,v::us,h,j=>by
  simp only[lL]at h;split at h<;>try trivial
  rename_i y _ m;cases h;exact⟨rfl,j.1,(S1 m j.2).2⟩
 |.dead::_,_,_,_,h,_=>by simp[lL]at h
 |.agg _::_,_,_,_,h,_=>by simp[lL]at h
 |.tup _::_,_,_,_,h,_=>by simp[lL]at h
 |.optr _ _ _ _::_,_,_,_,h,_=>by simp[lL]at h
 |.aptr _ _ _::_,_,_,_,h,_=>by simp[lL]at h
 |.maybe _ _ _::_,_,_,_,h,_=>by simp[lL]at h
def Vq{tt:Ty}:(n:Nat) -> {cs:List AC} -> {l:List tt.den} -> {g:Nat->Value->Prop}->se.splitN tt n cs=U l->aN P w F R cs g ->
  l.length=n/\∀ (i:Nat) (x:tt.den),l[i]?= U x->aA w F tt x (λj u=>g (i*tt.size+j) u)
 |0,cs,l,g,h,_=>by
  cases cs with
  |nil=>
   simp only[se.splitN,uck]at h;subst h;exact⟨rfl,λi x m=>by simp at m⟩
  |cons _ _=>simp[se.splitN]at h
 |n+1,cs,l,g,h,t=>by
  simp only[se.splitN]at h;split at h<;>try trivial
  rename_i x m;split at h<;>try trivial
  rename_i O N;cases h;obtain⟨C,H⟩:=Vq n N (t.drop_ tt.size);refine⟨by simp[C],λi y q=>?_⟩;cases i with
  |zero=>
   simp at q;subst q;have:=(aA.dec tt m (t.take_ tt.size)).1;simpa using this
  |succ i=>
   have:=H i y (by simpa using q);have e:∀ j,tt.size+(i*tt.size+j)=(i+1)*tt.size+j:=λj=>by rw[ue8];omega
   simpa only[e]using this
def qz9{x:AV}{e:Eff}(hm:MemOK P B w F γ M)(hb:∀ b,F b->b<w.heap.size)(q:∀ i y,m i=U y->M i=U y)(h:se P t x m=U e)(hr:aE P w F (ap M γ) x v):
  ∃ u F',(Instr.sliceAt t v V V V).run P w=.ok u w/\Step B w F γ M w F' γ (ax M e.wr)/\MemOK P B w F' γ (ax M e.wr)/\aE P w F' (ap (ax M e.wr) γ) e.v u:=by
 unfold se at h;split at h<;>try trivial
 rename_i n el id off ht;split at h<;>try trivial
 rename_i i tt bt cs hi htt C;split at h<;>try trivial
 rename_i cs' Q;split at h<;>try trivial
 rename_i bf N;split at h<;>try trivial
 rename_i l hl;split at h<;>try trivial
 rename_i hc;cases h;obtain⟨F1,b,g1,g2,s1,m1,r1⟩:=QI hm hb q C Q C;obtain⟨H,arr,q1,hv,q3,_,_,_,_⟩:=lw hm (q _ _ C) hr.2;have O:H=b:=by rw[g1]at q1;cases q1;rfl
 subst O;subst hv;obtain⟨W,d2⟩:=Vq n hl (uc N r1).2;have S:=gw (w:=w) hi;refine⟨.slice (U ⟨H,off,V⟩) n n,F1,?_,s1,m1,rfl,?_⟩;simp only[Instr.sliceAt,uep,ud2 ht,ucl,Instr.sureAddr,uer,Instr.sliceBounds,S,Nat.zero_mul];have:(⟨H,off,V⟩:Addr).add 0=⟨H,off,V⟩:=by simp[Addr.add]
 simp[this];refine⟨U ⟨H,off,V⟩,n,by rw[W],by rw[W];exact ue6 _,by unfold maxLen;omega,λk x hx=>⟨⟨H,off,V⟩,rfl,g2,?_⟩⟩;have:=d2 k x hx;refine this.mono (λ_ h=>h) (λ_ _=>rfl) λj u _ hu=>?_;rw[i8];exact hu
def Ig{n:Int}:(arr:List MapEntry)->(es:List (Int×Nat))->(i:Nat)->arr.map (λe=>(e.key,e.val))=es.map (λx=>(Value.int .i64 x.1,Value.func (.func x.2) #[] #[])) ->
  ∃ j,Instr.findNow (.int .i64) (.int .i64 n) arr i=U ((es.find? (λx=>x.1==n)).map λx=>(j,Value.func (.func x.2) #[] #[]))
 |[],[],_,_=>⟨0,rfl⟩
 |[],_::_,_,h=>by simp at h
 |_::_,[],_,h=>by simp at h
 |e::arr,(k,f)::es,i,h=>by
  simp at h;obtain⟨⟨q,t⟩,u⟩:=h;simp only[Instr.findNow,q,Instr.sameNow];by_cases m:n=k;subst m;exact⟨i,by simp[t]⟩;obtain⟨j,w⟩:=Ig (n:=n) arr es (i+1) u;refine⟨j,?_⟩;have e1:(n==k)=false:=by rw[ubv];exact m
  have e2:(k==n)=false:=by rw[ubv];omega
  simp[e1,e2,w]
def qqo{C H:TypeId}{arr:Array MapEntry}{F r:Nat}{es:List (Int×Nat)}(O:P.underlying t=U (.map C H))(u:P.underlying C=U (.int .i64))(hz:(zeroValue H).run P w=.ok .nilFunc w)(S:w.heap[r]?= U (.map arr F))(Q:arr.toList.map (λe=>(e.key,e.val))=es.map (λx=>(Value.int .i64 x.1,Value.func (.func x.2) #[] #[])))(n:Int):
  (Instr.lookup t (.map (U r)) (.int .i64 n) Z).run P w=.ok (.tuple #[ie (es.find? (λx=>x.1==n)),.bool (es.find? (λx=>x.1==n)).isSome]) w:=by
 obtain⟨j,q⟩:=Ig arr.toList es 0 Q;have i:(Instr.checkKey arr.isEmpty 10000 C (.int .i64 n)).run P w=.ok () w:=AZ u arr.isEmpty 9999 n;have m:(getObj r).run P w=.ok (.map arr F) w:=by simp[getObj,Sem.run,S]
 cases N:es.find? (λx=>x.1==n)with
 |none=>
  rw[N]at q;simp[Instr.lookup,ud2 O,m,i,Instr.findKey,ud2 u,q,hz,ie]
 |some x=>
  rw[N]at q;simp[Instr.lookup,ud2 O,m,i,Instr.findKey,ud2 u,q,ie]
def qef(hΓ:kN P Γ){op:Op}{vs:List AV}{e:Eff}(ho:o.op=op)(hm:MemOK P B w F γ M)(hb:∀ b,F b->b<w.heap.size)(hB:B<=w.heap.size)(W:∀ i y,m i=U y->M i=U y)(hd:m d=V->M d=V)(hc:Hg P Γ d op vs m=U e)(hn:av e.need)(H:bj P w F (ap M γ) vs (op.operands.toList.map a.eval)):sV P B o a w F γ M e.v e.wr:=by
 unfold Hg at hc;split at hc
 rename_i x0 x;cases hc;exact dl hm hb (by unfold execOp;rw[ho];rfl) H.1
 rename_i x0 x;cases hc;exact dl hm hb (by unfold execOp;rw[ho];rfl) H.1
 rename_i el;split at hc<;>try trivial
 rename_i z hz hmd;split at hc<;>try trivial
 rename_i cs hcs;cases hc;obtain⟨z1,z2,_⟩:=o6 hcs (tf (P:=P) (w:=w) (F:=F) (R:=ap M γ) z);obtain⟨s1,s2⟩:=SZ (ty:=el) hm hb hB (hd hmd) z1 z2;have hzv:(zeroValue el).run P w=.ok z w:=by
  cases hi:P.info? el with
  |none=>simp[hi]at hz
  |some i=>simp[hi]at hz;simp[zeroValue,typeInfo,hi,hz]
 refine ir (cL (S:=Instr.alloc el Z (.tuple #[])) (u:=.pointer (U ⟨w.heap.size,0,V⟩)) (w':=w.alloc (.cells z.cells el)) (by unfold execOp;rw[ho]) ?_) s1 s2 Ul;simp[Instr.alloc,hzv,newVar,newRow,newObj,Sem.run]
 rename_i el x0 x;split at hc<;>try trivial
 rename_i cs hcs hmd;cases hc;obtain⟨z1,z2,_⟩:=o6 hcs H.1;obtain⟨s1,s2⟩:=SZ (ty:=el) hm hb hB (hd hmd) z1 z2;refine ir (cL (S:=Instr.box el (a.eval x0)) (u:=.pointer (U ⟨w.heap.size,0,V⟩)) (w':=w.alloc (.cells (a.eval x0).cells el)) (by unfold execOp;rw[ho]) ?_) s1 s2 Ul;simp[Instr.box,newVar,newRow,newObj,Sem.run]
 rename_i xs t ps;split at hc<;>try trivial
 rename_i v hv;cases hc;have N:(Op.build t ps).operands.toList.map a.eval=ps.toList.map (λp=>a.eval p.2):=by simp[Op.operands]
 rw[N]at H;have hz:=WL (idx:=ps.toList.map (·.1)) H;have he:((ps.toList.map (·.1)).zip (ps.toList.map λp=>a.eval p.2))=ps.toList.map λp=>(p.1,a.eval p.2):=by
  rw[List.zip_map']
 rw[he]at hz;have hlen:=H.length;obtain⟨u,O,h2⟩:=qbq (ps:=ps.map λp=>(p.1,a.eval p.2)) hv (by simp at hlen |-;omega) (λk i x v O h2=>hz k i x v O (by simpa using h2));refine dl hm hb (cL (S:=Instr.build t (ps.map λp=>(p.1,a.eval p.2))) ?_ O) h2;unfold execOp;rw[ho]
 rename_i xs t n ps;split at hc<;>try trivial
 rename_i el ht hmd;split at hc<;>try trivial
 rename_i i tt xs' u hi htt hrs;split at hc<;>try trivial
 rename_i hcond;obtain⟨hlt,c1,c2,c3,c4,c5⟩:=hcond;obtain⟨z,hz,hzs⟩:∃ z,i.zero=U z/\z.cells.size=tt.size:=by
  cases hz:i.zero with
  |none=>simp[hz]at c5
  |some z=>exact⟨z,rfl,by simpa[hz]using c5⟩
 split at hc<;>try trivial
 rename_i l hl;split at hc<;>try trivial
 rename_i hln;cases hc;have N:(Op.buildSlice t n ps).operands.toList.map a.eval=ps.toList.map (λp=>a.eval p.2):=by simp[Op.operands]
 rw[N]at H;obtain⟨F1,s1,m1,t1,r1⟩:=iy hm hb (cX.of W) hrs H;have hz':=WL (idx:=ps.toList.map (·.1)) r1;have he:((ps.toList.map (·.1)).zip (ps.toList.map λp=>a.eval p.2))=ps.toList.map λp=>(p.1,a.eval p.2):=by
  rw[List.zip_map']
 rw[he]at hz';have hlen:=r1.length;have hMd:ax M u d=none:=by rw[UK hmd hrs];exact hd hmd
 obtain⟨v,w',γ',O,s2,m2,r2⟩:=qbo (ps:=ps.map λp=>(p.1,a.eval p.2)) m1 s1.bd hB hMd ht hi hz c1 hzs c2 c3 hl hln (by simp at hlen |-;omega) (λk i x v O h2=>hz' k i x v O (by simpa using h2)) hlt;refine ir (cL (S:=Instr.buildSlice t n (ps.map λp=>(p.1,a.eval p.2))) (w':=w') ?_ O) (F':=F1) (γ':=γ') ?_ ?_ ?_;unfold execOp;rw[ho];rw[gc];exact s1.trans s2;rw[gc];exact m2;rw[gc];exact r2
 rename_i t x0 x;obtain⟨O,u,h2,h3⟩:=S2 hm W hc hn H.1;rw[O];exact dl hm hb (cL (S:=Instr.loadAt t (a.eval x0)) (by unfold execOp;rw[ho]) h2) h3
 rename_i t x0 v0 x v;obtain⟨O,w',F1,h2,h3,h4⟩:=zax hm hb W hc hn H.1 H.2.1;rw[O];intro K Q hK;unfold Oper.wp;have:(execOp a.eval o).run P w=.ok .skip w':=by
  unfold execOp;rw[ho];simp[h2]
 rw[this];exact hK undef w' F1 γ h3 h4 trivial
 rename_i x0 x;split at hc<;>try trivial
 rename_i id off;cases hc;obtain⟨⟨O,b,h2,h3⟩,_⟩:=H;refine dl hm hb (u:=a.eval x0) ?_ ⟨O,b,h2,h3⟩;unfold execOp;rw[ho];simp only[h3];rfl;rename_i cs;cases hc;obtain⟨⟨O,ad,h2,h3⟩,_⟩:=H;refine dl hm hb (u:=a.eval x0) ?_ ⟨O,ad,h2,h3⟩;unfold execOp;rw[ho];simp only[h2];rfl
 rename_i bo t x0 y0 yt x y;split at hc;rename_i v hv;cases hc;have key:ya P t=Z->∀ es (t0:Ty) (z:Int×t0.den) (vx:Value),bc P w F (ap M γ) (.ic es t0 z) vx->∀ q:BinOp,q=.eql\/q=.neq->(do eqGuard q t x0 (.const .nilIface) vx .nilIface;binOp q t vx .nilIface:Sem Value).run P w=.ok (.bool (if q=.eql then (cD es z.1).isNone else !(cD es z.1).isNone)) w:=λhu es t0 z vx hx q hq=>by
  obtain⟨ms,hms⟩:=qnk hu;rcases Cj hx with ⟨ty,u,i1,i2,_⟩|⟨i1,i2⟩
  subst i2;have he:(Op.equalIn (9999+1) t (.iface ty u) .nilIface).run P w=.ok Y w:=qnl hms;have he2:Op.equal t (.iface ty u) .nilIface=Op.equalIn (9999+1) t (.iface ty u) .nilIface:=rfl;rcases hq with rfl|rfl
  have O:binOp .eql t (.iface ty u) .nilIface=(do pure (.bool (<- Op.equal t (.iface ty u) .nilIface))):=rfl;rw[O,he2];simp[eqGuard,he,i1];have O:binOp .neq t (.iface ty u) .nilIface=(do pure (.bool (!(<- Op.equal t (.iface ty u) .nilIface)))):=rfl;rw[O,he2];simp[eqGuard,he,i1];subst i2;have he:(Op.equalIn (9999+1) t .nilIface .nilIface).run P w=.ok Z w:=qnm hms;have he2:Op.equal t .nilIface .nilIface=Op.equalIn (9999+1) t .nilIface .nilIface:=rfl;rcases hq with rfl|rfl
  have O:binOp .eql t .nilIface .nilIface=(do pure (.bool (<- Op.equal t .nilIface .nilIface))):=rfl;rw[O,he2];simp[eqGuard,he,i1];have O:binOp .neq t .nilIface .nilIface=(do pure (.bool (!(<- Op.equal t .nilIface .nilIface)))):=rfl;rw[O,he2];simp[eqGuard,he,i1]
 unfold Tc at hv;split at hv<;>try trivial
 rename_i es t0 z;split at hv<;>try trivial
 rename_i hui;cases hv;refine dl hm hb (cL (S:=do eqGuard .eql t x0 (.const .nilIface) (a.eval x0) .nilIface;binOp .eql t (a.eval x0) .nilIface) (by unfold execOp;rw[ho];rfl) (key hui es t0 z _ H.1.2 .eql (.inl rfl))) ⟨rfl,rfl⟩;rename_i es t0 z;split at hv<;>try trivial
 rename_i hui;cases hv;refine dl hm hb (cL (S:=do eqGuard .neq t x0 (.const .nilIface) (a.eval x0) .nilIface;binOp .neq t (a.eval x0) .nilIface) (by unfold execOp;rw[ho];rfl) (key hui es t0 z _ H.1.2 .neq (.inr rfl))) ⟨rfl,rfl⟩;split at hc<;>try trivial
 rename_i c n hcb;cases hc;obtain⟨u,O,h2,h3⟩:=qbm hcb hn H.1 H.2.1 x0 y0;exact dl hm hb (cL (S:=do eqGuard bo t x0 y0 (a.eval x0) (a.eval y0);binOp bo t (a.eval x0) (a.eval y0)) (by unfold execOp;rw[ho]) O) ⟨h2,h3⟩
 rename_i uo t x0 k n;split at hc<;>try trivial
 cases hc;obtain⟨⟨_,O,h2⟩,_⟩:=H;refine dl hm hb (cL (S:=Op.unary .neg (a.eval x0)) (u:=.int k (k.wrap (0-n))) (by unfold execOp;rw[ho]) ?_) ⟨rfl,rfl,gd _ _⟩;rw[O];simp[Op.unary,Op.intArith]
 rename_i uo t x0 bb;split at hc<;>try trivial
 cases hc;obtain⟨⟨_,O⟩,_⟩:=H;simp only[bc]at O;refine dl hm hb (cL (S:=Op.unary .not (a.eval x0)) (u:=.bool (!bb)) (by unfold execOp;rw[ho]) ?_) ⟨rfl,rfl⟩;rw[O];simp[Op.unary]
 rename_i s t x0 k0 n;split at hc<;>try trivial
 rename_i ds k hs ht;cases hc;obtain⟨⟨_,O,h2⟩,_⟩:=H;refine dl hm hb (cL (S:=convert s t (a.eval x0)) (u:=.int k (k.wrap n)) (by unfold execOp;rw[ho]) ?_) ⟨rfl,rfl,gd _ _⟩;rw[O];simp[convert,ud2 hs,ud2 ht,Conv.intToInt]
 rename_i t n0 c0 k n k' c;obtain⟨⟨_,O,_⟩,⟨_,h2,_⟩,_⟩:=H;obtain⟨u,w',γ',e1,e2,e3,e4⟩:=qtp (kn:=k) (kc:=k') hm hb hB hd hc hn;refine ir (cL (S:=Instr.makeSlice t (a.eval n0) (a.eval c0)) (by unfold execOp;rw[ho]) ?_) e2 e3 e4;rw[O,h2];exact e1
 rename_i t x0 lo hi mx x r;split at hc;rename_i e' hcut;cases hc;have N:(Op.slice t x0 lo hi mx).operands.toList.map a.eval=a.eval x0::(lo.toList.map a.eval++(hi.toList.map a.eval++(mx.toList.map a.eval++[]))):=by simp[Op.operands]
 rw[N]at H;obtain⟨O,h2,h3,vh,u,γ',h4,h5,h6,h7,h8⟩:=qey hm hb hB W hd hcut hn H.1 H.2;cases lo with
 |some _=>cases O
 |none=>
  cases mx with
  |some _=>cases h3
  |none=>
   cases hi with
   |none=>cases h2
   |some hh=>
    simp only[Option.toList,List.map_nil,ueh,udj,udo,udn,and_true]at h4;refine ir (cL (S:=Instr.sliceAt t (a.eval x0) V (U (a.eval hh)) V) (w':=w) (by unfold execOp;rw[ho];rfl) ?_) h6 h7 h8;rw[h4];exact h5
 split at hc;rename_i e' hsp;cases hc;split at hsp<;>try trivial
 rename_i hno;cases lo with
 |some _=>cases hno.1
 |none=>
  cases hi with
  |some _=>cases hno.2.1
  |none=>
   cases mx with
   |some _=>cases hno.2.2
   |none=>
    obtain⟨u,F1,e1,e2,e3,e4⟩:=qz9 hm hb W hsp H.1;exact ir (cL (S:=Instr.sliceAt t (a.eval x0) V V V) (w':=w) (by unfold execOp;rw[ho];rfl) e1) e2 e3 e4
 split at hc<;>try trivial
 rename_i el x' u l r1 ht hrs hlo;split at hc<;>try trivial
 rename_i h r2 hhi;split at hc<;>try trivial
 rename_i k hmx;split at hc<;>try trivial
 rename_i cc hne;split at hc<;>try trivial
 rename_i tt y hly;split at hc<;>try trivial
 rename_i hcond;obtain⟨ti,hti⟩:=uar.1 hcond.1;split at hc<;>try trivial
 rename_i z n hsl;cases hc;have N:(Op.slice t x0 lo hi mx).operands.toList.map a.eval=a.eval x0::(lo.toList.map a.eval++(hi.toList.map a.eval++(mx.toList.map a.eval++[]))):=by simp[Op.operands]
 rw[N]at H;obtain⟨F1,s1,m1,t1,r1⟩:=UJ hm hb (cX.of W) hrs H.1;obtain⟨⟨kl,q1⟩,hr2⟩:=JU hlo H.2;obtain⟨⟨kh,q2⟩,hr3⟩:=JU hhi hr2;obtain⟨⟨kk,q3⟩,hr4⟩:=JU hmx hr3;obtain⟨A,cap,hv,hrep⟩:=qqk hly r1.2;rw[hv]at hrep;obtain⟨v,e1,e2,e3⟩:=qz8 (P:=P) (w:=w) (F:=F1) (R:=ap (ax M u) γ) (kl:=kl) (kh:=kh) (kk:=kk) ht hti hcond.2 hsl hn hrep;refine ir (cL (S:=Instr.sliceAt t (a.eval x0) (lo.map a.eval) (hi.map a.eval) (mx.map a.eval)) (w':=w) (by unfold execOp;rw[ho]) ?_) s1 m1 ⟨e2,e3⟩;rw[hv,q1,q2,q3];exact e1
 rename_i s x0 f x;split at hc<;>try trivial
 rename_i v hv;cases hc;obtain⟨u,O,h2⟩:=qkn hv H.1;exact dl hm hb (cL (S:=Instr.fieldAt s (a.eval x0) f) (by unfold execOp;rw[ho]) O) h2
 rename_i s x0 f cs;split at hc<;>try trivial
 rename_i fd hfd;split at hc<;>try trivial
 rename_i hcond;split at hc<;>try trivial
 rename_i l hl;split at hc<;>try trivial
 rename_i v hv;cases hc;obtain⟨u,O,h2⟩:=qko hfd hcond hl hv H.1;exact dl hm hb (cL (S:=Instr.field s (a.eval x0) f) (by unfold execOp;rw[ho]) O) h2
 rename_i t x0 i0 x k i;obtain⟨hx,⟨_,h2,_⟩,_⟩:=H;obtain⟨O,u,h3,h4⟩:=qnq (k:=k) hm W hc hn hx;rw[O];refine dl hm hb (cL (S:=Instr.indexAt t (a.eval x0) (a.eval i0)) (by unfold execOp;rw[ho]) ?_) h4;rw[h2];exact h3
 rename_i t x0 i0 x k i;obtain⟨hx,⟨_,h2,_⟩,_⟩:=H;obtain⟨O,u,h3,h4⟩:=qnp (k:=k) hc hn hx;rw[O];refine dl hm hb (cL (S:=Instr.index t (a.eval x0) (a.eval i0)) (by unfold execOp;rw[ho]) ?_) h4;rw[h2];exact h3
 rename_i t x0 y0 es n;split at hc<;>try trivial
 rename_i kt et ht;split at hc<;>try trivial
 rename_i hk hz;cases hc;obtain⟨⟨_,hx⟩,⟨_,hy,_⟩,_⟩:=H;simp only[bc]at hx hy;obtain⟨r,arr,ck,e1,e2,e3,e4⟩:=hx;have hzv:(zeroValue et).run P w=.ok .nilFunc w:=by
  cases hi:P.info? et with
  |none=>simp[hi]at hz
  |some i=>simp[hi]at hz;simp[zeroValue,typeInfo,hi,hz]
 have hrun:=qqo (w:=w) ht hk hzv e3 e4 n;refine dl hm hb (cL (S:=Instr.lookup t (a.eval x0) (a.eval y0) Z) (by unfold execOp;rw[ho]) (by rw[e1,hy];exact hrun)) ?_;refine⟨_,rfl,rfl,⟨ie (es.find? (λx=>x.1==n)),by simp,?_,?_⟩,⟨_,rfl,rfl,rfl⟩,uT⟩;cases es.find? (λx=>x.1==n)<;>rfl
 simp only[bc]
 rename_i x0 i xs;split at hc<;>try trivial
 rename_i v hv;cases hc;obtain⟨⟨arr,O,h2,h3⟩,_⟩:=H;have hat:∀ (xs:List AV) (g:Nat->Value->Prop) (i:Nat) (v:AV),ln P w F (ap M γ) xs g->xs[i]?= U v->∃ u,g i u/\aE P w F (ap M γ) v u:=by
  intro xs
  induction xs with
  |nil=>intro g i v _ h;simp at h
  |cons y ys ih=>
   intro g i v h hi;cases i with
   |zero=>simp at hi;subst hi;exact h.1
   |succ i=>exact ih _ i v h.2 (by simpa using hi)
 obtain⟨u,h4,h5⟩:=hat xs _ i v h3 hv;refine dl hm hb (cL (S:=Instr.extract (a.eval x0) i) (by unfold execOp;rw[ho]) ?_) h5;rw[O];simp[Instr.extract,h4]
 rename_i x0 xt ty es t x;split at hc<;>try trivial
 rename_i fs hu;split at hc<;>try trivial
 rename_i hz;cases hc;obtain⟨z,hzv⟩:∃ z,(zeroValue ty).run P w=.ok z w:=by
  cases hi:P.info? ty with
  |none=>simp[hi]at hz
  |some i=>
   cases hz2:i.zero with
   |none=>simp[hi,hz2]at hz
   |some z=>exact⟨z,by simp[zeroValue,typeInfo,hi,hz2]⟩
 have hx:=H.1.2;rcases Cj hx with ⟨ty',u,i1,i2,_⟩|⟨i1,i2⟩
 by_cases he:ty'=ty;subst he;refine dl hm hb (cL (S:=Instr.typeAssert (a.eval x0) xt ty' Z) (u:=.tuple #[u,.bool Z]) (by unfold execOp;rw[ho]) ?_) ?_;rw[i2];simp[Instr.typeAssert,ud2 hu];refine⟨_,rfl,rfl,⟨u,rfl,uT⟩,⟨_,rfl,rfl,?_⟩,uT⟩;simp[bc,i1];refine dl hm hb (cL (S:=Instr.typeAssert (a.eval x0) xt ty Z) (u:=.tuple #[z,.bool Y]) (by unfold execOp;rw[ho]) ?_) ?_;rw[i2];simp[Instr.typeAssert,ud2 hu,he,hzv];refine⟨_,rfl,rfl,⟨z,rfl,uT⟩,⟨_,rfl,rfl,?_⟩,uT⟩;simp[bc,i1,he];refine dl hm hb (cL (S:=Instr.typeAssert (a.eval x0) xt ty Z) (u:=.tuple #[z,.bool Y]) (by unfold execOp;rw[ho]) ?_) ?_;rw[i2];simp[Instr.typeAssert,ud2 hu,hzv];refine⟨_,rfl,rfl,⟨z,rfl,uT⟩,⟨_,rfl,rfl,?_⟩,uT⟩;simp[bc,i1]
 rename_i xs f first cap
 split at hc<;>try trivial
 rename_i hf;split at hc<;>try trivial
 rename_i caps u hk;cases hc;have hfirst:first = #[]:=Array.eq_empty_of_size_eq_zero hf
 subst hfirst;have N:(Op.makeFunc (.func f) #[] cap).operands.toList.map a.eval=(cap.map a.eval).toList:=by simp[Op.operands]
 rw[N]at H;obtain⟨F1,s1,m1,r1⟩:∃ F1,Step B w F γ M w F1 γ (ax M u)/\MemOK P B w F1 γ (ax M u)/\bj P w F1 (ap (ax M u) γ) (caps.map .c) (cap.map a.eval).toList:=by
  split at hk;exact D6 hm hb W hk H;obtain⟨rfl,h2⟩:=S1 hk H;exact⟨F,Step.refl hb,hm,h2⟩
 obtain⟨l1,l2⟩:=qc4 r1;refine ir (cL (S:=Instr.makeFunc (.func f) ((#[]:Array Operand).map a.eval) (cap.map a.eval)) (u:=.func (.func f) #[] (cap.map a.eval)) (w':=w) (by unfold execOp;rw[ho]) ?_) s1 m1 ?_;simp[Instr.makeFunc];exact⟨rfl,cap.map a.eval,rfl,by simpa using l1,by simpa using l2⟩
 rename_i xs bb C ts;have N:(Op.call ⟨.builtin bb,C,ts⟩).operands.toList.map a.eval=(C.map a.eval).toList:=by simp[Op.operands,Call.operands]
 rw[N]at H;have hex:∀ (S:Sem Value) (u:Value) (w':World),(∀ (ty:TypeId) (cs:Array Bool),builtin bb ts ty cs (C.map a.eval)=(do pure (.value (<- S)):Sem Next))->S.run P w=.ok u w'->(execOp a.eval o).run P w=.ok (.value u) w':=by
  intro S u w' O h2;unfold execOp;rw[ho];simp[resolve,invoke,O,h2]
 unfold O8 at hc;split at hc<;>try trivial
 rename_i t x hts;have hargs:∃ v,C.map a.eval = #[v]/\aE P w F (ap M γ) x v:=by
  cases hl:(C.map a.eval).toList with
  |nil=>rw[hl]at H;exact H.elim
  |cons v r=>cases r with
   |nil=>rw[hl]at H;exact⟨v,by rw[<- uc5,hl],H.1⟩
   |cons _ _=>rw[hl]at H;exact H.2.elim
 obtain⟨v,hv,hx⟩:=hargs;have hts':ts = #[t]:=by rw[<- uc5,hts]
 obtain⟨O,u,h2,h3⟩:=qqi hm W hc hx o.type;rw[O];refine dl hm hb (hex (Builtin.len_ #[t] 0 #[v]) u w (λty cs=>?_) ?_) h3;rw[hv,hts'];rfl;exact h2;rename_i t t' s x hts;split at hc<;>try trivial
 rename_i htt;subst htt;have hargs:∃ v1 v2,C.map a.eval = #[v1,v2]/\aE P w F (ap M γ) s v1/\aE P w F (ap M γ) x v2:=by
  cases hl:(C.map a.eval).toList with
  |nil=>rw[hl]at H;exact H.elim
  |cons v r=>cases r with
   |nil=>rw[hl]at H;exact H.2.elim
   |cons v2 r=>cases r with
    |nil=>rw[hl]at H;exact⟨v,v2,by rw[<- uc5,hl],H.1,H.2.1⟩
    |cons _ _=>rw[hl]at H;exact H.2.2.elim
 obtain⟨v1,v2,hv,hs,hx⟩:=hargs;have hts':ts = #[t,t]:=by rw[<- uc5,hts]
 obtain⟨u,w',γ',h2,h3,h4,h5⟩:=qax (ty:=0) hm hb hB W hd hc hn hs hx;refine ir (hex (Builtin.append_ #[t,t] 0 #[v1,v2]) u w' (λty cs=>?_) h2) h3 h4 h5;rw[hv,hts'];rfl;rename_i k n r;split at hc<;>try trivial
 rename_i y hy;cases hc;cases hl:(C.map a.eval).toList with
 |nil=>rw[hl]at H;exact H.elim
 |cons v r0=>
  rw[hl]at H;obtain⟨⟨_,rfl,hk⟩,H⟩:=H;obtain⟨O,h2⟩:=ST hy hk H;refine dl hm hb (hex (Builtin.min_ ts 0 (C.map a.eval)) (.int k y) w (λty cs=>rfl) ?_) ⟨rfl,rfl,h2⟩;simp only[Builtin.min_,hl];exact O
 rename_i k n r;split at hc<;>try trivial
 rename_i y hy;cases hc;cases hl:(C.map a.eval).toList with
 |nil=>rw[hl]at H;exact H.elim
 |cons v r0=>
  rw[hl]at H;obtain⟨⟨_,rfl,hk⟩,H⟩:=H;obtain⟨O,h2⟩:=SN hy hk H;refine dl hm hb (hex (Builtin.max_ ts 0 (C.map a.eval)) (.int k y) w (λty cs=>rfl) ?_) ⟨rfl,rfl,h2⟩;simp only[Builtin.max_,hl];exact O
 rename_i recv name C ts es t x args;split at hc<;>try trivial
 rename_i args' u fs hrs hfs;split at hc<;>try trivial
 rename_i rs y n hv;cases hc;have N:(Op.call ⟨.invoke recv name,C,ts⟩).operands.toList.map a.eval=a.eval recv::(C.map a.eval).toList:=by simp[Op.operands,Call.operands]
 rw[N]at H;obtain⟨F1,s1,m1,t1,r1⟩:=iy hm hb (cX.of W) hrs H.2;have hx:=H.1.2;rcases Cj hx with ⟨ty,v0,i1,i2,i3⟩|⟨i1,i2⟩
 have hrx:aE P w F1 (ap (ax M u) γ) (dE t x.2) v0:=fT (i3.mono s1.hF (λ_ _=>rfl));obtain⟨f,e1,e2,e3⟩:=GR hΓ (k:=x.1) s1.bd (vs:=v0::(C.map a.eval).toList) (args:=dE t x.2::args') ⟨hrx,r1⟩ hv hn;obtain⟨p,hp,hpf⟩:∃ p,fs.find? (λx'=>x'.1==x.1)=U p/\p.2=f:=by
  cases hq:fs.find? (λx'=>x'.1==x.1)with
  |none=>rw[hq]at e1;simp[ie]at e1
  |some p=>rw[hq]at e1;simp[ie]at e1;exact⟨p,rfl,e1⟩
 subst hpf;obtain⟨ty',j1,j2⟩:=IN hfs hp;rw[i1]at j1;cases j1;intro K Q hK;unfold Oper.wp;have q1:(#[Value.iface ty v0]++Array.map a.eval C)[0]?= U (.iface ty v0):=by simp[Array.getElem?_append]
 have q2:(Array.map a.eval C).extract 0 C.size=Array.map a.eval C:=by
  have:C.size=(Array.map a.eval C).size:=by simp
  rw[this];exact Array.extract_size
 have hrun:(execOp a.eval o).run P w=.ok (.enter p.2 (#[v0]++C.map a.eval)) w:=by
  unfold execOp;rw[ho];simp only[resolve,uep,uer,ucl,invoke,i2];rw[q1];have q3:(#[Value.iface ty v0]++Array.map a.eval C).extract 1 (#[Value.iface ty v0]++Array.map a.eval C).size=Array.map a.eval C:=by simp[q2]
  simp only[q3];rw[qya j2,e2]
 rw[hrun];show Calls P p.2 (#[v0]++C.map a.eval) w _;have du:(v0::(C.map a.eval).toList).toArray = #[v0]++C.map a.eval:=by simp
 rw[du]at e3;refine e3.mono λen w2 hp=>?_;obtain⟨v2,F2,rfl,hbel,hF2,hF2',hrep⟩:=hp;obtain⟨s2,m2⟩:=Step.below m1 hB s1.bd hbel hF2 hF2';exact hK v2 w2 F2 γ (s1.trans s2) m2 (tN hrep);obtain⟨p,hp⟩:=O9 hv hn;obtain⟨ty',j1,_⟩:=IN hfs hp;rw[i1]at j1;cases j1
 rename_i f0 C ts es n id args;split at hc<;>try trivial
 rename_i ety cs hid;split at hc<;>try trivial
 rename_i T z ns hu;cases hc;have N:(Op.call ⟨.value f0,C,ts⟩).operands.toList.map a.eval=a.eval f0::(C.map a.eval).toList:=by simp[Op.operands,Call.operands]
 rw[N]at H
 match hca:(C.map a.eval).toList,H with
 |[],H=>exact H.2.elim
 |vp::vs,⟨⟨_,hf⟩,⟨_,hp⟩,hvs⟩=>
  have hf:a.eval f0=ie (es.find? (λx=>x.1==n)):=hf;obtain⟨b,arr,q1,rfl,q3,q4,q5,q6,q7⟩:=lw hm (W _ _ hid) hp;have hone:∀ u∈arr,u.oneCell'=true:=λu hu=>by
   obtain⟨j,hj,rfl⟩:=Array.getElem_of_mem hu;obtain⟨u',z1,z2,_⟩:=q7.at_ (j:=j) (c:=cs[j]'(by omega)) (uaq _);rw[uam hj]at z1;cases z1;exact z2
  obtain⟨hl,f,e1,e2,e3⟩:=Ws hΓ q3 q6 hone q7 hvs hu hn;intro K Q hK;unfold Oper.wp;have hrun:(execOp a.eval o).run P w=.ok (.enter f (C.map a.eval)) w:=by
   unfold execOp;rw[ho];simp[resolve,hf,e1,Deferred.ofValue,invoke,e2]
  rw[hrun];show Calls P f (C.map a.eval) w _;have du:(Value.pointer (U ⟨b,0,V⟩)::vs).toArray=C.map a.eval:=by rw[<- hca]
  rw[du]at e3;refine e3.mono λen w2 hp2=>?_;obtain⟨u,nv,rfl,r1,rfl,r2⟩:=hp2;have hrep:aN P w F (ap M γ) (enc T z) (λj u=>(cF arr 0 nv)[j]?= U u):=by
   refine(aA.enc T z r2).turn λj u hj hu=>?_;rw[fl]at hj;have:=yx (arr:=arr) (off:=0) (vs:=nv) (j:=j) (by omega) (by omega);rw[ueu]at this;rw[this];exact hu
  obtain⟨s1,m1⟩:=pJ hm hb (W _ _ hid) q1 q3 q4 q5 (by omega) (by rw[fl];omega) hrep;have hov:cF arr 0 nv=nv.toArray:=by
   have:nv.length=arr.size:=by omega
   simp[cF,this]
  rw[hov]at s1 m1;exact hK u _ F γ s1 m1 trivial
 rename_i f0 C ts fv args _;split at hc;rename_i rw0 hrow;have N:(Op.call ⟨.value f0,C,ts⟩).operands.toList.map a.eval=a.eval f0::(C.map a.eval).toList:=by simp[Op.operands,Call.operands]
 rw[N]at H;unfold UC at hrow;split at hrow<;>try trivial
 rename_i f1 _;obtain⟨_,arr,e1,e2,_⟩:=H.1;have e3:arr = #[]:=Array.eq_empty_of_size_eq_zero e2;subst e3;obtain⟨hen,hcalls⟩:=qx1 (hΓ.2 _ _ hrow) hm hb hB W hd hc hn H.2;intro K Q hK;unfold Oper.wp;have hrun:(execOp a.eval o).run P w=.ok (.enter f1 (C.map a.eval)) w:=by
  unfold execOp;rw[ho];simp[resolve,e1,Deferred.ofValue,invoke,hen]
 rw[hrun];show Calls P f1 (C.map a.eval) w _;rw[ube]at hcalls;refine hcalls.mono λen w2 hp=>?_;obtain⟨u,γ',rfl,s1,m1,r1⟩:=hp;exact hK u w2 F γ' s1 m1 r1;split at hc<;>try trivial
 rename_i args' u hrs;split at hc<;>try trivial
 rename_i v n hv;cases hc;have N:(Op.call ⟨.value f0,C,ts⟩).operands.toList.map a.eval=a.eval f0::(C.map a.eval).toList:=by simp[Op.operands,Call.operands]
 rw[N]at H;obtain⟨F1,s1,m1,t1,r1⟩:=iy hm hb (cX.of W) hrs H.2;obtain⟨f,caps,e1,e2,rs,y,e3,e4⟩:=qc3 hΓ hv hn s1.bd (s1.repA H.1) r1;intro K Q hK;unfold Oper.wp;have hrun:(execOp a.eval o).run P w=.ok (.enter f (C.map a.eval++caps)) w:=by
  unfold execOp;rw[ho];simp[resolve,e1,Deferred.ofValue,invoke,e2]
 rw[hrun];show Calls P f (C.map a.eval++caps) w _;rw[ube]at e4;refine e4.mono λe w2 hp=>?_;obtain⟨v2,F2,rfl,hbel,hF2,hF2',hrep⟩:=hp;obtain⟨s2,m2⟩:=Step.below m1 hB s1.bd hbel hF2 hF2';exact hK v2 w2 F2 γ (s1.trans s2) m2 (by rw[e3];exact tN hrep);cases hc
end
end Go.Ab
