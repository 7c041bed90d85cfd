/-
  Parts of the proof, one behind the other.
-/
import Derived.Test.YtmcjmjbeknbddaaGreatMa
set_option linter.all false
set_option maxRecDepth 100000
set_option maxHeartbeats 4000000
open Go Go.RowKit
variable {T α σ ρ β:Type} {P:Program} {ad:Addr} {arr cs cur:Array Value} {f:FuncId} {x a y day:Int} {k:IntKind} {l:List Int} {xs vs news:List Value} {off i n b c d j B m len:Nat} {F F' K:Nat->Prop} {R g R':Nat->Value->Prop} {o:Oper} {p:Prop} {e ety t ty el:TypeId} {v u vx:Value} {w w' W' W:World}
namespace Go.Ab
open Go Go.RowKit
section
variable {P:Program} {B:Nat} {o:Oper} {a:Act} {w w':World} {F F':Nat->Prop} {γ γ':Nat->Value} {M m:aT} {R:Nat->Value->Prop}
def CB {t:Ty} {l:List t.den} (hr:aA w F (.sl t) l (λ_ u=>u=v)) :
  ∃ A c xs,v = .slice A l.length c/\l.length<=c/\(A=none->l=[])/\xs.length=l.length*t.size/\bU w F t l xs/\∀ ad,A=some ad->∀ (j:Nat) u,xs[j]? = some u->w.cell? (ad.add j)=some u:=by
 obtain⟨A,c,h1,h2,h3,h4⟩:=hr;cases A with
 |none=>
  have hl:l=[]:=by
   cases l with
   |nil=>rfl
   |cons x l=>
    obtain⟨ad,he,_⟩:=h4 0 x rfl;cases he
  subst hl;exact⟨none,c,[],h1.symm,h2,λ_=>rfl,by simp,λi x hi=>by simp at hi,λad he=>by cases he⟩
 |some ad=>
  refine⟨some ad,c,(List.range (l.length*t.size)).map λk=>(w.cell? (ad.add k)).getD undef,h1.symm,h2,(λh=>by cases h),by simp,λi x hi=>?_,λad' he j u hj=>?_⟩
  ·obtain⟨ad',he,_,h5⟩:=h4 i x hi;cases he;refine h5.mono (λ_ h=>h) (λ_ _=>rfl) λj u hj hu=>?_;have hil:=(uak.1 hi).1;have:i*t.size+j<l.length*t.size:=by
    have:i*t.size+t.size<=l.length*t.size:=by rw[<- ues]; exact ubc _ hil
    omega
   rw[ucm,List.getElem?_range this];simp[hu]
  ·cases he;rw[ucm] at hj;have hjl:j<l.length*t.size:=by
    rcases uel j (l.length*t.size) with h|h
    ·exact h
    ·rw[ua3 (by simpa using h)] at hj;simp at hj
   rw[List.getElem?_range hjl] at hj;simp at hj;have hpos:0<t.size:=by
    rcases ub3 t.size with h0|h0
    ·rw[h0] at hjl; omega
    ·exact h0
   have hi:=(Nat.div_lt_iff_lt_mul hpos).2 hjl;obtain⟨ad',he,_,h5⟩:=h4 (j/t.size) _ (uap hi);cases he;obtain⟨y,e1,_⟩:=aA.cell t h5 (j%t.size) (ufb _ hpos);rw[uer,Nat.div_add_mod] at e1;rw[e1] at hj |-;simpa using hj
def bU.append {t:Ty} {l k:List t.den} {ys:List Value} (hx:bU w F t l xs) (hl:xs.length=l.length*t.size) (hy:bU w F t k ys):bU w F t (l++k) (xs++ys):=by
 intro i x hi;rcases uel i l.length with h|h
 ·rw[uaj h] at hi;refine(hx i x hi).mono (λ_ h=>h) (λ_ _=>rfl) λj u hj hu=>?_;have:i*t.size+t.size<=l.length*t.size:=by rw[<- ues]; exact ubc _ h
  rw[uaj (by omega)];exact hu
 ·rw[uae h] at hi;refine(hy (i-l.length) x hi).mono (λ_ h=>h) (λ_ _=>rfl) λj u hj hu=>?_;have h2:i*t.size=l.length*t.size+(i-l.length)*t.size:=by rw[<- ue6]; congr 1; omega
  rw[uae (by omega)];rw[<- hu];congr 1;omega
def Sz {c:AC} {t:Ty} {l:List t.den} (hm:MemOK P B w F γ M) (hsub:∀ i y,m i=some y->M i=some y) (h:rp m c=some ⟨t,l⟩) (hr:bc P w F (ap M γ) c v) :
  ∃ A cap xs,v = .slice A l.length cap/\l.length<=cap/\(A=none->l=[])/\xs.length=l.length*t.size/\bU w F t l xs/\∀ ad,A=some ad->∀ (j:Nat) u,xs[j]? = some u->w.cell? (ad.add j)=some u:=by
 unfold rp at h;split at h<;>try trivial
 ·cases h;exact CB hr
 ·cases h;obtain⟨A,_,h2⟩:=hr;exact CB h2
 ·rename_i id;split at h<;>try trivial
  ·rename_i ety t' l' hmid;split at h<;>try trivial
   rename_i he;cases h;have hv:=ez (hsub _ _ hmid) (by simp) hr;subst hv;obtain⟨xs,hown,_,hrows,_⟩:=gg.of (hm.ob id _ (hsub _ _ hmid)) he;rcases hown.2 with ⟨h3,h4⟩|⟨g,cap,cur,h3,_,_,h4,_⟩
   ·exact⟨none,0,xs,by rw[h3,h4],by omega,λ_=>uab h4,hown.1,hrows,λad he=>by cases he⟩
   ·refine⟨_,_,xs,h3,h4,(λh=>by cases h),hown.1,hrows,λad he=>?_⟩;cases he;exact hown.cells (by rw[h3]; rfl)
  ·rename_i t' l' hmid;cases h;have hv:=ez (hsub _ _ hmid) (by simp) hr;subst hv;exact CB (hm.ob id _ (hsub _ _ hmid))
def UT (t ty e:TypeId) (i:TypeInfo) (ht:P.underlying t=some (.slice e)) (hi:P.info? e=some i) (A:Option Addr) (n cap:Nat) (hnc:n<=cap) (c:Nat) :
  (Builtin.append_ #[t,t] ty #[.slice A n cap,.slice none 0 c]).run P w = .ok (.slice A n cap) w:=by
 cases A<;>simp[Builtin.append_,ud1 ht,sizeOf,typeInfo,hi,Builtin.lenOf,Builtin.firstCells,hnc,storeCells]
def qr (t ty e:TypeId) (i:TypeInfo) (z:Value) (size:Nat) (ht:P.underlying t=some (.slice e)) (hi:P.info? e=some i) (hz:i.zero=some z) (hsize:i.size=size) (hzs:z.cells.size=size) (hsz:0<size)
  (s:Value) (n:Nat) (xs:List Value) (hown:w.ownsRow B e size s n xs) (A:Option Addr) (k c:Nat) (news:List Value) (hA:A=none->k=0) (hl:news.length=k*size)
  (hc:∀ ad,A=some ad->∀ (j:Nat) u,news[j]? = some u->w.cell? (ad.add j)=some u) (h1:∀ u∈news,u.oneCell'=true) (h63:n+k<=maxLen) (hbytes:(n+k)*i.bytes<=140737488355328) (hB:B<=w.heap.size) :
  ∃ v' w',(Builtin.append_ #[t,t] ty #[s,.slice A k c]).run P w = .ok v' w'/\w'.ownsRow B e size v' (n+k) (xs++news)/\w.grownBy w' s.ownBlock/\(v'.ownBlock=s.ownBlock\/v'.ownBlock=some w.heap.size):=by
 cases A with
 |none=>
  have hk:=hA rfl;subst hk;have hn:=uab (by simpa using hl);subst hn;rcases hown.2 with ⟨rfl,rfl⟩|⟨g,cap,cur,rfl,_,_,hnc,_⟩
  ·exact⟨_,w,UT t ty e i ht hi none 0 0 (ue4 _) c,by simpa using hown,⟨rfl,rfl,rfl,ue4 _,λ_ _ _=>rfl⟩,.inl rfl⟩
  ·exact⟨_,w,UT t ty e i ht hi _ n cap hnc c,by simpa using hown,⟨rfl,rfl,rfl,ue4 _,λ_ _ _=>rfl⟩,.inl rfl⟩
 |some ad=>
  obtain⟨v',w',e1,e2,e3,_,e5⟩:=run_append_own_at w B t ty e i z size i.bytes ht hi hz hsize rfl hzs hsz s n xs hown ad k c news hl (hc ad rfl) h1 h63 hbytes hB;exact⟨v',w',e1,e2,e3,e5⟩
def qav (t ty e:TypeId) (i:TypeInfo) (z:Value) (size:Nat) (ht:P.underlying t=some (.slice e)) (hi:P.info? e=some i) (hz:i.zero=some z) (hsize:i.size=size) (hzs:z.cells.size=size)
  (S:Option Addr) (n:Nat) (xs:List Value) (hS:S=none->n=0) (hxl:xs.length=n*size) (hxc:∀ ad,S=some ad->∀ (j:Nat) u,xs[j]? = some u->w.cell? (ad.add j)=some u)
  (A:Option Addr) (k c:Nat) (news:List Value) (hk:0<k) (hA:A=none->k=0) (hl:news.length=k*size)
  (hc:∀ ad,A=some ad->∀ (j:Nat) u,news[j]? = some u->w.cell? (ad.add j)=some u) (h63:n+k<=maxLen) (hbytes:(n+k)*i.bytes<=140737488355328) (hB:B<=w.heap.size) :
  ∃ v' w',(Builtin.append_ #[t,t] ty #[.slice S n n,.slice A k c]).run P w = .ok v' w'/\w'.ownsRow B e size v' (n+k) (xs++news)/\w.grownBy w' none/\v'.ownBlock=some w.heap.size:=by
 subst hsize;obtain⟨ad,rfl⟩:∃ ad,A=some ad:=by
  cases A with
  |none=>have:=hA rfl; omega
  |some ad=>exact⟨ad,rfl⟩
 have hlen:(xs++news).length=(n+k)*i.size:=by rw[ub4,hxl,hl,ue6]
 have hge:=grownCap_ge w (n+k) n e;have hcm:=ub5 w (n+k) n e h63;have hmax:((n+k:Nat):Int)<=9223372036854775807:=by simp only[maxLen] at h63; omega
 have grown:(w.drew.alloc (.cells (xs.toArray++news.toArray++Builtin.zeroCells z.cells (grownCap w (n+k) n e-(n+k))) e)).ownsRow B e i.size (.slice (some ⟨w.heap.size,0,none⟩) (n+k) (grownCap w (n+k) n e)) (n+k) (xs++news):=by
  refine⟨hlen,.inr ⟨w.heap.size,_,_,rfl,hB,ud3 w.drew _,hge,hcm,?_,?_⟩⟩
  ·simp only[ucn,uco,size_zeroCells,hzs,hxl,hl,<- ue6];congr 1;omega
  ·simp;rw[<- ucp,<- hlen];exact List.take_left
 have hgb:w.grownBy (w.drew.alloc (.cells (xs.toArray++news.toArray++Builtin.zeroCells z.cells (grownCap w (n+k) n e-(n+k))) e)) none:=⟨rfl,rfl,rfl,by simp,λb hb _=>heap_alloc_old w.drew _ b hb⟩;cases S with
 |none=>
  have hn:=hS rfl;subst hn;have hx:=uab (by simpa using hxl);subst hx;have hr:=run_append_nil w t ty e i z ht hi hz ad k c news hl (hc ad rfl) hk (by simpa using hmax) (by have hb:=hbytes; simp at hb; omega);simp at grown hgb |-;exact⟨_,_,hr,grown,hgb,rfl⟩
 |some sd=>
  have hr:=run_append_grow w t ty e i z ht hi hz sd n n xs hxl (hxc sd rfl) ad k c news hl (hc ad rfl) (by omega) hmax (growslice_fits (by omega) hbytes);exact⟨_,_,hr,grown,hgb,rfl⟩
def kT {size:Nat} {s:Value} (h:w.ownsRow B t size s n xs):s.oneCell'=true:=by
 rcases h.2 with ⟨rfl,_⟩|⟨g,cap,cur,rfl,_⟩<;>rfl
def qax {s x:AV} {e:Eff} {vs:Value} (hm:MemOK P B w F γ M) (hb:∀ b,F b->b<w.heap.size) (hB:B<=w.heap.size) (hsub:∀ i y,m i=some y->M i=some y) (hd:m d=none->M d=none)
  (h:Fv P d t s x m=some e) (hn:av e.need) (hs:aE P w F (ap M γ) s vs) (hx:aE P w F (ap M γ) x vx) :
  ∃ u w' γ',(Builtin.append_ #[t,t] ty #[vs,vx]).run P w = .ok u w'/\Step B w F γ M w' F γ' (ax M e.wr)/\MemOK P B w' F γ' (ax M e.wr)/\aE P w' F (ap (ax M e.wr) γ') e.v u:=by
 unfold Fv at h;split at h<;>try trivial
 rename_i el ht;split at h<;>try trivial
 rename_i i tt hi htt hmd;have hMd:=hd hmd;split at h<;>try trivial
 rename_i hsz;obtain⟨hlt,hsz1,hsz2,hsz3⟩:=hsz;obtain⟨z,hz,hzs⟩:∃ z,i.zero=some z/\z.cells.size=tt.size:=by
  cases hz:i.zero with
  |none=>simp[hz] at hsz3
  |some z=>exact⟨z,rfl,by simpa[hz] using hsz3⟩
 split at h<;>try trivial
 rename_i new hnew;obtain⟨A,cap,news,hvx,hlc,hA,hnl,hnr,hncell⟩:∃ A cap news,vx = .slice A new.length cap/\new.length<=cap/\(A=none->new=[])/\news.length=new.length*tt.size/\bU w F tt new news/\∀ ad,A=some ad->∀ (j:Nat) u,news[j]? = some u->w.cell? (ad.add j)=some u:=by
  split at hnew<;>try trivial
  ·cases hnew;obtain⟨_,rfl⟩:=hx;exact⟨none,0,[],rfl,ue4 _,λ_=>rfl,by simp,λi x hi=>by simp at hi,λad he=>by cases he⟩
  ·split at hnew<;>try trivial
   rename_i u l hl;split at hnew<;>try trivial
   rename_i hu;subst hu;cases hnew;exact Sz hm hsub hl hx.2
 subst hvx;have hA':A=none->new.length=0:=λh=>by rw[hA h]; rfl
 have hone:=yQ hnr hnl;split at h<;>try trivial
 ·
  cases h;obtain⟨_,rfl⟩:=hs;obtain⟨v',w',e1,e2,e3,e4⟩:=qr t ty el i z tt.size ht hi hz hsz1 hzs hsz2 (.slice none 0 0) 0 [] (ucq w B el tt.size) A new.length cap news hA' hnl hncell hone (by have:=hn.1; omega) (by have:=hn.2; simpa using this) hB;rw[uet,udi] at e2;obtain⟨s1,s2⟩:=uN hm hb hB hMd e3 e2 (λg hg=>by rcases e4 with h|h<;>rw[h] at hg<;>simp[Value.ownBlock] at hg; omega) (hnr.mono (λ_ h=>h) (λb hb'=>e3.block b (hb b hb') (by simp[Value.ownBlock]))) hlt;exact⟨v',w',_,e1,s1,s2,lP (kT e2)⟩
 ·
  rename_i id;split at h<;>try trivial
  rename_i e' u l hid;split at h<;>try trivial
  rename_i hu;subst hu;split at h<;>try trivial
  rename_i he';obtain⟨rfl,_⟩:=he';cases h;have hcast:cA (rfl:u=u) l=l:=rfl;have hv:=ez (hsub _ _ hid) (by simp) hs.2;subst hv;obtain⟨xs,q1,q2,q3,q4⟩:=gg.of (hm.ob id _ (hsub _ _ hid)) hlt;obtain⟨v',w',e1,e2,e3,e4⟩:=qr t ty e' i z u.size ht hi hz hsz1 hzs hsz2 (γ id) l.length xs q1 A new.length cap news hA' hnl hncell hone hn.1 hn.2 hB;have hFb:=λb hb'=>e3.block b (hb b hb') (λhe=>q2 b he.symm hb');rw[<- ub4] at e2;obtain⟨s1,s2⟩:=CJ hm hb hB (hsub _ _ hid) hMd e3 e2 (e4.elim .inl (λh=>.inr (.inl h))) ((q3.append q1.1 hnr).mono (λ_ h=>h) hFb) hlt hlt;exact⟨v',w',_,e1,s1,s2,lP (kT e2)⟩
 ·
  rename_i u l;split at h<;>try trivial
  rename_i hu;subst hu;cases h;have hcast:cA (rfl:u=u) l=l:=rfl;obtain⟨_,S,hvs,hrs⟩:=hs;obtain⟨S',c',xs,hv,_,hS,hxl,hxr,hxc⟩:=CB hrs;rw[hvs] at hv;cases hv;subst hvs;obtain⟨v',w',e1,e2,e3,e4⟩:=qav t ty el i z u.size ht hi hz hsz1 hzs S l.length xs (λh=>by rw[hS h]; rfl) hxl hxc A new.length cap news hn.1 hA' hnl hncell hn.2.1 hn.2.2 hB;rw[<- ub4] at e2;obtain⟨s1,s2⟩:=uN hm hb hB hMd e3 e2 (λg hg=>by rw[e4] at hg; simp at hg; omega) ((hxr.append hxl hnr).mono (λ_ h=>h) (λb hb'=>e3.block b (hb b hb') (by simp))) hlt;exact⟨v',w',_,e1,s1,s2,lP (kT e2)⟩
end
section
variable {P:Program} {B:Nat} {o:Oper} {a:Act} {w w':World} {F F':Nat->Prop} {γ γ':Nat->Value} {M m:aT} {R:Nat->Value->Prop}
def cF (arr:Array Value) (off:Nat) (vs:List Value):Array Value:=(arr.toList.take off++vs++arr.toList.drop (off+vs.length)).toArray
def yy (h:off+vs.length<=arr.size):(cF arr off vs).size=arr.size:=by
 simp[cF];omega
def yx (h:off+vs.length<=arr.size) (hj:j<vs.length):(cF arr off vs)[off+j]? = vs[j]? := by
 simp only[cF,List.getElem?_toArray];rw[uaj (by simp; omega),uae (by simp; omega)];congr 1;simp;omega
def rC (h:off+vs.length<=arr.size) (hj:j<off\/off+vs.length<=j):(cF arr off vs)[j]? = arr[j]? := by
 simp only[cF,List.getElem?_toArray];rcases hj with hj|hj
 ·rw[uaj (by simp; omega),uaj (by simp; omega),ub0,if_pos hj];simp
 ·rw[uae (by simp; omega),ubz];simp only[ub4,uc2,ubs];rw[show off+vs.length+(j-(min off arr.size+vs.length))=j from by omega];simp
def D8 {ti:TypeInfo} (hg:w.heap[b]? = some (.cells arr ty (0,0))) (hi:P.info? t=some ti) (hn:v.cells.size=P.cellsOf t) (hl:off+v.cells.size<=arr.size)
  (h1:∀ u∈v.cells,u.oneCell'=true):(Instr.storeAt t (.pointer (some ⟨b,off,none⟩)) v).run P w = .ok () (w.setRow b (cF arr off v.cells.toList)):=by
 have:=run_storeCells_at (P:=P) b off ty v.cells.toList 0 arr w hg (by simpa using hl) (λu hu=>h1 u (ubf.1 hu));simp[Instr.storeAt,Instr.sureAddr,storeVar,gw hi,hn,this,cF]
def Le {m':aT} (hb:∀ b,F b->b<w.heap.size) (hF:¬ F b) (hB:B<=b) (hR:∀ i v,ap M γ i v->ap m' γ i v):Step B w F γ M (w.setRow b arr) F γ m':=
 ⟨λ_ h=>h,λc h=>uev w b c _ (λe=>hF (e ▸ h)),hR,λc h=>uev w b c _ (by omega),rfl,rfl,rfl,by simp,λc h=>by have:=hb c h; simpa using this,λc h=>.inl h⟩
def pJ {id:Nat} {cs cs':List AC} (hm:MemOK P B w F γ M) (hb:∀ b,F b->b<w.heap.size) (hM:M id=some (.box e cs)) (hγ:γ id = .pointer (some ⟨b,0,none⟩))
  (hg:w.heap[b]? = some (.cells arr e (0,0))) (hF:¬ F b) (hB:B<=b) (hl:off+vs.length<=arr.size) (hs:arr.size=cs'.length) (hr:aN P w F (ap M γ) cs' (λj u=>(cF arr off vs)[j]? = some u)) :
  Step B w F γ M (w.setRow b (cF arr off vs)) F γ (upd M id (.box e cs'))/\MemOK P B (w.setRow b (cF arr off vs)) F γ (upd M id (.box e cs')):=by
 have hst:Step B w F γ M (w.setRow b (cF arr off vs)) F γ (upd M id (.box e cs')):=Le hb hF hB (nx hM (by simp));refine⟨hst,hm.change hM (by simp) hst.hF hst.hw (λc h=>h) (λc _ hne=>⟨uev w b c _ (λe'=>hne ⟨_,hγ,e'.symm⟩),λh=>h⟩) ?_⟩;exact⟨b,_,hγ,ue7 w b arr _ e (0,0) hg,hF,hB,by rw[yy hl]; exact hs,hst.repCL hr⟩
def qw6 {id:Nat} {ob:Ob} (hM:M id=some ob) (hg:ob ≠ .gone) (h:ap M γ id v):v=γ id:=by
 unfold ap at h;cases ob<;>simp_all
def UN {id:Nat}:{cs xs:List AC} -> {u:List (Nat×Ob)}->jr m cs=some (xs,u)->(cs.flatMap lH).all (· != id)=true->∀ M:aT,ax M u id=M id
 |[],xs,u,h,_,M=>by
  obtain⟨rfl,rfl⟩:=h;rfl
 |c::r,xs,u,h,hn,M=>by
  simp only[jr] at h;split at h
  ·rename_i x u1 y u2 h1 h2;cases h;have hn':(lH c).all (· != id)=true/\(r.flatMap lH).all (· != id)=true:=by
    simpa[udj] using hn
   rw[gc,UN h2 hn'.2];unfold me at h1;split at h1
   ·rename_i i;have hi:i≠id:=by
     have:=hn'.1;simpa[lH] using this
    split at h1<;>try trivial
    ·simp at h1;obtain⟨_,_,rfl⟩:=h1;exact fa _ _ (Ne.symm hi)
    ·simp at h1;obtain⟨_,rfl⟩:=h1;rfl
   ·simp at h1;obtain⟨_,rfl⟩:=h1;rfl
  ·cases h
def zax {x v:AV} {e:Eff} {vv:Value} (hm:MemOK P B w F γ M) (hb:∀ b,F b->b<w.heap.size) (hsub:∀ i y,m i=some y->M i=some y)
  (h:Lh P t x v m=some e) (hn:av e.need) (hx:aE P w F (ap M γ) x vx) (hv:aE P w F (ap M γ) v vv) :
  e.v = .dead/\∃ w' F',(Instr.storeAt t vx vv).run P w = .ok () w'/\Step B w F γ M w' F' γ (ax M e.wr)/\MemOK P B w' F' γ (ax M e.wr):=by
 unfold Lh at h;split at h<;>try trivial
 rename_i new hnew;obtain⟨c1,c2,c3⟩:=o6 hnew hv;split at h<;>try trivial
 rename_i hi;obtain⟨ti,hti⟩:=uaq.1 hi.1;have hsz:vv.cells.size=P.cellsOf t:=by omega
 split at h<;>try trivial
 ·
  rename_i id off;split at h<;>try trivial
  rename_i ety cs hid;split at h<;>try trivial
  rename_i cs' hput;cases h;obtain⟨b,arr,e1,rfl,e3,e4,e5,e6,e7⟩:=lw hm (hsub _ _ hid) hx.2;have hl:off+vv.cells.toList.length<=arr.size:=by
   unfold nw at hput;split at hput
   ·simp; omega
   ·cases hput
  obtain⟨p1,p2⟩:=Dt (g':=λj u=>(cF arr off vv.cells.toList)[j]? = some u) hput e7 (c2.turn λj u hj hu=>by
    rw[yx hl (by simp; omega)]; simpa using hu) (λj u hj hu=>by
    rw[rC hl (by simp; omega)]; exact hu)
  obtain⟨s1,s2⟩:=pJ hm hb (hsub _ _ hid) e1 e3 e4 e5 hl (by omega) p2;exact⟨rfl,_,F,D8 e3 hti hsz (by simpa using hl) c3,s1,s2⟩
 ·
  rename_i id sz i off;split at h<;>try trivial
  rename_i ety tt l new' u hid hrs;split at h<;>try trivial
  rename_i hc;obtain⟨hlt,hsz',hno⟩:=hc;split at h<;>try trivial
  rename_i row hput;split at h<;>try trivial
  rename_i y hdec;cases h;have hil:i<l.length:=hn;obtain⟨F1,s1,m1,t1,l1,r1⟩:=yR hm hb (cX.of hsub) hrs c2;have hM1:ax M u id=some (.arr ety tt l):=by rw[UN hrs hno]; exact hsub _ _ hid
  obtain⟨b,c,arr,e1,e2,e3,e4,e5,e6⟩:=NI m1 hM1 hlt hil;obtain⟨A,n0,c0,f1,rfl⟩:=hx;have f2:=qw6 (hsub _ _ hid) (by simp) f1;rw[e1] at f2;obtain⟨rfl,rfl,rfl⟩:=f2;subst hsz';have hlr:off+new'.length<=tt.size:=by
   unfold nw at hput;split at hput
   ·rename_i hle;rw[fl] at hle;exact hle
   ·cases hput
  have hnl:vv.cells.toList.length=new'.length:=by rw[l1]; simpa using c1
  have hlen:i*tt.size+off+vv.cells.toList.length<=arr.size:=by
   rw[ues] at e5;omega
  obtain⟨p1,p2⟩:=Dt (g':=λj u=>(cF arr (i*tt.size+off) vv.cells.toList)[i*tt.size+j]? = some u) hput e6
   (r1.turn λj u hj hu=>by rw[<- ued,yx hlen (by omega)]; simpa using hu)
   (λj u hj hu=>by rw[rC hlen (by omega)]; exact hu)
  obtain⟨q1,_⟩:=aA.dec tt hdec p2;have hst:Step B w F1 γ (ax M u) (w.setRow b (cF arr (i*tt.size+off) vv.cells.toList)) F1 γ (upd (ax M u) id (.arr ety tt (l.set i y))):=Le s1.bd e3 e4 (nx hM1 (by simp));have hmm:MemOK P B (w.setRow b (cF arr (i*tt.size+off) vv.cells.toList)) F1 γ (upd (ax M u) id (.arr ety tt (l.set i y))):=by
   have hnm:∀ b',γ id ≠ .map (some b'):=λb' he=>by rw[e1] at he; cases he
   refine m1.change hM1 (by simp) hst.hF hst.hw (λc h=>(lE hlt hnm).2 ((lE hlt hnm).1 h)) (λc _ hne=>⟨uev w b c _ (λe'=>hne (.inl (by rw[e1]; simp[Value.ownBlock,e']))),λh=>h⟩) ?_;obtain⟨xs,hown,hnF,hrows,hone⟩:=gg.of (m1.ob id _ hM1) hlt;obtain⟨hxl,hn'|⟨g,cap,cur,hv',hbg,hg,hnc,hcm,hcs,ht⟩⟩:=hown
   ·omega
   ·rw[e1] at hv';obtain⟨rfl,rfl⟩:=hv';rw[e2] at hg;simp at hg;subst hg;have hrowsN:bU w F1 tt (l.set i y) ((cF arr (i*tt.size+off) vv.cells.toList).toList.take (l.length*tt.size)):=by
     intro k x hk;have hkl:k<l.length:=by simpa using (uak.1 hk).1
     have hkb:k*tt.size+tt.size<=l.length*tt.size:=by rw[<- ues]; exact ubc _ hkl
     rcases ucr k i with h1|h1|h1
     ·rw[ubg (by omega)] at hk;have hki:k*tt.size+tt.size<=i*tt.size:=by rw[<- ues]; exact ubc _ h1
      refine(hrows k x hk).mono (λ_ h=>h) (λ_ _=>rfl) λj u hj hu=>?_;rw[ub0,if_pos (by omega),ua4,rC hlen (by omega)];rw[<- ht,ub0,if_pos (by omega)] at hu;simpa using hu
     ·subst h1;rw[uaz hkl] at hk;cases hk;refine q1.mono (λ_ h=>h) (λ_ _=>rfl) λj u hj hu=>?_;rw[ub0,if_pos (by omega),ua4];exact hu
     ·rw[ubg (by omega)] at hk;have hki:i*tt.size+tt.size<=k*tt.size:=by rw[<- ues]; exact ubc _ h1
      refine(hrows k x hk).mono (λ_ h=>h) (λ_ _=>rfl) λj u hj hu=>?_;rw[ub0,if_pos (by omega),ua4,rC hlen (by omega)];rw[<- ht,ub0,if_pos (by omega)] at hu;simpa using hu
    have hlc:l.length*tt.size<=arr.size:=by rw[hcs]; exact ubc _ hnc
    have hxl':((cF arr (i*tt.size+off) vv.cells.toList).toList.take (l.length*tt.size)).length=(l.set i y).length*tt.size:=by
     have h8:(cF arr (i*tt.size+off) vv.cells.toList).toList.length=arr.size:=by simpa using yy hlen
     rw[uc2,h8,udk];omega
    refine .inl ⟨hlt,_,⟨hxl',.inr ⟨b,_,_,by rw[e1,udk],hbg,ue7 w b arr _ ety (0,0) e2,by rw[udk]; exact hnc,hcm,by rw[yy hlen]; exact hcs,by rw[udk]⟩⟩,hnF,hrowsN.mono hst.hF hst.hw,yQ hrowsN hxl'⟩
  have hrun:=D8 e2 hti hsz (by simpa using hlen) c3;refine⟨rfl,_,F1,by rw[i8,uet]; exact hrun,?_,?_⟩
  ·rw[gc];exact s1.trans hst
  ·rw[gc];exact hmm
 ·
  rename_i id off n i;split at h<;>try trivial
  rename_i ety cs k y hid;split at h<;>try trivial
  rename_i bf hseg;split at h<;>try trivial
  rename_i ns hns;split at h<;>try trivial
  rename_i cs' hput;cases h;obtain⟨ad,a1,a2,a3,rfl⟩:=hx;obtain⟨b,arr,e1,e2,e3,e4,e5,e6,e7⟩:=lw hm (hsub _ _ hid) a1;simp at e2;subst e2;obtain⟨u,hcells,hu2⟩:∃ u,vv.cells = #[u]/\(u = .int k y/\inR k y):=by
   obtain⟨⟨u,g1,_,g3⟩,_⟩:=c2;have:vv.cells.size=1:=by simpa using c1
   refine⟨u,?_,g3⟩;apply ufh
   ·simpa using this
   ·intro j hj1 hj2;have:j=0:=by simp at hj2; exact hj2
    subst this;have:=(uaf.1 g1).2;simpa using this
  obtain⟨hu2,hy⟩:=hu2;subst hu2;have hseq:=Cu hns;obtain⟨g1,g2⟩:=uc hseg e7;have hsb:off+n<=cs.length:=by
   unfold ig at hseg;split at hseg
   ·assumption
   ·cases hseg
  have hl:off+i.toNat+vv.cells.toList.length<=arr.size:=by rw[hcells]; simp; omega
  have hnsl:ns.length=n:=by rw[hseq] at g1; simpa using g1
  have hset:∀ (ns:List Int) (j0:Nat),(pI ns j0 i y).length=ns.length/\∀ j,(pI ns j0 i y)[j]? = if i=((j0+j:Nat):Int)/\j<ns.length then some y else ns[j]? := by
   intro ns
   induction ns with
   |nil=>intro j0; exact⟨rfl,λj=>by simp[pI]⟩
   |cons q r ih=>
    intro j0;obtain⟨i1,i2⟩:=ih (j0+1);refine⟨by simp[pI,i1],λj=>?_⟩;cases j with
    |zero=>
     simp only[pI,ueu,uc6];by_cases hq:i=(j0:Int)
     ·rw[if_pos ⟨hq,by omega⟩]; simp[hq]
     ·rw[if_neg (by omega)];have:(i==(j0:Int))=false:=by simpa using hq
      simp[this]
    |succ j=>
     simp only[pI,List.getElem?_cons_succ,uc6];rw[i2];by_cases hq:i=((j0+1+j:Nat):Int)/\j<r.length
     ·rw[if_pos hq,if_pos ⟨by rw[hq.1]; congr 1; omega,by omega⟩]
     ·rw[if_neg hq,if_neg (λhh=>hq ⟨by rw[hh.1]; congr 1; omega,by omega⟩)]
  obtain⟨z1,z2⟩:=hset ns 0;obtain⟨p1,p2⟩:=Dt (g':=λj u=>(cF arr (off+i.toNat) vv.cells.toList)[j]? = some u) hput e7
   (ki _ λj c hc=>by
    rw[ucm,z2] at hc;by_cases hj:i=((0+j:Nat):Int)/\j<ns.length
    ·rw[if_pos hj] at hc;simp at hc;subst hc;refine⟨.int k y,?_,rfl,rfl,hy⟩;have hij:i.toNat=j:=by omega
     have:=yx hl (j:=0) (by rw[hcells]; simp);rw[hij,ueu] at this;rw[hij,this,hcells];rfl
    ·rw[if_neg hj] at hc;have hcs:bf[j]? = some c:=by rw[hseq,ucm]; exact hc
     obtain⟨u,d1,d2⟩:=g2.at_ hcs;refine⟨u,?_,d2⟩;rw[rC hl (by rw[hcells]; simp; omega)];exact d1)
   (λj u hj hu=>by
    rw[rC hl (by rw[hcells]; simp at hj |-; omega)];exact hu)
  obtain⟨s1,s2⟩:=pJ hm hb (hsub _ _ hid) e1 e3 e4 e5 hl (by omega) p2;exact⟨rfl,_,F,by rw[i8]; exact D8 e3 hti hsz (by simpa using hl) c3,s1,s2⟩
end
section
variable {P:Program} {B:Nat} {o:Oper} {a:Act} {w w':World} {F F':Nat->Prop} {γ γ':Nat->Value} {M m:aT} {R:Nat->Value->Prop} {Γ:Gm}
def qtp {n c:Int} {kn kc:IntKind} {e:Eff} (hm:MemOK P B w F γ M) (hb:∀ b,F b->b<w.heap.size) (hB:B<=w.heap.size) (hd:m d=none->M d=none)
  (h:J4 P d t n c m=some e) (hn:av e.need) :
  ∃ u w' γ',(Instr.makeSlice t (.int kn n) (.int kc c)).run P w = .ok u w'/\Step B w F γ M w' F γ' (ax M e.wr)/\MemOK P B w' F γ' (ax M e.wr)/\aE P w' F (ap (ax M e.wr) γ') e.v u:=by
 unfold J4 at h;split at h<;>try trivial
 rename_i el ht;split at h<;>try trivial
 rename_i i tt hi htt hmd;split at h<;>try trivial
 rename_i z hz;split at h<;>try trivial
 rename_i cs hcs;split at h<;>try trivial
 rename_i x hdec;split at h<;>try trivial
 rename_i hsz;obtain⟨hlt,hs1,hs2,hs3⟩:=hsz;cases h;obtain⟨n1,n2,n3,n4⟩:=hn;obtain⟨z1,z2,_⟩:=o6 hcs (tf (P:=P) (R:=ap M γ) z);obtain⟨r1,_⟩:=aA.dec tt hdec z2;have hr:=run_make w t el i z ht hi hz kn kc n c n1 n2 (by rw[uew]; omega) (by simp only[maxLen] at n3; omega);have hcn:c.toNat<=maxLen:=by omega
 have hcell:∀ k,k<c.toNat*i.size->(madeCells z.cells (c.toNat*i.size))[k]? = z.cells[k%z.cells.size]? := by
  intro k hk;have hpos:0<z.cells.size:=by omega
  have hlt:=ufb k hpos;have hg:z.cells[k%z.cells.size]! = z.cells[k%z.cells.size]:=by simp[hlt]
  simp[madeCells,hk,hg]
 have hrows:bU (w.alloc (.cells (madeCells z.cells (c.toNat*i.size)) el)) F tt (List.replicate n.toNat x) ((madeCells z.cells (c.toNat*i.size)).toList.take (n.toNat*tt.size)):=by
  intro k y hk;have hkn:k<n.toNat:=by simpa using (uak.1 hk).1
  have hy:y=x:=by
   have:=(uak.1 hk).2;simpa using this.symm
  subst hy;have hkb:k*tt.size+tt.size<=n.toNat*tt.size:=by rw[<- ues]; exact ubc _ hkn
  have hnc:n.toNat*tt.size<=c.toNat*i.size:=by rw[hs1]; exact ubc _ (by omega)
  refine r1.mono (λ_ h=>h) (λb hb'=>uc8 _ _ _ (hb b hb')) λj u hj hu=>?_;rw[ub0,if_pos (by omega),ua4,hcell _ (by omega),hs2];rw[show(k*tt.size+j)%tt.size=j from by rw[uer,Nat.mul_add_mod]; exact Nat.mod_eq_of_lt hj];exact hu
 have hlen:(List.replicate n.toNat x).length=n.toNat:=by simp
 obtain⟨s1,s2⟩:=uN hm hb hB (hd hmd)
  (ubt w _ none)
  ⟨by
    rw[uc2,ubs,size_madeCells,hlen];have:n.toNat*tt.size<=c.toNat*i.size:=by rw[hs1]; exact ubc _ (by omega)
    omega,
   .inr ⟨w.heap.size,c.toNat,_,by rw[hlen],hB,ud3 w _,by rw[hlen]; omega,hcn,by rw[size_madeCells,hs1],by rw[hlen]⟩⟩
  (λg hg=>by simp[Value.ownBlock] at hg; omega) hrows hlt
 exact⟨_,_,_,hr,s1,s2,lP rfl⟩
def Qt {sz:Nat} {t:Ty} (hsz:t.size=sz):{vs:List (Nat×AV)} -> {ps:List (Nat×Value)} -> {l:List t.den} -> {k:Nat} -> {arr:Array Value}->n9 t k vs=some l->ps.length=vs.length ->
  (∀ (q i:Nat) (x:AV) (v:Nat×Value),vs[q]? = some (i,x)->ps[q]? = some v->v.1=i/\aE P w F R x v.2)->(k+vs.length)*sz<=arr.size ->
  l.length=vs.length/\∃ arr',Instr.fill (λi=>some (i*sz,sz)) arr ps=some arr'/\arr'.size=arr.size/\(∀ j,j<k*sz->arr'[j]? = arr[j]?) /\
   ∀ (i:Nat) (x:t.den),l[i]? = some x->aA w F t x (λj u=>arr'[(k+i)*sz+j]? = some u)
 |[],[],l,k,arr,h,_,_,_=>by
  simp only[n9,ucj] at h;subst h;exact⟨rfl,arr,rfl,rfl,λ_ _=>rfl,λi x hi=>by simp at hi⟩
 |(i,x)::r,(i',v)::ps,l,k,arr,h,hl,hp,hb=>by
  obtain⟨rfl,hv⟩:=hp 0 i x (i',v) rfl rfl;simp only at hv;simp only[n9] at h;split at h<;>try trivial
  rename_i hik;split at h<;>try trivial
  rename_i y l' hy hl';cases h;have hrep:=qP hy hv;obtain⟨e1,e2,e3⟩:=hrep;have hbk:k*sz+sz<=arr.size:=by
   have h1:(k+1)*sz<=(k+(r.length+1))*sz:=ubc _ (by omega);rw[ues] at h1;simp at hb;omega
  obtain⟨f1,f2⟩:=Ij v.cells.toList (k*sz) 0 arr;have hz:v.cells.zipIdx.foldl (λcs (x:Value×Nat)=>cs.setIfInBounds (k*sz+x.2) x.1) arr=(v.cells.toList.zipIdx 0).foldl (λcs (x:Value×Nat)=>cs.setIfInBounds (k*sz+x.2) x.1) arr:=by
   rw[<- Array.foldl_toList,Array.toList_zipIdx]
  obtain⟨g1,arr',g2,g3,g4,g5⟩:=Qt hsz hl' (by simpa using hl)
   (λq i x v h1 h2=>hp (q+1) i x v (by simpa using h1) (by simpa using h2)) (by rw[f1]; simp at hb; rw[show k+1+r.length=k+(r.length+1) from by omega]; exact hb)
  refine⟨by simp[g1],arr',?_,by rw[g3,f1],λj hj=>?_,λq z hq=>?_⟩
  ·subst hik;simp only[Instr.fill];rw[if_neg (by simp; omega),<- g2];congr 1
  ·rw[g4 j (by rw[ues]; omega),f2,if_neg (by omega)]
  ·cases q with
   |zero=>
    simp at hq;subst hq;refine e3.mono (λ_ h=>h) (λ_ _=>rfl) λj u hj hu=>?_;rw[ueu,g4 _ (by rw[ues]; omega),f2,if_pos (by simp; omega)];simpa using hu
   |succ q=>
    have:=g5 q z (by simpa using hq);rw[show k+1+q=k+(q+1) from by omega] at this;exact this
 |[],_::_,_,_,_,_,hl,_,_=>by simp at hl
 |_::_,[],_,_,_,_,hl,_,_=>by simp at hl
def qbo {i:TypeInfo} {z:Value} {tt:Ty} {vs:List (Nat×AV)} {ps:Array (Nat×Value)} {l:List tt.den} (hm:MemOK P B w F γ M) (hb:∀ b,F b->b<w.heap.size) (hB:B<=w.heap.size) (hd:M d=none)
  (ht:P.underlying t=some (.slice el)) (hi:P.info? el=some i) (hz:i.zero=some z) (hs:i.size=tt.size) (hzs:z.cells.size=tt.size) (hpos:0<tt.size) (hbig:n*i.size<=16777216) (h:n9 tt 0 vs=some l) (hl:l.length=n)
  (hps:ps.size=vs.length) (hp:∀ (q i:Nat) (x:AV) (v:Nat×Value),vs[q]? = some (i,x)->ps[q]? = some v->v.1=i/\aE P w F (ap M γ) x v.2) (hlt:el<cj) :
  ∃ u w' γ',(Instr.buildSlice t n ps).run P w = .ok u w'/\Step B w F γ M w' F γ' (upd M d (.arr el tt l))/\MemOK P B w' F γ' (upd M d (.arr el tt l))/\aE P w' F (ap (upd M d (.arr el tt l)) γ') (.c (.own d)) u:=by
 have hlen0:vs.length=n:=by
  have:∀ (vs:List (Nat×AV)) (k:Nat) (l:List tt.den),n9 tt k vs=some l->l.length=vs.length:=by
   intro vs
   induction vs with
   |nil=>intro k l h; simp only[n9,ucj] at h; subst h; rfl
   |cons x r ih=>
    intro k l h;simp only[n9] at h;split at h<;>try trivial
    split at h<;>try trivial
    rename_i h2;cases h;simp[ih _ _ h2]
  rw[<- this vs 0 l h,hl]
 have hnn:n<=maxLen:=by
  have:n*1<=n*i.size:=Nat.mul_le_mul_left _ (by omega);simp only[maxLen];omega
 have key:∀ arr0:Array Value,arr0.size=n*i.size->∃ arr',Instr.fill (λj=>some (j*i.size,i.size)) arr0 ps.toList=some arr'/\arr'.size=n*i.size/\∀ (k:Nat) (x:tt.den),l[k]? = some x->aA w F tt x (λj u=>arr'[k*i.size+j]? = some u):=by
  intro arr0 h0;obtain⟨_,arr',g2,g3,_,g5⟩:=Qt hs.symm (ps:=ps.toList) h (by simpa using hps) (λq i x v h1 h2=>hp q i x v h1 (by simpa using h2)) (by rw[h0,uet,hlen0]; exact ue4 _);exact⟨arr',g2,by rw[g3,h0],λk x hk=>by have:=g5 k x hk; rw[uet] at this; exact this⟩
 have hzv:(zeroValue el).run P w = .ok z w:=by simp[zeroValue,typeInfo,hi,hz]
 have hrun:∃ arr',arr'.size=n*i.size/\(∀ (k:Nat) (x:tt.den),l[k]? = some x->aA w F tt x (λj u=>arr'[k*i.size+j]? = some u)) /\
   (Instr.buildSlice t n ps).run P w = .ok (.slice (some ⟨w.heap.size,0,none⟩) n n) (w.alloc (.cells arr' el)):=by
  have hci:P.cellsOf el=i.size:=by simp[Program.cellsOf,hi]
  have hbig':¬ (16777216<n*i.size):=by omega
  by_cases hn0:n*i.size=0
  ·obtain⟨arr',k1,k2,k3⟩:=key ((Array.range 0).map λ_=>default) (by simp[hn0]);refine⟨arr',k2,k3,?_⟩;simp only[Instr.buildSlice,ueo,ud1 ht,uck,gw hi,hci];simp[hn0,k1,newRow,Sem.run]
  ·obtain⟨arr',k1,k2,k3⟩:=key ((Array.range (n*i.size)).map (λj=>z.cells[j%z.cells.size]!)) (by simp);refine⟨arr',k2,k3,?_⟩;simp only[Instr.buildSlice,ueo,ud1 ht,uck,gw hi,hci];simp[hn0,hbig',hzv,k1,newRow,newObj,Sem.run]
 obtain⟨arr',k2,k3,hr⟩:=hrun;have hrows:bU (w.alloc (.cells arr' el)) F tt l (arr'.toList.take (l.length*tt.size)):=by
  intro k x hk;have hkl:=(uak.1 hk).1;have hkb:k*tt.size+tt.size<=l.length*tt.size:=by rw[<- ues]; exact ubc _ hkl
  refine(k3 k x hk).mono (λ_ h=>h) (λb hb'=>uc8 _ _ _ (hb b hb')) λj u hj hu=>?_;rw[ub0,if_pos (by omega),ua4,<- hs];exact hu
 obtain⟨s1,s2⟩:=uN hm hb hB hd (ubt w _ none)
  ⟨by
    have h9:arr'.toList.length=n*tt.size:=by rw[<- hs]; simpa using k2
    rw[uc2,h9,hl]; exact Nat.min_self _,.inr ⟨w.heap.size,n,_,by rw[hl],hB,ud3 w _,by rw[hl]; exact ue4 _,hnn,by rw[k2,hs],rfl⟩⟩
  (λg hg=>by simp[Value.ownBlock] at hg; omega) hrows hlt
 exact⟨_,_,_,hr,s1,s2,lP rfl⟩
def Vl {t:Ty} {l:List t.den} {A:Option Addr} {lo hi mx:Nat} (hr:aA w F (.sl t) l (λ_ u=>u = .slice A l.length c)) (h1:lo<=hi) (h2:hi<=l.length) (h3:hi<=mx) (h4:mx<=c) :
  aA w F (.sl t) ((l.drop lo).take (hi-lo)) (λ_ u=>u = .slice (if mx=lo then A else A.map (·.add (lo*t.size))) (hi-lo) (mx-lo)):=by
 obtain⟨A',c',e1,e2,e3,e4⟩:=hr;obtain⟨rfl,_,rfl⟩:=e1;have hlen:((l.drop lo).take (hi-lo)).length=hi-lo:=by simp; omega
 refine⟨_,mx-lo,by rw[hlen],by rw[hlen]; omega,by omega,λi x hi'=>?_⟩;have hil:i<hi-lo:=by rw[<- hlen]; exact(uak.1 hi').1
 rw[ub0,if_pos hil,ubz] at hi';obtain⟨ad,rfl,f2,f3⟩:=e4 _ _ hi';refine⟨ad.add (lo*t.size),by rw[if_neg (by omega)]; rfl,by rw[qp]; exact f2,f3.mono (λ_ h=>h) (λ_ _=>rfl) λj u hj hu=>?_⟩;rw[m9,<- hu,ue6,ued]
def kY {n:Int} {y:Nat} {code:BoundsCode} (h0:0<=n) (h1:n<=y):(Instr.sliceBound (.int k n) y code).run P w = .ok n.toNat w:=by
 simp[Instr.sliceBound,asIntOf,h0,h1]
def qve {bb:Bool} {r r':List AV} {x:Option Int} (h:uS bb r=some (x,r')) (hr:bj P w F R r vs) :
  (bb=false/\x=none/\r'=r)\/(bb=true/\∃ k n v vs',x=some n/\vs=v::vs'/\v = .int k n/\bj P w F R r' vs'):=by
 unfold uS at h;split at h
 ·simp at h;exact .inl ⟨rfl,h.1.symm,h.2.symm⟩
 ·cases h;cases vs with
  |nil=>exact hr.elim
  |cons v vs=>exact .inr ⟨rfl,_,_,v,vs,rfl,rfl,hr.1.2.1,hr.2⟩
 ·cases h
def qz8 {ti:TypeInfo} {tt:Ty} {y:List tt.den} {l h k:Option Int} {kl kh kk:IntKind} {c:AC} {n:List Prop} {A:Option Addr} {cap:Nat} (ht:P.underlying t=some (.slice e)) (he:P.info? e=some ti) (hs:P.cellsOf e=tt.size)
  (hsl:KQ tt y l h k=some (c,n)) (hn:av n) (hr:aA w F (.sl tt) y (λ_ u=>u = .slice A y.length cap)) :
  ∃ u,(Instr.sliceAt t (.slice A y.length cap) (l.map (.int kl)) (h.map (.int kh)) (k.map (.int kk))).run P w = .ok u w/\u.oneCell'=true/\bc P w F R c u:=by
 have hcap:y.length<=cap:=by
  obtain⟨A',c',e1,e2,_⟩:=hr;simp at e1;omega
 have hrun:∀ (lo hi mx:Nat),(Instr.sliceBounds true y.length cap (l.map (.int kl)) (h.map (.int kh)) (k.map (.int kk))).run P w = .ok (lo,hi,mx) w ->
   (Instr.sliceAt t (.slice A y.length cap) (l.map (.int kl)) (h.map (.int kh)) (k.map (.int kk))).run P w = .ok (.slice (if mx=lo then A else A.map (·.add (lo*tt.size))) (hi-lo) (mx-lo)) w:=by
  intro lo hi mx hb;simp[Instr.sliceAt,Instr.slice,ud1 ht,hb,gw he,hs]
 unfold KQ at hsl;split at hsl
 ·cases hsl;obtain⟨n1,n2,n3⟩:=hn;have hb:(Instr.sliceBounds true y.length cap (l.map (.int kl)) (h.map (.int kh)) ((none:Option Int).map (.int kk))).run P w = .ok ((l.getD 0).toNat,(h.getD y.length).toNat,cap) w:=by
   cases h with
   |none=>
    cases l with
    |none=>simp[Instr.sliceBounds]
    |some lo=>simp at n1 n2 n3; simp[Instr.sliceBounds,kY n1 n2]
   |some hi=>
    have h3:hi<=(cap:Int):=by simp at n3; omega
    have h4:0<=hi:=by simp at n2; omega
    cases l with
    |none=>simp[Instr.sliceBounds,kY h4 h3]
    |some lo=>
     simp at n1 n2 n3;simp[Instr.sliceBounds,kY h4 h3,kY (P:=P) (w:=w) (y:=hi.toNat) n1 (by omega)]
  have hrr:=Vl (lo:=(l.getD 0).toNat) (hi:=(h.getD y.length).toNat) hr (by omega) (by omega) (by omega) (ue4 _);refine⟨_,hrun _ _ _ hb,rfl,?_⟩;rw[show((h.getD y.length)-(l.getD 0)).toNat=(h.getD y.length).toNat-(l.getD 0).toNat from by omega];exact hrr
 ·rename_i q;split at hsl<;>try trivial
  cases hsl;obtain⟨n1,n2,n3,rfl⟩:=hn;have hb:(Instr.sliceBounds true y.length cap (l.map (.int kl)) ((some q).map (.int kh)) ((some q).map (.int kk))).run P w = .ok ((l.getD 0).toNat,q.toNat,q.toNat) w:=by
   have h3:q<=(cap:Int):=by omega
   have h4:0<=q:=by omega
   cases l with
   |none=>simp[Instr.sliceBounds,kY h4 h3,kY (P:=P) (w:=w) (y:=q.toNat) h4 (by omega)]
   |some lo=>
    simp at n1 n2;simp[Instr.sliceBounds,kY h4 h3,kY (P:=P) (w:=w) (y:=q.toNat) h4 (by omega),kY (P:=P) (w:=w) (y:=q.toNat) n1 (by omega)]
  have hrr:=Vl (lo:=(l.getD 0).toNat) (mx:=q.toNat) hr (by omega) (by omega) (ue4 _) (by omega);refine⟨_,hrun _ _ _ hb,rfl,?_⟩;have hlen:((y.drop (l.getD 0).toNat).take (q-(l.getD 0)).toNat).length=q.toNat-(l.getD 0).toNat:=by simp; omega
  refine⟨_,by rw[hlen],?_⟩;rw[show(q-(l.getD 0)).toNat=q.toNat-(l.getD 0).toNat from by omega];exact hrr
def xp:{ps:List PT} -> {cs:List AC} -> {x:ag ps} -> {vs:List Value}->gY ps cs=some x->bj P w F R (cs.map .c) vs->cJ P w F ps x vs
 |[],[],_,[],_,_=>rfl
 |.d t::r,a::s,x,v::vs,h,hr=>by
  simp only[gY] at h;split at h
  ·rename_i y z h1 h2;cases h;exact⟨v,vs,rfl,qP h1 hr.1,xp h2 hr.2⟩
  ·cases h
 |.ptr t::r,.sptr cs::s,x,v::vs,h,hr=>by
  simp only[gY] at h;split at h
  ·rename_i y q z h1 h2;cases h;obtain⟨_,ad,e1,e2,e3⟩:=hr.1;exact⟨v,vs,rfl,⟨ad,e1,e2,(aA.dec t h1 e3).1⟩,xp h2 hr.2⟩
  ·cases h
 |.pfn ps rs::r,.sptr [.fv ps' rs' g]::s,x,v::vs,h,hr=>by
  simp only[gY] at h;split at h<;>try trivial
  rename_i hp;split at h<;>try trivial
  rename_i hk;split at h<;>try trivial
  rename_i y h2;cases h;subst hp;subst hk;obtain⟨_,ad,e1,e2,⟨⟨u,e3,_,e4⟩,_⟩⟩:=hr.1;exact⟨v,vs,rfl,⟨ad,u,e1,e2,e3,e4⟩,xp h2 hr.2⟩
 |.pfn _ _::_,.sptr [.fv _ _ _]::_,_,[],_,hr=>hr.elim
 |.pk f::r,.sptr [.fn f' []]::s,x,v::vs,h,hr=>by
  simp only[gY] at h;split at h<;>try trivial
  rename_i hf;split at h<;>try trivial
  rename_i y h2;cases h;subst hf;obtain⟨_,ad,e1,e2,⟨⟨u,e3,_,e4⟩,_⟩⟩:=hr.1;obtain⟨vs0,rfl,h3,_⟩:=e4;have h4:=Array.size_eq_zero_iff.mp h3;subst h4;exact⟨v,vs,rfl,⟨ad,e1,e2,e3⟩,xp h2 hr.2⟩
 |.pk _::_,.sptr [.fn _ []]::_,_,[],_,hr=>hr.elim
 |[],[],_,_::_,_,hr=>hr.elim
 |[],_::_,_,_,h,_=>by simp[gY] at h
 |_::_,[],_,_,h,_=>by simp[gY] at h
 |.d _::_,_::_,_,[],_,hr=>hr.elim
 |.ptr _::_,.sptr _::_,_,[],_,hr=>hr.elim
 |.fn _ _::_,_::_,_,_,h,_=>by simp[gY] at h
 |.pf _ _::_,_::_,_,_,h,_=>by simp[gY] at h
 |.ptr _::_,.dead::_,_,_,h,_ | .ptr _::_,.int _ _::_,_,_,h,_ | .ptr _::_,.bool _::_,_,_,h,_ | .ptr _::_,.str _::_,_,_,h,_ | .ptr _::_,.nil::_,_,_,h,_
 |.ptr _::_,.sl _ _::_,_,_,h,_ | .ptr _::_,.slx _ _::_,_,_,h,_ | .ptr _::_,.own _::_,_,_,h,_ | .ptr _::_,.ptr _ _::_,_,_,h,_ | .ptr _::_,.fn _ _::_,_,_,h,_ | .ptr _::_,.fv _ _ _::_,_,_,h,_ | .ptr _::_,.pv _ _ _ _::_,_,_,h,_ | .ptr _::_,.mp _::_,_,_,h,_ | .ptr _::_,.fs _ _::_,_,_,h,_=>by simp[gY] at h
def qc5 {t u:Ty} (h:t=u) {x:t.den} (hr:bu w F t x v):bu w F u (GT h x) v:=by subst h; exact hr
def Hx:{ps:List Ty} -> {cps:List PT} -> {caps:List AC} -> {f:aa ps->ag cps}->jC ps cps caps=some f->(x:aa ps) -> {vs cvs:List Value}->dM w F ps x vs->bj P w F R (caps.map .c) cvs->cJ P w F cps (f x) (vs++cvs)
 |[],cps,caps,f,h,x,vs,cvs,hx,hr=>by
  simp only[jC] at h;split at h
  ·rename_i ys h1;cases h;cases hx;exact xp h1 hr
  ·cases h
 |t::r,.d t'::cps,caps,f,h,x,vs,cvs,hx,hr=>by
  simp only[jC] at h;split at h
  ·rename_i ht;split at h
   ·rename_i g hg;cases h;obtain⟨v,vs',rfl,h1,h2⟩:=hx;exact⟨v,vs'++cvs,rfl,qc5 ht h1,Hx hg x.2 h2 hr⟩
   ·cases h
  ·cases h
 |_::_,[],_,_,h,_,_,_,_,_=>by simp[jC] at h
 |_::_,.ptr _::_,_,_,h,_,_,_,_,_=>by simp[jC] at h
 |_::_,.fn _ _::_,_,_,h,_,_,_,_,_=>by simp[jC] at h
 |_::_,.pf _ _::_,_,_,h,_,_,_,_,_=>by simp[jC] at h
 |_::_,.pfn _ _::_,_,_,h,_,_,_,_,_=>by simp[jC] at h
 |_::_,.pk _::_,_,_,h,_,_,_,_,_=>by simp[jC] at h
def AX {caps:List AC} (hl:vs.length=caps.length) (h:aN P w F R caps (λj u=>vs[j]? = some u)):bj P w F R (caps.map .c) vs:=by
 induction caps generalizing vs with
 |nil=>cases vs with
  |nil=>trivial
  |cons _ _=>simp at hl
 |cons c r ih=>cases vs with
  |nil=>simp at hl
  |cons v vs=>
   obtain⟨⟨u,e1,e2,e3⟩,e4⟩:=h;simp at e1;subst e1;exact⟨⟨e2,e3⟩,ih (by simpa using hl) (by simpa using e4)⟩
def Uj {rs rs':List Ty} (k:rs=rs') {y:aa rs} {e:Ending} {w1 w2:World} {F1:Nat->Prop} (h:fJ w1 F1 rs y e w2):fJ w1 F1 rs' (AY k y) e w2:=by subst k; exact h
def qxa {ps ps' rs rs':List Ty} (h:ps=ps') (k:rs=rs') {g:aa ps->aa rs} (hr:jy P w F ps rs g v):jy P w F ps' rs' (xh h k g) v:=by subst h; subst k; exact hr
def cJ.mono (hF:∀ b,F b->F' b) (hw:∀ b,F b->w'.heap[b]? = w.heap[b]?):{ps:List PT} -> {x:ag ps} -> {vs:List Value}->cJ P w F ps x vs->cJ P w' F' ps x vs
 |[],_,_,h=>h
 |p::_,_,_,⟨v,vs',h1,h2,h3⟩=>by
  refine⟨v,vs',h1,?_,cJ.mono hF hw h3⟩;cases p with
  |d t=>exact bu.mono hF hw h2
  |ptr t=>
   obtain⟨ad,e1,e2,e3⟩:=h2;refine⟨ad,e1,hF _ e2,e3.mono hF hw λj u _ hu=>?_⟩;rw[<- hu];exact ubb (by rw[qp]; exact hw _ e2)
  |fn ps rs=>exact jy.mono hF hw h2
  |pf ps rs=>exact lq.mono hF hw h2
  |pfn ps rs=>
   obtain⟨ad,u,e1,e2,e3,e4⟩:=h2;refine⟨ad,u,e1,hF _ e2,?_,jy.mono hF hw e4⟩;rw[<- e3];exact ubb (by rw[qp]; exact hw _ e2)
  |pk f=>
   obtain⟨ad,e1,e2,e3⟩:=h2;refine⟨ad,e1,hF _ e2,?_⟩;rw[<- e3];exact ubb (by rw[qp]; exact hw _ e2)
def qe7 (hΓ:kN P Γ) {ps rs:List Ty} {c:AC} {g:aa ps->aa rs} {n:List Prop} (h:Hw Γ ps rs c=some (g,n)) (hn:av n) (hr:bc P w F R c v) (_hR:∀ id u,R id u->True):jy P w F ps rs g v:=by
 unfold Hw at h;split at h<;>try trivial
 ·split at h<;>try trivial
  rename_i hp;split at h<;>try trivial
  rename_i hk;obtain⟨rfl,_⟩:=h;exact qxa hp hk hr
 ·rename_i f caps;split at h<;>try trivial
  rename_i ct hct;split at h<;>try trivial
  rename_i hk;split at h<;>try trivial
  rename_i mm hmm;cases h;obtain⟨vs,rfl,e1,e2⟩:=hr;obtain⟨s1,s2⟩:=hΓ.1 f ct hct;refine⟨f,vs,rfl,s1,λw1 F1 hf hb xs us hx=>?_⟩;have hwf:=hx.wf;have hc:=aN.mono (λb hb'=>(hf b hb').1) (λb hb'=>(hf b hb').2) (λ_ _ _=>uT) caps (g':=λj u=>vs.toList[j]? = some u) (λj u hu=>by simpa using hu) e2;have hps:=Hx hmm xs hx (AX (by simpa using e1) hc);have:=s2 w1 F1 (mm xs) (us++vs.toList) hb hps (hn xs hwf);have he:(us++vs.toList).toArray=us.toArray++vs:=by simp
  rw[he] at this;exact this.mono λe w2 hp=>Uj hk hp
def qxb {ps ps' rs rs':List Ty} (h:ps=ps') (k:rs=rs') {g:aa ps->aa rs} {D:aa ps->Prop} (hr:lq P w F ps rs g D v):lq P w F ps' rs' (xh h k g) (OB h D) v:=by subst h; subst k; exact hr
def qe8 (hΓ:kN P Γ) {ps rs:List Ty} {c:AC} {x:(aa ps->aa rs)×(aa ps->Prop)} (h:Hy Γ ps rs c=some x) (hr:bc P w F R c v):lq P w F ps rs x.1 x.2 v:=by
 unfold Hy at h;split at h<;>try trivial
 ·split at h<;>try trivial
  rename_i hp;split at h<;>try trivial
  rename_i hk;cases h;exact qxb hp hk hr
 ·rename_i f caps;split at h<;>try trivial
  rename_i ct hct;split at h<;>try trivial
  rename_i hk;split at h<;>try trivial
  rename_i mm hmm;cases h;obtain⟨vs,rfl,e1,e2⟩:=hr;obtain⟨s1,s2⟩:=hΓ.1 f ct hct;refine⟨f,vs,rfl,s1,λw1 F1 hf hb xs us hd hx=>?_⟩;have hc:=aN.mono (λb hb'=>(hf b hb').1) (λb hb'=>(hf b hb').2) (λ_ _ _=>uT) caps (g':=λj u=>vs.toList[j]? = some u) (λj u hu=>by simpa using hu) e2;have hps:=Hx hmm xs hx (AX (by simpa using e1) hc);have:=s2 w1 F1 (mm xs) (us++vs.toList) hb hps hd;have he:(us++vs.toList).toArray=us.toArray++vs:=by simp
  rw[he] at this;exact this.mono λe w2 hp=>Uj hk hp
def mK (hΓ:kN P Γ):{ps:List PT} -> {xs:List AV} -> {x:ag ps} -> {n:List Prop} -> {vs:List Value}->jf Γ ps xs=some (x,n)->av n->bj P w F R xs vs->cJ P w F ps x vs
 |[],[],_,_,[],_,_,_=>rfl
 |p::r,a::s,x,n,v::vs,h,hn,hr=>by
  simp only[jf] at h;split at h
  ·rename_i y n1 z n2 h1 h2;cases h;refine⟨v,vs,rfl,?_,mK hΓ h2 (jd.1 hn).2 hr.2⟩;unfold Pl at h1;split at h1
   ·split at h1<;>try trivial
    rename_i h3;obtain⟨rfl,_⟩:=h1;exact qP h3 hr.1
   ·split at h1<;>try trivial
    rename_i h3;obtain⟨rfl,_⟩:=h1;obtain⟨_,ad,e1,e2,e3⟩:=hr.1;exact⟨ad,e1,e2,(aA.dec _ h3 e3).1⟩
   ·exact qe7 hΓ h1 (jd.1 hn).1 hr.1.2 (λ_ _ _=>uT)
   ·split at h1<;>try trivial
    rename_i h3;obtain⟨rfl,_⟩:=h1;exact qe8 hΓ h3 hr.1.2
   ·cases h1
  ·cases h
 |[],[],_,_,_::_,_,_,hr=>hr.elim
 |_::_,_::_,_,_,[],_,_,hr=>hr.elim
 |[],_::_,_,_,_,h,_,_=>by simp[jf] at h
 |_::_,[],_,_,_,h,_,_=>by simp[jf] at h
def bj.append {xs ys:List AV} {us:List Value} (h:bj P w F R xs us) (k:bj P w F R ys vs):bj P w F R (xs++ys) (us++vs):=by
 induction xs generalizing us with
 |nil=>cases us with
  |nil=>exact k
  |cons _ _=>exact h.elim
 |cons x xs ih=>cases us with
  |nil=>exact h.elim
  |cons u us=>exact⟨h.1,ih h.2⟩
def GR (hΓ:kN P Γ) {k:Int} {args:List AV} (hbd:∀ b,F b->b<w.heap.size) (ha:bj P w F R args vs):{es:List (Int×Nat)} -> {rs:List Ty} -> {y:aa rs} -> {n:List Prop} ->
  mG Γ k args es=some ⟨rs,y,n⟩->av n->∃ f,ie (es.find? (λx=>x.1==k)) = .func (.func f) #[] #[]/\(∀ args w2,(callFunc f args).run P w2 = .ok (.enter f args) w2)/\Calls P f vs.toArray w (fJ w F rs y)
 |[],_,_,_,h,_=>by simp[mG] at h
 |(i,f)::es,rs,y,n,h,hn=>by
  simp only[mG] at h;split at h<;>try trivial
  rename_i ct hct;split at h<;>try trivial
  rename_i x ns hd;obtain⟨s1,s2⟩:=hΓ.1 f ct hct;have hthis:k=i->av (ns++ct.ok x)->∃ f',ie (((i,f)::es).find? (λx=>x.1==k)) = .func (.func f') #[] #[]/\(∀ args w2,(callFunc f' args).run P w2 = .ok (.enter f' args) w2)/\Calls P f' vs.toArray w (fJ w F ct.rs (ct.f x)):=λhk hc=>by
   obtain⟨c1,c2⟩:=jd.1 hc;refine⟨f,by simp[hk,ie],s1,s2 w F x vs hbd (mK hΓ hd c1 ha) c2⟩
  split at h
  ·injection h with h
   cases h;obtain⟨c1,c2⟩:=je.1 hn;exact hthis c1 c2
  ·split at h<;>try trivial
   rename_i es' _ rs' y' ms hr;split at h<;>try trivial
   rename_i hrs;cases h;subst hrs;obtain⟨c1,c2⟩:=je.1 hn;by_cases hk:k=i
   ·obtain⟨f',e1,e2,e3⟩:=hthis hk (c1 hk);refine⟨f',e1,e2,?_⟩;have:(k==i)=true:=by simp[hk]
    rw[this];exact e3
   ·obtain⟨f',e1,e2,e3⟩:=GR hΓ hbd ha hr (c2 hk);refine⟨f',?_,e2,?_⟩
    ·rw[<- e1];have:(i==k)=false:=by rw[ubu]; omega
     simp[this]
    ·have:(k==i)=false:=by rw[ubu]; exact hk
     rw[this];exact e3
def Ws (hΓ:kN P Γ) {k:Int} {cs:List AC} {args:List AV} (hg:w.heap[b]? = some (.cells arr ety (0,0))) (hs:arr.size=cs.length)
  (ho:∀ u∈arr,u.oneCell'=true) (hc:aN P w F R cs (λj u=>arr[j]? = some u)) (ha:bj P w F R args vs):{es:List (Int×Nat)} -> {T:Ty} -> {z:T.den} -> {n:List Prop} ->
  zA Γ k cs args es=some ⟨T,z,n⟩->av n->cs.length=T.size/\∃ f,ie (es.find? (λx=>x.1==k)) = .func (.func f) #[] #[]/\(∀ args w2,(callFunc f args).run P w2 = .ok (.enter f args) w2) /\
   Calls P f (Value.pointer (some ⟨b,0,none⟩)::vs).toArray w λen w'=>∃ (u:Value) (ns:List Value),en = .returned u/\ns.length=T.size/\w'=w.setRow b ns.toArray/\aA w F T z (λj u=>ns[j]? = some u)
 |[],_,_,_,h,_=>by simp[zA] at h
 |(i,f)::es,T,z,n,h,hn=>by
  simp only[zA] at h;split at h<;>try trivial
  rename_i T1 ps g hct;have s1:=hΓ.2 f _ hct;split at h<;>try trivial
  rename_i x y hd hv;have hlen:cs.length=T1.size:=by have:=ku T1 hd; simp at this; omega
  have hx:=(aA.dec T1 hd hc).1;have hy:=lC hv ha;have hcall:=s1.calls w F b ety arr x y vs hg (by omega) ho hx hy;split at h
  ·injection h with h
   cases h;have hk:k=i:=hn;exact⟨hlen,f,by simp[hk,ie],s1.enters,hcall⟩
  ·split at h<;>try trivial
   rename_i es' _ T' z' ms hr;split at h<;>try trivial
   rename_i hT;subst hT;cases h;by_cases hk:k=i
   ·refine⟨hlen,f,by simp[hk,ie],s1.enters,?_⟩;have:(k==i)=true:=by simp[hk]
    rw[this];exact hcall
   ·obtain⟨_,f',e1,e2,e3⟩:=Ws hΓ hg hs ho hc ha hr (hn hk);refine⟨hlen,f',?_,e2,?_⟩
    ·rw[<- e1];have:(i==k)=false:=by rw[ubu]; omega
     simp[this]
    ·have:(k==i)=false:=by rw[ubu]; exact hk
     rw[this];exact e3
def qc3 (hΓ:kN P Γ) {x:AV} {args:List AV} {r:AV} {n:List Prop} (h:GS Γ x args=some (r,n)) (hn:av n) (hbd:∀ b,F b->b<w.heap.size)
  (hx:aE P w F R x vx) (ha:bj P w F R args vs):∃ f caps,vx = .func (.func f) #[] caps/\(∀ args w2,(callFunc f args).run P w2 = .ok (.enter f args) w2) /\
   ∃ rs y,r=jg rs y/\Calls P f (vs.toArray++caps) w (fJ w F rs y):=by
 unfold GS at h;split at h<;>try trivial
 ·rename_i f caps;obtain⟨_,cv,rfl,e1,e2⟩:=hx;unfold O7 at h;split at h<;>try trivial
  rename_i ct hct;split at h<;>try trivial
  rename_i y n1 hd;cases h;obtain⟨s1,s2⟩:=hΓ.1 f ct hct;refine⟨f,cv,rfl,s1,ct.rs,ct.f y,rfl,?_⟩;have hps:=mK hΓ hd (jd.1 hn).1 (ha.append (AX (vs:=cv.toList) (by simpa using e1) (by simpa using e2)));have:=s2 w F y (vs++cv.toList) hbd hps (jd.1 hn).2;have he:(vs++cv.toList).toArray=vs.toArray++cv:=by simp
  rw[he] at this;exact this
 ·rename_i ps rs g;split at h<;>try trivial
  rename_i y hd;cases h;have hf:=hx.2;obtain⟨f,caps,rfl,s1,s2⟩:=hf;exact⟨f,caps,rfl,s1,rs,g y,rfl,s2 w F (λb hb=>⟨hb,rfl⟩) hbd y vs (lC hd ha)⟩
 ·rename_i ps rs g D;split at h<;>try trivial
  rename_i y hd;cases h;have hf:=hx.2;obtain⟨f,caps,rfl,s1,s2⟩:=hf;exact⟨f,caps,rfl,s1,rs,g y,rfl,s2 w F (λb hb=>⟨hb,rfl⟩) hbd y vs hn (lC hd ha)⟩
 ·rename_i es k;split at h<;>try trivial
  rename_i rs y ns hd;cases h;have hv:=hx.2;simp only[bc] at hv;obtain⟨f,e1,e2,e3⟩:=GR hΓ hbd ha hd hn;rw[e1] at hv;exact⟨f,#[],hv,e2,rs,y,rfl,by simpa using e3⟩
end
section
variable {P:Program} {B:Nat} {o:Oper} {a:Act} {w w':World} {F F':Nat->Prop} {γ γ':Nat->Value} {M m:aT} {R:Nat->Value->Prop} {Γ:Gm}
def cL {S:Sem Value} (he:execOp a.eval o=(do pure (.value (<- S)):Sem Next)) (hr:S.run P w = .ok u w'):(execOp a.eval o).run P w = .ok (.value u) w':=by
 rw[he];simp[hr]
def qwf {p:Bool} {x y r:AV} (h:yA p x y=some r) (hx:p=true->aE P w F R x u) (hy:p=false->aE P w F R y v):aE P w F R r (if p then u else v):=by
 unfold yA at h;split at h<;>try trivial
 ·cases h;cases p
  ·exact⟨(hy rfl).1,(hy rfl).2⟩
  ·exact⟨(hx rfl).1,(hx rfl).2⟩
 ·split at h<;>try trivial
  rename_i hk;subst hk;cases h;cases p
  ·exact⟨(hy rfl).1,(hy rfl).2⟩
  ·exact⟨(hx rfl).1,(hx rfl).2⟩
def ST:{r:List AV} -> {x y:Int} -> {vs:List Value}->r8 k x r=some y->inR k x->bj P w F R r vs->(vs.foldlM (m:=Sem) Builtin.min2 (.int k x)).run P w = .ok (.int k y) w/\inR k y
 |[],x,y,[],h,hx,_=>by
  simp only[r8,ucj] at h;subst h;exact⟨by simp,hx⟩
 |.c (.int k' z)::r,x,y,v::vs,h,hx,hr=>by
  simp only[r8] at h;split at h<;>try trivial
  rename_i hk;subst hk;obtain⟨⟨_,rfl,hz⟩,hr⟩:=hr;have hx':inR k (if z<x then z else x):=by split<;>assumption
  obtain⟨h1,h2⟩:=ST h hx' hr;refine⟨?_,h2⟩;simp[Builtin.min2,h1]
 |[],_,_,_::_,_,_,hr=>hr.elim
 |_::_,_,_,[],_,_,hr=>hr.elim
 |.dead::_,_,_,_::_,h,_,_ | .agg _::_,_,_,_::_,h,_,_ | .tup _::_,_,_,_::_,h,_,_ | .optr _ _ _ _::_,_,_,_::_,h,_,_ | .aptr _ _ _::_,_,_,_::_,h,_,_ | .maybe _ _ _::_,_,_,_::_,h,_,_=>by simp[r8] at h
 |.c .dead::_,_,_,_::_,h,_,_ | .c (.bool _)::_,_,_,_::_,h,_,_ | .c (.str _)::_,_,_,_::_,h,_,_ | .c .nil::_,_,_,_::_,h,_,_ | .c (.sl _ _)::_,_,_,_::_,h,_,_
 |.c (.slx _ _)::_,_,_,_::_,h,_,_ | .c (.own _)::_,_,_,_::_,h,_,_ | .c (.ptr _ _)::_,_,_,_::_,h,_,_ | .c (.sptr _)::_,_,_,_::_,h,_,_ | .c (.fn _ _)::_,_,_,_::_,h,_,_ | .c (.fv _ _ _)::_,_,_,_::_,h,_,_ | .c (.pv _ _ _ _)::_,_,_,_::_,h,_,_ | .c (.mp _)::_,_,_,_::_,h,_,_ | .c (.fs _ _)::_,_,_,_::_,h,_,_=>by simp[r8] at h
def SN:{r:List AV} -> {x y:Int} -> {vs:List Value}->rz k x r=some y->inR k x->bj P w F R r vs->(vs.foldlM (m:=Sem) Builtin.max2 (.int k x)).run P w = .ok (.int k y) w/\inR k y
 |[],x,y,[],h,hx,_=>by
  simp only[rz,ucj] at h;subst h;exact⟨by simp,hx⟩
 |.c (.int k' z)::r,x,y,v::vs,h,hx,hr=>by
  simp only[rz] at h;split at h<;>try trivial
  rename_i hk;subst hk;obtain⟨⟨_,rfl,hz⟩,hr⟩:=hr;have hx':inR k (if x<z then z else x):=by split<;>assumption
  obtain⟨h1,h2⟩:=SN h hx' hr;refine⟨?_,h2⟩;simp[Builtin.max2,h1]
 |[],_,_,_::_,_,_,hr=>hr.elim
 |_::_,_,_,[],_,_,hr=>hr.elim
 |.dead::_,_,_,_::_,h,_,_ | .agg _::_,_,_,_::_,h,_,_ | .tup _::_,_,_,_::_,h,_,_ | .optr _ _ _ _::_,_,_,_::_,h,_,_ | .aptr _ _ _::_,_,_,_::_,h,_,_ | .maybe _ _ _::_,_,_,_::_,h,_,_=>by simp[rz] at h
 |.c .dead::_,_,_,_::_,h,_,_ | .c (.bool _)::_,_,_,_::_,h,_,_ | .c (.str _)::_,_,_,_::_,h,_,_ | .c .nil::_,_,_,_::_,h,_,_ | .c (.sl _ _)::_,_,_,_::_,h,_,_
 |.c (.slx _ _)::_,_,_,_::_,h,_,_ | .c (.own _)::_,_,_,_::_,h,_,_ | .c (.ptr _ _)::_,_,_,_::_,h,_,_ | .c (.sptr _)::_,_,_,_::_,h,_,_ | .c (.fn _ _)::_,_,_,_::_,h,_,_ | .c (.fv _ _ _)::_,_,_,_::_,h,_,_ | .c (.pv _ _ _ _)::_,_,_,_::_,h,_,_ | .c (.mp _)::_,_,_,_::_,h,_,_ | .c (.fs _ _)::_,_,_,_::_,h,_,_=>by simp[rz] at h
def Ex:{u:List (Nat×Ob)} -> {m M:aT}->(∀ i y,m i=some y->M i=some y)->∀ i y,ax m u i=some y->ax M u i=some y
 |[],_,_,h=>h
 |(id,ob)::r,m,M,h=>Ex (u:=r) λi y hy=>by
  by_cases hi:i=id
  ·subst hi;rw[iX] at hy |-;exact hy
  ·rw[fa _ _ hi] at hy |-;exact h i y hy
def QI {id:Nat} {e2:TypeId} {cs cs' cs2:List AC} {u:List (Nat×Ob)} (hm:MemOK P B w F γ M) (hb:∀ b,F b->b<w.heap.size) (hsub:∀ i y,m i=some y->M i=some y) (hid:m id=some (.box e cs)) (h:jr m cs=some (cs',u)) (hid2:ax m u id=some (.box e2 cs2)) :
  ∃ F' b,γ id = .pointer (some ⟨b,0,none⟩)/\F' b/\Step B w F γ M w F' γ (ax M (u++[(id,.fbox cs')]))/\MemOK P B w F' γ (ax M (u++[(id,.fbox cs')])) /\
   aN P w F' (ap (ax M (u++[(id,.fbox cs')])) γ) cs' (λj u=>w.cell? ⟨b,j,none⟩=some u):=by
 obtain⟨b,arr,e1,e2',e3,e4,e5,e6⟩:=hm.ob id _ (hsub _ _ hid);obtain⟨F1,s1,m1,t1,l1,r1⟩:=yR hm hb (cX.of hsub) h e6;have hM1:=Ex hsub _ _ hid2;obtain⟨b',arr',f1,f2,f3,f4,f5,f6⟩:=m1.ob id _ hM1;rw[e1] at f1;simp at f1;have hst:Step B w F1 γ (ax M u) w (λc=>F1 c\/c=b) γ (upd (ax M u) id (.fbox cs')):=
  ⟨λc h=>.inl h,λ_ _=>rfl,nx hM1 (by simp),λ_ _=>rfl,rfl,rfl,rfl,ue4 _,λc h=>h.elim (s1.bd c) (λh=>by subst h; exact(uaf.1 e2').1),λc h=>h.elim .inl (λh=>.inr (by omega))⟩
 have hcells:aN P w (λc=>F1 c\/c=b) (ap (upd (ax M u) id (.fbox cs')) γ) cs' (λj u=>w.cell? ⟨b,j,none⟩=some u):=
  (hst.repCL r1).turn λj v _ hv=>by rw[tG e2']; exact hv
 have hmm:MemOK P B w (λc=>F1 c\/c=b) γ (upd (ax M u) id (.fbox cs')):=by
  refine m1.change hM1 (by simp) hst.hF hst.hw (λc h=>h.elim) (λc _ hne=>⟨rfl,λh=>h.elim (λh=>h) (λh=>absurd ⟨_,e1,h.symm⟩ hne)⟩) ?_;exact⟨b,e1,Or.inr rfl,hcells⟩
 refine⟨λc=>F1 c\/c=b,b,e1,Or.inr rfl,?_,?_,?_⟩
 ·rw[gc]; exact s1.trans hst
 ·rw[gc]; exact hmm
 ·rw[gc]; exact hcells
def D6:{xs:List AV} -> {cs:List AC} -> {u:List (Nat×Ob)} -> {m M:aT} -> {F:Nat->Prop} -> {vs:List Value}->MemOK P B w F γ M->(∀ b,F b->b<w.heap.size)->(∀ i y,m i=some y->M i=some y)->vO m xs=some (cs,u)->bj P w F (ap M γ) xs vs ->
  ∃ F',Step B w F γ M w F' γ (ax M u)/\MemOK P B w F' γ (ax M u)/\bj P w F' (ap (ax M u) γ) (cs.map .c) vs
 |[],cs,u,m,M,F,[],hm,hb,hs,h,hr=>by
  obtain⟨rfl,rfl⟩:=h;exact⟨F,Step.refl hb,hm,uT⟩
 |x::r,cs,u,m,M,F,v::vs,hm,hb,hs,h,hr=>by
  unfold vO at h;split at h
  ·rename_i heq; cases heq
  ·rename_i id r' heq;cases heq;split at h<;>try trivial
   ·rename_i e cs0 hid;split at h<;>try trivial
    rename_i cs' u1 hrs;split at h<;>try trivial
    rename_i e2 cs2 hid2;split at h<;>try trivial
    rename_i y v2 hk;cases h;obtain⟨F1,b,g1,g2,s1,m1,r1⟩:=QI hm hb hs hid hrs hid2;obtain⟨F2,s2,m2,r2⟩:=D6 m1 s1.bd (Ex hs) hk (zE s1.hF s1.hw s1.hR hr.2);obtain⟨_,b',q1,rfl⟩:=hr.1;have hb':b'=b:=by
     unfold ap at q1;rw[hs _ _ hid] at q1;simp only[g1,ubr,ucj,Addr.mk.injEq,and_true] at q1;exact q1
    subst hb';rw[gc];refine⟨F2,s1.trans s2,m2,⟨rfl,⟨b',0,none⟩,rfl,s2.hF _ g2,s2.repCL (r1.turn λj u _ hu=>?_)⟩,r2⟩;rw[i8,uet];exact hu
   ·rename_i cs0 hid;split at h<;>try trivial
    rename_i y v2 hk;cases h;obtain⟨b,g1,g2,r1⟩:=HH hm (hs _ _ hid) hr.1.2;obtain⟨F2,s2,m2,r2⟩:=D6 hm hb hs hk hr.2;subst g1;refine⟨F2,s2,m2,⟨rfl,⟨b,0,none⟩,rfl,s2.hF _ g2,s2.repCL (r1.turn λj u _ hu=>?_)⟩,r2⟩;rw[i8,uet];exact hu
  ·rename_i c r' _ heq;cases heq;split at h<;>try trivial
   rename_i y u1 hrs;split at h<;>try trivial
   rename_i z v2 hk;cases h;obtain⟨F1,s1,m1,t1,r1⟩:=D5 hm hb (cX.of hs) hrs hr.1.2;obtain⟨F2,s2,m2,r2⟩:=D6 m1 s1.bd (Ex hs) hk (zE s1.hF s1.hw s1.hR hr.2);rw[gc];exact⟨F2,s1.trans s2,m2,⟨hr.1.1,bc.mono s2.hF s2.hw s2.hR _ r1⟩,r2⟩
  ·cases h
 |[],_,_,_,_,_,_::_,_,_,_,_,hr=>hr.elim
 |_::_,_,_,_,_,_,[],_,_,_,_,hr=>hr.elim
def qc4 {cs:List AC} (h:bj P w F R (cs.map .c) vs):vs.length=cs.length/\aN P w F R cs (λj u=>vs[j]? = some u):=by
 induction cs generalizing vs with
 |nil=>cases vs with
  |nil=>exact⟨rfl,uT⟩
  |cons _ _=>exact h.elim
 |cons c r ih=>cases vs with
  |nil=>exact h.elim
  |cons v vs=>
   obtain⟨h1,h2⟩:=ih h.2;exact⟨by simp[h1],⟨v,rfl,h.1.1,h.1.2⟩,by simpa using h2⟩
def bU.take {t:Ty} {l:List t.den} (h:bU w F t l xs) (i:Nat):bU w F t (l.take i) (xs.take (i*t.size)):=by
 intro j x hj;rw[ub0] at hj;split at hj
 ·rename_i hji;refine(h j x hj).mono (λ_ h=>h) (λ_ _=>rfl) λm u hm hu=>?_;have:j*t.size+t.size<=i*t.size:=by rw[<- ues]; exact ubc _ hji
  rw[ub0,if_pos (by omega)];exact hu
 ·cases hj
def bU.drop {t:Ty} {l:List t.den} (h:bU w F t l xs) (i:Nat):bU w F t (l.drop i) (xs.drop (i*t.size)):=by
 intro j x hj;rw[ubz] at hj;refine(h (i+j) x hj).mono (λ_ h=>h) (λ_ _=>rfl) λm u hm hu=>?_;rw[ubz,<- hu,ue6,ued]
def qya {name:String} (h:CH P name ty=some f) (u:Value) (as:Array Value):(callMethod (.iface ty u) name as).run P w=(callFunc f (#[u]++as)).run P w:=by
 unfold CH at h
 split at h<;>try (cases h; done)
 rename_i i fs hi hu
 split at h<;>try (cases h; done)
 rename_i mm hmm
 split at h<;>try (cases h; done)
 rename_i f' hf
 split at h<;>try (cases h; done)
 rename_i hp
 simp at h
 subst h
 have hp':mm.path = #[]:=by simpa using hp
 have hm:(method (P.types.size+Made.depth-1+1) ty u name).run P w = .ok (f',u) w:=by
  simp[method,typeInfo,hi,hmm,hp',hf,follow,receiverAt,ud1 hu,Place.get]
 have hd:P.types.size+Made.depth-1+1=P.types.size+Made.depth:=by unfold Made.depth; omega
 rw[hd] at hm
 simp only[callMethod,ueo,run_program,uck]
 rw[hm]
 simp
def IN {name:String} {k:Int}:{es fs:List (Int×Nat)} -> {p:Int×Nat}->xY P name es=some fs->fs.find? (λx=>x.1==k)=some p->∃ ty,cD es k=some ty/\CH P name ty=some p.2
 |[],fs,p,h,hf=>by
  simp only[xY,ucj] at h;subst h;cases hf
 |(k',ty)::es,fs,p,h,hf=>by
  simp only[xY] at h;split at h<;>try trivial
  rename_i f fs' h1 h2;cases h;cases hk:(k'==k)
  ·have hf':fs'.find? (λx=>x.1==k)=some p:=by simpa[hk] using hf
   obtain⟨ty',e1,e2⟩:=IN h2 hf';refine⟨ty',?_,e2⟩;unfold cD at e1 |-;simpa[hk] using e1
  ·have hp:(k',f)=p:=by simpa[hk] using hf
   subst hp;exact⟨ty,by simp[cD,hk],h1⟩
def O9 {k:Int} {args:List AV}:{es:List (Int×Nat)} -> {rs:List Ty} -> {y:aa rs} -> {n:List Prop}->mG Γ k args es=some ⟨rs,y,n⟩->av n->∃ p,es.find? (λx=>x.1==k)=some p
 |[],_,_,_,h,_=>by simp[mG] at h
 |(i,f)::es,rs,y,n,h,hn=>by
  by_cases hk:k=i
  ·exact⟨(i,f),by simp[hk]⟩
  ·have hne:(i==k)=false:=by rw[ubu]; omega
   simp only[mG] at h;split at h<;>try trivial
   split at h<;>try trivial
   split at h
   ·injection h with h
    cases h;exact absurd (je.1 hn).1 hk
   ·split at h<;>try trivial
    rename_i es' _ rs' y' ms hr;split at h<;>try trivial
    cases h;obtain⟨c1,c2⟩:=je.1 hn;obtain⟨p,hp⟩:=O9 hr (c2 hk);exact⟨p,by simpa[hne] using hp⟩
def qnk (h:ya P t=true):∃ ms,P.underlying t=some (.interface ms):=by
 unfold ya at h;split at h
 ·rename_i ms hms;exact⟨ms,hms⟩
 ·cases h
def qnl {ms:Array (String×TypeId)} (hu:P.underlying t=some (.interface ms)):(Op.equalIn (d+1) t (.iface ty u) .nilIface).run P w = .ok false w:=by
 simp[Op.equalIn,ud1 hu]
def qnm {ms:Array (String×TypeId)} (hu:P.underlying t=some (.interface ms)):(Op.equalIn (d+1) t .nilIface .nilIface).run P w = .ok true w:=by
 simp[Op.equalIn,ud1 hu]
def Cj {es:List (Int×Nat)} {t:Ty} {x:Int×t.den} (h:bc P w F R (.ic es t x) v):(∃ ty u,cD es x.1=some ty/\v = .iface ty u/\bu w F t x.2 u)\/(cD es x.1=none/\v = .nilIface):=by
 rcases h with ⟨ty,u,h1,h2,h3,h4,h5⟩|⟨h1,h2⟩
 ·exact .inl ⟨ty,u,h1,h2.symm,h3,h4,h5⟩
 ·exact .inr ⟨h1,h2.symm⟩
def rD {B':Nat} {size:Nat} (h:w.ownsRow B e size v n xs) (hb:∀ g,v.ownBlock=some g->B'<=g):w.ownsRow B' e size v n xs:=by
 refine⟨h.1,h.2.imp id ?_⟩;rintro⟨g,cap,cur,rfl,_,rest⟩;exact⟨g,cap,cur,rfl,hb g rfl,rest⟩
def qvw {a:Nat} {e1 e2:TypeId} {t1 t2:Ty} {l:List t1.den} {x:List t2.den} (hm:MemOK P B w F γ M) (hab:a≠b) (h1:M a=some (.arr e1 t1 l)) (h2:M b=some (.arr e2 t2 x)) :
  ∀ g,(γ b).ownBlock=some g->(γ a).ownBlock≠some g:=λg hg hc=>hm.apart b a _ _ g (λe=>hab e.symm) h2 h1 (.inl hg) (.inl hc)
def qx1 {r:Row} {args:List AV} {e:Eff} (hr0:zZ P f r) (hm:MemOK P B w F γ M) (hb:∀ b,F b->b<w.heap.size) (hB:B<=w.heap.size) (hsub:∀ i y,m i=some y->M i=some y) (hd:m d=none->M d=none)
  (h:K5 r d args m=some e) (hn:av e.need) (hr:bj P w F (ap M γ) args vs) :
  (∀ as w,(callFunc f as).run P w = .ok (.enter f as) w)/\Calls P f vs.toArray w λen w'=>∃ u γ',en = .returned u/\Step B w F γ M w' F γ' (ax M e.wr)/\MemOK P B w' F γ' (ax M e.wr)/\aE P w' F (ap (ax M e.wr) γ') e.v u:=by
 unfold K5 at h;split at h<;>try trivial
 ·rename_i e0 T bytes a hmd;split at h<;>try trivial
  rename_i t1 l hl;split at h<;>try trivial
  rename_i h1;subst h1;split at h<;>try trivial
  rename_i hlt;cases h
  match vs,hr with
  |[v1],⟨⟨_,hv1⟩,_⟩=>
   obtain⟨A,c,xs,rfl,hc,hA,hxl,hxr,hxc⟩:=Sz hm hsub hl hv1;refine⟨hr0.enters,(hr0.calls w l.length c A xs hc (λe=>by rw[hA e]; rfl) hxl hxc (yQ hxr hxl) hn.1 hn.2).mono λen w2 hp=>?_⟩;obtain⟨v',rfl,hgr,hown⟩:=hp;have hFb:=λb hb'=>hgr.block b (hb b hb') (by simp);have hlow:=rD hown λg hg=>uek hB (hown.lt g hg).1;obtain⟨s1,m1⟩:=uN hm hb hB (hd hmd) hgr hlow (λg hg=>(hown.lt g hg).1) (bU.mono (λ_ h=>h) hFb hxr) hlt;exact⟨v',_,rfl,s1,m1,lP (kT hown)⟩
 ·rename_i e0 T bytes a i b hmd;split at h<;>try trivial
  rename_i e1 t1 l e2 t2 x hma hmb;split at h<;>try trivial
  rename_i h1;subst h1;split at h<;>try trivial
  rename_i h2;subst h2;split at h<;>try trivial
  rename_i he;obtain⟨hlt,rfl,rfl,hab⟩:=he;cases h;obtain⟨⟨h0,h0'⟩,hm1,h63,hby⟩:=hn
  match vs,hr with
  |[v1,v2,v3],⟨⟨_,hv1⟩,⟨_,hv2⟩,⟨_,hv3⟩,_⟩=>
   have hMa:=hsub _ _ hma;have hMb:=hsub _ _ hmb;have g1:=ez hMa (by simp) hv1;have g3:=ez hMb (by simp) hv3;have g2:=hv2.1;subst g1 g3 g2;obtain⟨j,rfl⟩:∃ j:Nat,i=j:=⟨i.toNat,by omega⟩;obtain⟨xs,q1,q2,q3,q4⟩:=gg.of (hm.ob a _ hMa) hlt;obtain⟨ns,r1,r2,r3,r4⟩:=gg.of (hm.ob b _ hMb) hlt;have r1':=r1;rw[hm1] at r1';refine⟨hr0.enters,(hr0.calls w B l.length j (γ a) (γ b) xs ns hB q1 r1' (qvw hm hab hMa hMb) (by omega) q4 r4 h63 hby).mono λen w2 hp=>?_⟩;obtain⟨v',rfl,hgr,hown,hbl⟩:=hp;have hFb:=λb hb'=>hgr.block b (hb b hb') (λhe=>q2 b he.symm hb');have hrows:bU w2 F t2 (kL (j:Int) (cA rfl l) (cA rfl x)) (xs.take (j*t2.size)++ns++xs.drop (j*t2.size)):=by
    have hc:kL (j:Int) (cA (rfl:t2=t2) l) (cA (rfl:t2=t2) x)=l.take j++x++l.drop j:=rfl;rw[hc];have hlt:(xs.take (j*t2.size)).length=(l.take j).length*t2.size:=by
     rw[uc2,uc2,q1.1,udl (show j<=l.length by omega),udl (ubc _ (show j<=l.length by omega))]
    refine bU.mono (λ_ h=>h) hFb (bU.append (bU.append (q3.take j) hlt r3) ?_ (q3.drop j));rw[ub4,ub4,hlt,r1.1,ue6]
   have hlen:(kL (j:Int) (cA (rfl:t2=t2) l) (cA (rfl:t2=t2) x)).length=l.length+1:=by
    show(l.take j++x++l.drop j).length=_;simp;omega
   rw[<- hlen] at hown;obtain⟨s1,m1⟩:=CJ hm hb hB hMa (hd hmd) hgr hown (hbl.elim .inl (λh=>.inr (.inl h))) hrows hlt hlt;exact⟨v',_,rfl,s1,m1,lP (kT hown)⟩
end
section
variable {P:Program} {B:Nat} {o:Oper} {a:Act} {w w':World} {F F':Nat->Prop} {γ γ':Nat->Value} {M m:aT} {R:Nat->Value->Prop} {Γ:Gm}
def Ty.atom:Ty->Bool
 |.unit | .pair _ _=>false
 |_=>true
def oE {t:Ty} (ht:t.atom=true) {cs:List AC} {x:t.den} {r:List AC} (h:dec t cs=some (x,r)):∃ c,cs=c::r/\dec t [c]=some (x,[]):=by
 cases t with
 |unit=>cases ht
 |pair _ _=>cases ht
 |int k=>
  simp only[dec,oB] at h |-;split at h<;>try trivial
  split at h<;>try trivial
  cases h;exact⟨_,rfl,by simp[*]⟩
 |bool=>
  simp only[dec,oA] at h |-;split at h<;>try trivial
  cases h;exact⟨_,rfl,by simp⟩
 |str=>
  simp only[dec,oD] at h |-;split at h<;>try trivial
  cases h;exact⟨_,rfl,by simp⟩
 |sl e=>
  simp only[dec,oC] at h |-;split at h<;>try trivial
  ·split at h<;>try trivial
   rename_i ht;subst ht;cases h;exact⟨_,rfl,by simp⟩
  ·split at h<;>try trivial
   rename_i ht;subst ht;cases h;exact⟨_,rfl,by simp⟩
  ·cases h;exact⟨_,rfl,by simp⟩
 |fm es=>
  simp only[dec,qO] at h |-;split at h<;>try trivial
  split at h<;>try trivial
  cases h;exact⟨_,rfl,by simp[*]⟩
 |ic es t=>
  simp only[dec,qN] at h |-;split at h<;>try trivial
  split at h<;>try trivial
  rename_i ht;subst ht;split at h<;>try trivial
  cases h;exact⟨_,rfl,by simp[*]⟩
 |fc f=>
  simp only[dec,qM] at h |-;split at h<;>try trivial
  ·split at h<;>try trivial
   cases h;exact⟨_,rfl,by simp[*]⟩
  ·split at h<;>try trivial
   cases h;exact⟨_,rfl,by simp[*]⟩
def qgk {t:Ty} (ht:t.atom=true) (x:t.den):∃ c,enc t x=[c]:=by
 cases t with
 |unit=>cases ht
 |pair _ _=>cases ht
 |fc f=>cases f<;>exact⟨_,rfl⟩
 |_=>exact⟨_,rfl⟩
def oF:(t:Ty) -> {cs:List AC} -> {x:t.den} -> {r:List AC}->dec t cs=some (x,r)->∀ (k:Nat) (c:AC),(enc t x)[k]? = some c->∃ (c0:AC) (t1:Ty) (x1:t1.den),cs[k]? = some c0/\t1.atom=true/\dec t1 [c0]=some (x1,[])/\enc t1 x1=[c]
 |.unit,_,_,_,_,k,c,hc=>by simp[enc] at hc
 |.pair t u,cs,x,r,h,k,c,hc=>by
  simp only[dec] at h;split at h<;>try trivial
  rename_i x1 r1 h1;split at h<;>try trivial
  rename_i x2 r2 h2;cases h;have hl:=ku t h1;rcases uel k (enc t x1).length with hk|hk
  ·simp only[enc] at hc;rw[uaj hk] at hc;exact oF t h1 k c hc
  ·simp only[enc] at hc;rw[uae hk] at hc;obtain⟨c0,t1,y,a1,a2⟩:=oF u h2 _ c hc;refine⟨c0,t1,y,?_,a2⟩;rw[fl] at a1 hk;have hd:r1=cs.drop t.size:=dec_drop t h1;rw[hd,ubz] at a1;rw[<- a1];congr 1;omega
 |.int i,cs,x,r,h,k,c,hc=>atomCase (t:=.int i) rfl h hc
 |.bool,cs,x,r,h,k,c,hc=>atomCase (t:=.bool) rfl h hc
 |.str,cs,x,r,h,k,c,hc=>atomCase (t:=.str) rfl h hc
 |.sl e,cs,x,r,h,k,c,hc=>atomCase (t:=.sl e) rfl h hc
 |.fm es,cs,x,r,h,k,c,hc=>atomCase (t:=.fm es) rfl h hc
 |.ic es t,cs,x,r,h,k,c,hc=>atomCase (t:=.ic es t) rfl h hc
 |.fc f,cs,x,r,h,k,c,hc=>atomCase (t:=.fc f) rfl h hc
where
 atomCase {t:Ty} (ht:t.atom=true) {cs:List AC} {x:t.den} {r:List AC} (h:dec t cs=some (x,r)) {k:Nat} {c:AC} (hc:(enc t x)[k]? = some c):∃ (c0:AC) (t1:Ty) (x1:t1.den),cs[k]? = some c0/\t1.atom=true/\dec t1 [c0]=some (x1,[])/\enc t1 x1=[c]:=by
  obtain⟨c0,rfl,h1⟩:=oE ht h;obtain⟨c1,h2⟩:=qgk ht x;rw[h2] at hc;cases k with
  |zero=>
   simp at hc;subst hc;exact⟨c0,t,x,rfl,ht,h1,h2⟩
  |succ k=>simp at hc
 dec_drop:(t:Ty) -> {cs:List AC} -> {x:t.den} -> {r:List AC}->dec t cs=some (x,r)->r=cs.drop t.size
  |.unit,_,_,_,h=>by
   simp only[dec,ucj,uec] at h;simp[Ty.size,h.2]
  |.pair t u,cs,x,r,h=>by
   simp only[dec] at h;split at h<;>try trivial
   rename_i x1 r1 h1;split at h<;>try trivial
   rename_i x2 r2 h2;cases h;rw[dec_drop u h2,dec_drop t h1,List.drop_drop];rfl
  |.int i,cs,x,r,h=>by obtain⟨c0,rfl,_⟩:=oE (t:=.int i) rfl h; rfl
  |.bool,cs,x,r,h=>by obtain⟨c0,rfl,_⟩:=oE (t:=.bool) rfl h; rfl
  |.str,cs,x,r,h=>by obtain⟨c0,rfl,_⟩:=oE (t:=.str) rfl h; rfl
  |.sl e,cs,x,r,h=>by obtain⟨c0,rfl,_⟩:=oE (t:=.sl e) rfl h; rfl
  |.fm es,cs,x,r,h=>by obtain⟨c0,rfl,_⟩:=oE (t:=.fm es) rfl h; rfl
  |.ic es t,cs,x,r,h=>by obtain⟨c0,rfl,_⟩:=oE (t:=.ic es t) rfl h; rfl
  |.fc f,cs,x,r,h=>by obtain⟨c0,rfl,_⟩:=oE (t:=.fc f) rfl h; rfl
def Pm {t1 t':Ty} {l:List t'.den} {x1:t1.den} (ht:t1.atom=true) (h:dec t1 [.sl t' l]=some (x1,[])):enc t1 x1=[.sl t' l]:=by
 cases t1 with
 |sl e=>
  simp only[dec,oC] at h;split at h<;>try trivial
  rename_i he;subst he;cases h;rfl
 |unit=>cases ht
 |pair _ _=>cases ht
 |int k=>simp[dec,oB] at h
 |bool=>simp[dec,oA] at h
 |str=>simp[dec,oD] at h
 |fm es=>simp[dec,qO] at h
 |ic es t=>simp[dec,qN] at h
 |fc f=>simp[dec,qM] at h
def qe9 {t1:Ty} {x1:t1.den} (ht:t1.atom=true) (h:dec t1 [.nil]=some (x1,[])):∃ t',enc t1 x1=[.sl t' []]:=by
 cases t1 with
 |sl e=>
  simp only[dec,oC] at h;cases h;exact⟨e,rfl⟩
 |unit=>cases ht
 |pair _ _=>cases ht
 |int k=>simp[dec,oB] at h
 |bool=>simp[dec,oA] at h
 |str=>simp[dec,oD] at h
 |fm es=>simp[dec,qO] at h
 |ic es t=>simp[dec,qN] at h
 |fc f=>simp[dec,qM] at h
def Fy {t1:Ty} {x1:t1.den} {c0 c:AC} (h:dec t1 [c0]=some (x1,[])) (he:enc t1 x1=[c]) (ho:u.oneCell'=true) (hr:bc P w F R c0 u):bc P w F (λ_ _=>False) c u:=by
 have h1:aA w F t1 x1 (λj v=>j=0/\v=u):=(aA.dec (P:=P) (R:=R) t1 h ⟨⟨u,⟨rfl,rfl⟩,ho,hr⟩,uT⟩).1;have h2:=aA.enc (P:=P) (R:=λ_ _=>False) t1 x1 h1;rw[he] at h2;obtain⟨⟨u',⟨_,rfl⟩,_,h3⟩,_⟩:=h2;exact h3
def Ew (ks:List Nat) (d:Nat) (O:Ob) (M:aT) (i:Nat):ax M (ks.map (λk=>(k,Ob.gone))++[(d,O)]) i=if i=d then some O else if i∈ks then some .gone else M i:=by
 rw[gc];show upd _ d O i=_;unfold upd;by_cases hd:i=d
 ·simp[hd]
 ·simp only[if_neg hd]
  induction ks generalizing M with
  |nil=>simp[ax]
  |cons k ks ih=>
   simp only[ueg,ax];rw[ih];by_cases hk:i∈ks
   ·simp[hk]
   ·simp only[if_neg hk,uee,hk,or_false];unfold upd;rfl
def MemOK.mk_ (h:MemOK P B w F γ M) (ks:List Nat) {O:Ob} (hd:M d=none) (hks:∀ k∈ks,∃ o,M k=some o) (hO:O ≠ .gone) (hbd:∀ b,F b->b<w.heap.size) (hB:B<=w.heap.size)
  (hw:∀ b,F b->w'.heap[b]? = w.heap[b]?) (hos:w'.os=w.os) (htp:w'.tape=w.tape) (hout:w'.output=w.output) (hsz:w.heap.size<=w'.heap.size)
  (hoth:∀ b,b<w.heap.size->(∀ k o,k∈ks->M k=some o->¬ bK w o (γ k) b)->w'.heap[b]? = w.heap[b]?)
  (hok:fI P B w' F (λ_ _=>False) v O)
  (hex:∀ b,bK w' O v b->(∃ k o,k∈ks/\M k=some o/\bK w o (γ k) b)\/w.heap.size<=b) :
  Step B w F γ M w' F (cU γ d v) (ax M (ks.map (λk=>(k,Ob.gone))++[(d,O)]))/\MemOK P B w' F (cU γ d v) (ax M (ks.map (λk=>(k,Ob.gone))++[(d,O)])):=by
 have hdk:d ∉ ks:=λhk=>by obtain⟨o,ho⟩:=hks d hk; rw[hd] at ho; cases ho
 have hR:∀ i u,ap M γ i u->ap (ax M (ks.map (λk=>(k,Ob.gone))++[(d,O)])) (cU γ d v) i u:=λi u hu=>by
  unfold ap at hu |-;rw[Ew];by_cases hi:i=d
  ·subst hi;rw[hd] at hu;exact hu.elim
  ·rw[if_neg hi];by_cases hk:i∈ks
   ·simp[hk]
   ·rw[if_neg hk,eC _ _ hi];exact hu
 refine⟨⟨λ_ h=>h,hw,hR,λb hb=>?_,hos,htp,hout,hsz,λb hb=>ub9 (hbd b hb) hsz,λ_ h=>.inl h⟩,?_⟩
 ·exact hoth b (by omega) λk o hk ho he=>by have:=(gZ (h.ob k o ho) he).2.2; omega
 ·have hat:∀ i o,(i∈ks\/i=d)->ax M (ks.map (λk=>(k,Ob.gone))++[(d,O)]) i=some o->(i=d/\o=O)\/(i≠d/\o = .gone):=λi o hs hi=>by
   rw[Ew] at hi;by_cases he:i=d
   ·rw[if_pos he] at hi;exact .inl ⟨he,(udz hi).symm⟩
   ·rw[if_neg he,if_pos (hs.resolve_right he)] at hi;exact .inr ⟨he,(udz hi).symm⟩
  refine h.re (λi=>i∈ks\/i=d) (λi hi=>?_) (λi hi=>eC _ _ (λe=>hi (.inr e))) hw hR (λb hb hn=>hoth b hb λk o hk ho=>hn k o (.inl hk) ho) ?_ ?_ ?_
  ·rw[Ew,if_neg (λe=>hi (.inr e)),if_neg (λe=>hi (.inl e))]
  ·intro i o hs hi;rcases hat i o hs hi with ⟨rfl,rfl⟩|⟨_,rfl⟩
   ·rw[fy];exact hok.keep (λ_ h=>h) (λ_ _=>rfl) (λ_ _ h=>h.elim) (λb hb=>⟨rfl,(gZ (γ:=λ_=>v) (id:=0) hok hb).2.1⟩)
   ·trivial
  ·intro i o b hs hi hb;rcases hat i o hs hi with ⟨rfl,rfl⟩|⟨_,rfl⟩
   ·rw[fy] at hb;exact(hex b hb).imp (λ⟨k,o,h1,h2,h3⟩=>⟨k,o,.inl h1,h2,h3⟩) (λh=>h)
   ·exact hb.elim
  ·intro i j oi oj b hs hs' hij hi hj hbi hbj;rcases hat i oi hs hi with ⟨rfl,rfl⟩|⟨_,rfl⟩
   ·rcases hat j oj hs' hj with ⟨rfl,rfl⟩|⟨_,rfl⟩
    ·exact hij rfl
    ·exact hbj
   ·exact hbi
def yz {O:Ob} (ks:List Nat) (hO:O ≠ .gone) (h1:v.oneCell'=true):aE P w F (ap (ax M (ks.map (λk=>(k,Ob.gone))++[(d,O)])) (cU γ d v)) (.c (.own d)) v:=by
 refine⟨h1,?_⟩;simp only[bc];unfold ap;rw[Ew,if_pos rfl,fy];cases O<;>first|rfl|exact absurd rfl hO
def UX {e inn:Nat} (h:KG e off inn=true):rY (ed e off inn)=e/\cB (ed e off inn)=off/\jV (ed e off inn)=inn/\cj<=ed e off inn/\ed e off inn<dL/\inn<cj:=ucv h
def qyd {tt t':Ty} {l:List t'.den} {cs:List AC} {x:tt.den} (hdec:dec tt (cs.set off (.sl t' l))=some (x,[])) (hoff:off<cs.length) (hr:aN P w F R cs g) :
  (enc tt x)[off]? = some (.sl t' l)/\∀ (k:Nat) c,(enc tt x)[k]? = some c->k≠off->∃ u,g k u/\bc P w F (λ_ _=>False) c u:=by
 have hl:=ku tt hdec;have hoff':off<(enc tt x).length:=by rw[fl]; simp at hl; omega
 refine⟨?_,λk c hc hk=>?_⟩
 ·obtain⟨c0,t1,x1,a1,a2,a3,a4⟩:=oF tt hdec off _ (uap hoff');rw[uaz hoff] at a1;cases a1;have:=Pm a2 a3;rw[this] at a4;rw[uap hoff'];exact ufm some (List.cons.inj a4).1.symm
 ·obtain⟨c0,t1,x1,a1,a2,a3,a4⟩:=oF tt hdec k c hc;rw[ubg (λe=>hk e.symm)] at a1;obtain⟨u,h1,h2,h3⟩:=hr.at_ a1;exact⟨u,h1,Fy a3 a4 h2 h3⟩
def qns {inn:Nat} {t':Ty} {c:AC} {l:List t'.den} {u:List (Nat×Ob)} (hm:MemOK P B w F γ M) (hsub:∀ i y,m i=some y->M i=some y) (h:IT m inn t' c=some (l,u)) (hi:inn<cj) (hr:bc P w F (ap M γ) c v) :
  ∃ (ks:List Nat) (ys:List Value),u=ks.map (λk=>(k,Ob.gone))/\(∀ k∈ks,∃ o,M k=some o)/\w.ownsRow B inn t'.size v l.length ys/\bU w F t' l ys/\(∀ y∈ys,y.oneCell'=true)/\∀ b,v.ownBlock=some b->¬ F b/\∃ k o,k∈ks/\M k=some o/\bK w o (γ k) b:=by
 unfold IT at h;split at h<;>try trivial
 ·cases h;obtain rfl:v = .slice none 0 0:=hr;exact⟨[],[],rfl,λk hk=>by simp at hk,ucq _ _ _ _,λi x hx=>by simp at hx,λy hy=>by simp at hy,λb hb=>by simp[Value.ownBlock] at hb⟩
 ·rename_i k;split at h<;>try trivial
  rename_i e t0 l0 hk;split at h<;>try trivial
  rename_i ht;subst ht;split at h<;>try trivial
  rename_i he;subst he;cases h;have hM:=hsub _ _ hk;have hv:=ez hM (by simp) hr;subst hv;obtain⟨ys,h1,h2,h3,h4⟩:=gg.of (hm.ob k _ hM) hi;exact⟨[k],ys,rfl,λk' hk'=>by simp at hk'; subst hk'; exact⟨_,hM⟩,h1,h3,h4,λb hb=>⟨h2 b hb,k,_,by simp,hM,.inl hb⟩⟩
def WI {i:TypeInfo} (h:(i.zero.any λz=>z.cells.size==n)=true):∃ z,i.zero=some z/\z.cells.size=n:=by
 cases hz:i.zero with
 |none=>simp[hz] at h
 |some z=>exact⟨z,rfl,by simpa[hz] using h⟩
def qx6 {i:TypeInfo} {z:Value} (ht:P.underlying t=some (.slice el)) (hi:P.info? el=some i) (hz:i.zero=some z) (hs:v.cells.size=i.size) (hbig:i.size<=16777216) (hpos:0<i.size) :
  (Instr.buildSlice t 1 #[(0,v)]).run P w = .ok (.slice (some ⟨w.heap.size,0,none⟩) 1 1) (w.alloc (.cells v.cells el)):=by
 have hzv:(zeroValue el).run P w = .ok z w:=by simp[zeroValue,typeInfo,hi,hz]
 have hci:P.cellsOf el=i.size:=by simp[Program.cellsOf,hi]
 have hb:¬ (16777216<i.size):=by omega
 have hn0:¬ (i.size=0):=by omega
 have hf:∀ arr0:Array Value,arr0.size=i.size->Instr.fill (λj=>some (j*i.size,i.size)) arr0 [(0,v)]=some v.cells:=by
  intro arr0 h0;obtain⟨f1,f2⟩:=Ij v.cells.toList 0 0 arr0;have hzz:v.cells.zipIdx.foldl (λcs (x:Value×Nat)=>cs.setIfInBounds (0*i.size+x.2) x.1) arr0=(v.cells.toList.zipIdx 0).foldl (λcs (x:Value×Nat)=>cs.setIfInBounds (0+x.2) x.1) arr0:=by
   rw[<- Array.foldl_toList,Array.toList_zipIdx,Nat.zero_mul]
  simp only[Instr.fill];rw[if_neg (by simp; omega)];show some _=some _;congr 1;refine Eq.trans hzz (ucg λj=>?_);rw[f2 j];by_cases hj:j<v.cells.size
  ·simp[hj]; omega
  ·have h1:v.cells[j]? = none:=by simp; omega
   have h2:arr0[j]? = none:=by simp; omega
   simp[h1,h2]
 simp only[Instr.buildSlice,ueo,ud1 ht,uck,gw hi,hci];simp[hn0,hb,hzv,hf _ _,newRow,newObj,Sem.run]
def yU {e:Nat} {tt:Ty} {l:List tt.den} (h:RwOK P B w F v e tt l K xs) (hb:innB w e tt.size l.length K v b) :
  ∃ i u,i<l.length/\¬ K i/\xs[i*tt.size+cB e]? = some u/\u.ownBlock=some b:=by
 obtain⟨i,u,h1,h2,h3,h4⟩:=hb;obtain⟨_,_,u',_,_,a2,_⟩:=h.inn i _ (uap h1) h2;obtain rfl:=R6 h.own a2 h3;exact⟨i,u,h1,h2,a2,h4⟩
def qbp {x:AV} {e:Eff} (hm:MemOK P B w F γ M) (hb:∀ b,F b->b<w.heap.size) (hB:B<=w.heap.size) (hsub:∀ i y,m i=some y->M i=some y) (hd:m d=none->M d=none)
  (ht:P.underlying t=some (.slice el)) (h:FT P Γ d el x m=some e) (hx:aE P w F (ap M γ) x v) :
  ∃ u w' γ',(Instr.buildSlice t 1 #[(0,v)]).run P w = .ok u w'/\Step B w F γ M w' F γ' (ax M e.wr)/\MemOK P B w' F γ' (ax M e.wr)/\aE P w' F (ap (ax M e.wr) γ') e.v u:=by
 unfold FT at h;split at h<;>try trivial
 rename_i off inn tt i cs hrw htt hi hcs hmd;split at h<;>try trivial
 rename_i t' c ht' hc;split at h<;>try trivial
 rename_i l u hin;split at h<;>try trivial
 rename_i y hdec;split at h<;>try trivial
 rename_i hcond;obtain⟨hall,hs,hpos,hbig,hz⟩:=hcond;obtain⟨z,hz,hzs⟩:=WI hz;obtain⟨r1,r2,r3,r4,r5,r6⟩:=UX hall;cases h;obtain⟨c1,c2,c3⟩:=o6 hcs hx;have hoff:off<cs.length:=(uak.1 hc).1;have hlen:=ku tt hdec;simp at hlen;obtain⟨p1,p2⟩:=qyd hdec hoff c2;obtain⟨ui,q1,q2,q3⟩:=c2.at_ hc;obtain⟨ks,ys,rfl,k1,k2,k3,k4,k5⟩:=qns hm hsub hin r6 q3;have hrun:=qx6 (w:=w) ht hi hz (v:=v) (by omega) hbig (by omega);have hold:∀ b,b<w.heap.size->(w.alloc (.cells v.cells el)).heap[b]? = w.heap[b]? := λb h=>uc8 _ _ _ h;have hub:∀ b,ui.ownBlock=some b->b<w.heap.size:=λb hb'=>(k2.lt b hb').2;have hrw:RwOK P B (w.alloc (.cells v.cells el)) F (.slice (some ⟨w.heap.size,0,none⟩) 1 1) (ed el off inn) tt [y] (λ_=>False) v.cells.toList:=by
  refine⟨⟨by simp; omega,.inr ⟨w.heap.size,1,_,rfl,hB,by rw[r1]; exact ud3 w _,ue4 _,by decide,by omega,by rw[ua2 (by simp; omega)]⟩⟩,λg hg hF=>?_,λu hu=>c3 u (ubf.1 hu),?_,?_,?_⟩
  ·simp[Value.ownBlock] at hg;have:=hb g hF;omega
  ·intro j x' k c' hj hk hne;cases j with
   |succ j=>simp at hj
   |zero=>
    simp at hj;subst hj;rw[r2] at hne;obtain⟨u',e1,e2⟩:=p2 k c' hk hne;exact⟨u',by simpa using e1,bc.mono (λ_ h=>h) (λb hb'=>hold b (hb b hb')) (λ_ _ h=>h) c' e2⟩
  ·intro j x' hj _;cases j with
   |succ j=>simp at hj
   |zero=>
    simp at hj;subst hj;refine⟨t',l,ui,ys,by rw[r2]; exact p1,by rw[r2]; simpa using q1,by rw[r3]; exact pm k2 (λb hb'=>hold b (hub b hb')),k3.mono (λ_ h=>h) (λb hb'=>hold b (hb b hb')),k4,λb hb'=>⟨λhe=>?_,(k5 b hb').1⟩⟩;simp[Value.ownBlock] at he;have:=hub b hb';omega
  ·intro i j ui uj b hi hj _ _ hij;simp at hi hj;omega
 obtain⟨s1,s2⟩:=hm.mk_ ks (O:=.arr (ed el off inn) tt [y]) (v:=.slice (some ⟨w.heap.size,0,none⟩) 1 1) (hd hmd) k1 (by simp) hb hB (λb hb'=>hold b (hb b hb')) rfl rfl rfl (by simp) (λb hb' _=>hold b hb') (.inr (.inl ⟨r4,r5,_,hrw⟩)) (by
  intro b hb';rcases hb' with hb'|⟨_,hb'⟩|hb'
  ·simp[Value.ownBlock] at hb';exact .inr (by omega)
  ·obtain⟨i,u,h1,_,h2,h3⟩:=yU hrw hb';have hi0:i=0:=by simpa using h1
   subst hi0;rw[r2] at h2;have:ui=u:=by
    have h4:v.cells[off]? = some u:=by simpa using h2
    rw[q1] at h4;exact udz h4
   subst this;exact .inl (k5 b h3).2
  ·cases hb')
 exact⟨_,_,_,hrun,s1,s2,yz ks (by simp) rfl⟩
def qto {n c:Int} {kn kc:IntKind} {e:Eff} (hm:MemOK P B w F γ M) (hb:∀ b,F b->b<w.heap.size) (hB:B<=w.heap.size) (hd:m d=none->M d=none)
  (h:J6 P Γ d t n c m=some e) (hn:av e.need) :
  ∃ u w' γ',(Instr.makeSlice t (.int kn n) (.int kc c)).run P w = .ok u w'/\Step B w F γ M w' F γ' (ax M e.wr)/\MemOK P B w' F γ' (ax M e.wr)/\aE P w' F (ap (ax M e.wr) γ') e.v u:=by
 unfold J6 at h;split at h<;>try trivial
 rename_i el ht;split at h<;>try trivial
 rename_i off inn i tt hrw0 hi htt hmd;split at h<;>try trivial
 rename_i z hz;split at h<;>try trivial
 rename_i cs hcs;split at h<;>try trivial
 rename_i x hdec hnil;split at h<;>try trivial
 rename_i hcond;obtain⟨hall,hs1,hs2,hs3⟩:=hcond;obtain⟨r1,r2,r3,r4,r5,r6⟩:=UX hall;cases h;obtain⟨n1,n2,n3,n4⟩:=hn;obtain⟨z1,z2,z3⟩:=o6 hcs (tf (P:=P) (w:=w) (F:=F) (R:=ap M γ) z);have hr:=run_make w t el i z ht hi hz kn kc n c n1 n2 (by rw[uew]; omega) (by simp only[maxLen] at n3; omega);have hcn:c.toNat<=maxLen:=by omega
 have hcell:∀ k,k<c.toNat*i.size->(madeCells z.cells (c.toNat*i.size))[k]? = z.cells[k%z.cells.size]? := by
  intro k hk;have hpos:0<z.cells.size:=by omega
  have hlt:=ufb k hpos;have hg:z.cells[k%z.cells.size]! = z.cells[k%z.cells.size]:=by simp[hlt]
  simp[madeCells,hk,hg]
 have hold:∀ b,b<w.heap.size->(w.alloc (.cells (madeCells z.cells (c.toNat*i.size)) el)).heap[b]? = w.heap[b]? := λb h=>uc8 _ _ _ h;have hlen:(List.replicate n.toNat x).length=n.toNat:=by simp
 have hdl:=ku tt hdec;have hoff:off<tt.size:=by
  have:=(uak.1 hnil).1;simp at hdl;omega
 have hat:∀ k j,k<n.toNat->j<tt.size->((madeCells z.cells (c.toNat*i.size)).toList.take (n.toNat*tt.size))[k*tt.size+j]? = z.cells[j]? := λk j hk hj=>by
  have hkb:k*tt.size+tt.size<=n.toNat*tt.size:=by rw[<- ues]; exact ubc _ hk
  have hnc:n.toNat*tt.size<=c.toNat*i.size:=by rw[hs1]; exact ubc _ (by omega)
  rw[ub0,if_pos (by omega),ua4,hcell _ (by omega),hs2];rw[show(k*tt.size+j)%tt.size=j from by rw[uer,Nat.mul_add_mod]; exact Nat.mod_eq_of_lt hj]
 have hx:∀ k y,(List.replicate n.toNat x)[k]? = some y->k<n.toNat/\y=x:=λk y hk=>by
  have h1:=(uak.1 hk);exact⟨by simpa using h1.1,by have:=h1.2; simpa using this.symm⟩
 have hui:z.cells[off]? = some (.slice none 0 0):=by
  obtain⟨u,e1,_,e3⟩:=z2.at_ hnil;have e4:u = .slice none 0 0:=e3;rw[e4] at e1;exact e1
 have hxi:∃ t',(enc tt x)[off]? = some (.sl t' []):=by
  have ho':off<(enc tt x).length:=by rw[fl]; exact hoff
  obtain⟨c0,t1,x1,a1,a2,a3,a4⟩:=oF tt hdec off _ (uap ho');rw[hnil] at a1;cases a1;obtain⟨t',h1⟩:=qe9 a2 a3;rw[h1] at a4;refine⟨t',?_⟩;rw[uap ho'];exact ufm some (List.cons.inj a4).1.symm
 have hrw:RwOK P B (w.alloc (.cells (madeCells z.cells (c.toNat*i.size)) el)) F (.slice (some ⟨w.heap.size,0,none⟩) n.toNat c.toNat) (ed el off inn) tt (List.replicate n.toNat x) (λ_=>False) ((madeCells z.cells (c.toNat*i.size)).toList.take (n.toNat*tt.size)):=by
  refine⟨⟨?_,.inr ⟨w.heap.size,c.toNat,_,by rw[hlen],hB,by rw[r1]; exact ud3 w _,by rw[hlen]; omega,hcn,by rw[size_madeCells,hs1],by rw[hlen]⟩⟩,λg hg hF=>?_,λu hu=>?_,?_,?_,?_⟩
  ·rw[uc2,ubs,size_madeCells,hlen];have:n.toNat*tt.size<=c.toNat*i.size:=by rw[hs1]; exact ubc _ (by omega)
   omega
  ·simp[Value.ownBlock] at hg;have:=hb g hF;omega
  ·have hu':=ubo hu;obtain⟨k,hk,rfl⟩:=List.getElem_of_mem hu';have hk':k<c.toNat*i.size:=by simpa[size_madeCells] using hk
   have h1:=hcell k hk';have hlt:k%z.cells.size<z.cells.size:=ufb k (by omega);rw[uam (by simpa using hk),uam hlt] at h1;have h2:=udz h1;rw[Array.getElem_toList,h2];exact z3 _ (Array.getElem_mem hlt)
  ·intro k y j c' hk hc' hne;obtain⟨hkn,rfl⟩:=hx k y hk;have hj:j<tt.size:=by have:=(uak.1 hc').1; rw[fl] at this; exact this
   obtain⟨c0,t1,x1,a1,a2,a3,a4⟩:=oF tt hdec j c' hc';obtain⟨u,e1,e2,e3⟩:=z2.at_ a1;exact⟨u,by rw[hat k j hkn hj]; exact e1,bc.mono (λ_ h=>h) (λb hb'=>hold b (hb b hb')) (λ_ _ h=>h) c' (Fy a3 a4 e2 e3)⟩
  ·intro k y hk _;obtain⟨hkn,rfl⟩:=hx k y hk;obtain⟨t',h1⟩:=hxi;exact⟨t',[],.slice none 0 0,[],by rw[r2]; exact h1,by rw[r2,hat k off hkn hoff]; exact hui,ucq _ _ _ _,λi x hx=>by simp at hx,λy hy=>by simp at hy,λb hb'=>by simp[Value.ownBlock] at hb'⟩
  ·intro k j ui uj b hk hj _ _ _ h1 _ h3;rw[hlen] at hk;rw[r2,hat k off hk hoff,hui] at h1;cases h1;simp[Value.ownBlock] at h3
 obtain⟨s1,s2⟩:=hm.mk_ [] (O:=.arr (ed el off inn) tt (List.replicate n.toNat x)) (v:=.slice (some ⟨w.heap.size,0,none⟩) n.toNat c.toNat) (hd hmd) (λk hk=>by simp at hk) (by simp) hb hB (λb hb'=>hold b (hb b hb')) rfl rfl rfl (by simp) (λb hb' _=>hold b hb') (.inr (.inl ⟨r4,r5,_,hrw⟩)) (by
  intro b hb';rcases hb' with hb'|⟨_,hb'⟩|hb'
  ·simp[Value.ownBlock] at hb';exact .inr (by omega)
  ·obtain⟨k,u,h1,_,h2,h3⟩:=yU hrw hb';rw[hlen] at h1;rw[r2,hat k off h1 hoff,hui] at h2;cases h2;simp[Value.ownBlock] at h3
  ·cases hb')
 exact⟨_,_,_,hr,s1,s2,yz [] (by simp) rfl⟩
def qye {e:Nat} {tt:Ty}:RwOK P B w F (.slice none 0 0) e tt [] (λ_=>False) []:=
 ⟨by simpa using ucq w B (rY e) tt.size,λg hg=>by simp[Value.ownBlock] at hg,λu hu=>by simp at hu,λi x k c hx=>by simp at hx,λi x hx=>by simp at hx,λi j ui uj b hi=>absurd hi (Nat.not_lt_zero i)⟩
def qa6 {sz:Nat} {xs ys:List α} {k:Nat} (h:xs.length=n*sz) (hi:i<n) (hk:k<sz):(xs++ys)[i*sz+k]? = xs[i*sz+k]? := by
 have:i*sz+sz<=n*sz:=by rw[<- ues]; exact ubc _ hi
 rw[uaj (by omega)]
def qa7 {sz:Nat} {xs ys:List α} {k:Nat} (h:xs.length=n*sz) (hi:n<=i):(xs++ys)[i*sz+k]? = ys[(i-n)*sz+k]? := by
 have:n*sz+(i-n)*sz=i*sz:=by rw[<- ue6]; congr 1; omega
 rw[uae (by omega)];congr 1;omega
def UZ {vs v':Value} {e:Nat} {tt:Ty} {l l2:List tt.den} {ys:List Value} (hs:RwOK P B w F vs e tt l (λ_=>False) xs) (hx:RwOK P B w F vx e tt l2 (λ_=>False) ys) (hb:∀ b,F b->b<w.heap.size)
  (hg:w.grownBy w' vs.ownBlock) (hown:w'.ownsRow B (rY e) tt.size v' (l.length+l2.length) (xs++ys)) (hv:v'.ownBlock=vs.ownBlock\/v'.ownBlock=some w.heap.size)
  (hap:∀ b,vs.ownBlock=some b\/innB w e tt.size l.length (λ_=>False) vs b->¬ (vx.ownBlock=some b\/innB w e tt.size l2.length (λ_=>False) vx b)) :
  RwOK P B w' F v' e tt (l++l2) (λ_=>False) (xs++ys)/\∀ b,innB w' e tt.size (l++l2).length (λ_=>False) v' b->innB w e tt.size l.length (λ_=>False) vs b\/innB w e tt.size l2.length (λ_=>False) vx b:=by
 have h1:=hs.own.1;have hF:∀ b,F b->w'.heap[b]? = w.heap[b]? := λb hb'=>hg.block b (hb b hb') (λhe=>hs.nf b he.symm hb');have hgood:∀ b,b<w.heap.size->vs.ownBlock≠some b->w'.heap[b]? = w.heap[b]? /\ v'.ownBlock≠some b:=λb hlt hne=>
  ⟨hg.block b hlt (λhe=>hne he.symm),λhe=>hv.elim (λh=>hne (h ▸ he)) (λh=>by rw[h] at he; simp at he; omega)⟩
 have hsz:∀ (x:tt.den) k c,(enc tt x)[k]? = some c->k<tt.size:=λx k c hc=>by have:=(uak.1 hc).1; rw[fl] at this; exact this
 have hrow:∀ i,i<(l++l2).length->(∃ x,i<l.length/\l[i]? = some x/\(l++l2)[i]? = some x/\∀ k,k<tt.size->(xs++ys)[i*tt.size+k]? = xs[i*tt.size+k]?) \/
   (∃ x,l.length<=i/\l2[i-l.length]? = some x/\(l++l2)[i]? = some x/\∀ k,(xs++ys)[i*tt.size+k]? = ys[(i-l.length)*tt.size+k]?):=λi hi=>by
  rcases uel i l.length with h|h
  ·exact .inl ⟨_,h,uap h,by rw[uaj h,uap h],λk hk=>qa6 h1 h hk⟩
  ·rw[ub4] at hi;exact .inr ⟨_,h,uap (by omega),by rw[uae h,uap (by omega)],λk=>qa7 h1 h⟩
 have hinn:∀ i x u,(l++l2)[i]? = some x->(∃ t' li,(enc tt x)[cB e]? = some (.sl t' li))->(xs++ys)[i*tt.size+cB e]? = some u->(i<l.length/\xs[i*tt.size+cB e]? = some u)\/(l.length<=i/\ys[(i-l.length)*tt.size+cB e]? = some u):=λi x u hi hx' hu=>by
  obtain⟨t',li,hx'⟩:=hx';rcases hrow i (uak.1 hi).1 with ⟨x',a1,_,_,a4⟩|⟨x',a1,_,_,a4⟩
  ·exact .inl ⟨a1,by rw[<- a4 _ (hsz _ _ _ hx')]; exact hu⟩
  ·exact .inr ⟨a1,by rw[<- a4]; exact hu⟩
 have hR:RwOK P B w' F v' e tt (l++l2) (λ_=>False) (xs++ys):=by
  refine⟨by rw[ub4]; exact hown,λg hg' hF'=>?_,λu hu=>?_,?_,?_,?_⟩
  ·rcases hv with h|h
   ·exact hs.nf g (h ▸ hg') hF'
   ·rw[h] at hg';simp at hg';have:=hb g hF';omega
  ·rcases udo.1 hu with hu|hu
   ·exact hs.one u hu
   ·exact hx.one u hu
  ·intro i x k c hi hc hk;rcases hrow i (uak.1 hi).1 with ⟨x',a1,a2,a3,a4⟩|⟨x',a1,a2,a3,a4⟩
   ·rw[hi] at a3;cases a3;obtain⟨u,e1,e2⟩:=hs.cells i x k c a2 hc hk;exact⟨u,by rw[a4 k (hsz _ _ _ hc)]; exact e1,bc.mono (λ_ h=>h) hF (λ_ _ h=>h) c e2⟩
   ·rw[hi] at a3;cases a3;obtain⟨u,e1,e2⟩:=hx.cells _ x k c a2 hc hk;exact⟨u,by rw[a4 k]; exact e1,bc.mono (λ_ h=>h) hF (λ_ _ h=>h) c e2⟩
  ·intro i x hi _;rcases hrow i (uak.1 hi).1 with ⟨x',a1,a2,a3,a4⟩|⟨x',a1,a2,a3,a4⟩
   ·rw[hi] at a3;cases a3;obtain⟨t',li,u,zs,b1,b2,b3,b4,b5,b6⟩:=hs.inn i x a2 (λh=>h);have hgd:=λb hb'=>hgood b (b3.lt b hb').2 (b6 b hb').1;exact⟨t',li,u,zs,b1,by rw[a4 _ (hsz _ _ _ b1)]; exact b2,pm b3 (λb hb'=>(hgd b hb').1),b4.mono (λ_ h=>h) hF,b5,λb hb'=>⟨(hgd b hb').2,(b6 b hb').2⟩⟩
   ·rw[hi] at a3;cases a3;obtain⟨t',li,u,zs,b1,b2,b3,b4,b5,b6⟩:=hx.inn _ x a2 (λh=>h);have hgd:=λb (hb':u.ownBlock=some b)=>hgood b (b3.lt b hb').2 (λhe=>hap b (.inl he) (.inr (hx.innB (uak.1 a2).1 (λh=>h) b2 hb')));exact⟨t',li,u,zs,b1,by rw[a4]; exact b2,pm b3 (λb hb'=>(hgd b hb').1),b4.mono (λ_ h=>h) hF,b5,λb hb'=>⟨(hgd b hb').2,(b6 b hb').2⟩⟩
  ·intro i j ui uj b hi hj _ _ hij hui huj hbi hbj;have hsl:∀ i,i<(l++l2).length->∃ x,(l++l2)[i]? = some x/\∃ t' li,(enc tt x)[cB e]? = some (.sl t' li):=λi hi=>by
    rcases hrow i hi with ⟨x',a1,a2,a3,a4⟩|⟨x',a1,a2,a3,a4⟩
    ·obtain⟨t',li,_,_,b1,_⟩:=hs.inn i x' a2 (λh=>h);exact⟨x',a3,t',li,b1⟩
    ·obtain⟨t',li,_,_,b1,_⟩:=hx.inn _ x' a2 (λh=>h);exact⟨x',a3,t',li,b1⟩
   obtain⟨xi,c1,c2⟩:=hsl i hi;obtain⟨xj,d1,d2⟩:=hsl j hj;rw[ub4] at hi hj;rcases hinn i xi ui c1 c2 hui with ⟨p1,p2⟩|⟨p1,p2⟩
   ·rcases hinn j xj uj d1 d2 huj with ⟨q1,q2⟩|⟨q1,q2⟩
    ·exact hs.disj i j ui uj b p1 q1 (λh=>h) (λh=>h) hij p2 q2 hbi hbj
    ·exact hap b (.inr (hs.innB p1 (λh=>h) p2 hbi)) (.inr (hx.innB (by omega) (λh=>h) q2 hbj))
   ·rcases hinn j xj uj d1 d2 huj with ⟨q1,q2⟩|⟨q1,q2⟩
    ·exact hap b (.inr (hs.innB q1 (λh=>h) q2 hbj)) (.inr (hx.innB (by omega) (λh=>h) p2 hbi))
    ·exact hx.disj _ _ ui uj b (by omega) (by omega) (λh=>h) (λh=>h) (by omega) p2 q2 hbi hbj
 refine⟨hR,λb hb'=>?_⟩;obtain⟨i,u,h1',_,h2,h3⟩:=yU hR hb';obtain⟨t',li,u',_,b1,b2,_⟩:=hR.inn i _ (uap h1') (λh=>h);rw[h2] at b2;cases b2;rw[ub4] at h1';rcases hinn i _ u (uap (by rw[ub4]; exact h1')) ⟨t',li,b1⟩ h2 with ⟨p1,p2⟩|⟨p1,p2⟩
 ·exact .inl (hs.innB p1 (λh=>h) p2 h3)
 ·exact .inr (hx.innB (by omega) (λh=>h) p2 h3)
def RwOK.of {e:Nat} {t:Ty} {l:List t.den} (h:fI P B w F R v (.arr e t l)) (h1:cj<=e) (h2:e<dL):∃ xs,RwOK P B w F v e t l (λ_=>False) xs:=by
 rcases h with ⟨k,_⟩|⟨_,_,h⟩|⟨k,_⟩
 ·exact absurd k (Nat.not_lt.2 h1)
 ·exact h
 ·exact absurd h2 (Nat.not_lt.2 k)
def qaw {k:Nat} {s:AV} {e:Eff} {vs:Value} (hm:MemOK P B w F γ M) (hb:∀ b,F b->b<w.heap.size) (hB:B<=w.heap.size) (hsub:∀ i y,m i=some y->M i=some y) (hd:m d=none->M d=none)
  (h:Fw P d t s k m=some e) (hn:av e.need) (hs:aE P w F (ap M γ) s vs) (hx:aE P w F (ap M γ) (.c (.own k)) vx) :
  ∃ u w' γ',(Builtin.append_ #[t,t] ty #[vs,vx]).run P w = .ok u w'/\Step B w F γ M w' F γ' (ax M e.wr)/\MemOK P B w' F γ' (ax M e.wr)/\aE P w' F (ap (ax M e.wr) γ') e.v u:=by
 unfold Fw at h;split at h<;>try trivial
 rename_i el ht;split at h<;>try trivial
 rename_i i e2 tt l2 hi hk hmd;split at h<;>try trivial
 rename_i hcond;obtain⟨r1,r2,r3,hsz1,hsz2,hz0⟩:=hcond;obtain⟨z,hz,hzs⟩:=WI hz0;have hMk:=hsub _ _ hk;have hvx:=ez hMk (by simp) hx.2;subst hvx;obtain⟨ys,hy⟩:=RwOK.of (hm.ob k _ hMk) r1 r2;obtain⟨A,cap,hvk,hAn,hcell⟩:∃ A cap,γ k = .slice A l2.length cap/\(A=none->l2.length=0)/\∀ ad,A=some ad->∀ (j:Nat) u,ys[j]? = some u->w.cell? (ad.add j)=some u:=by
  rcases hy.own.2 with ⟨h3,h4⟩|⟨g,cap,cur,h3,_⟩
  ·exact⟨none,0,by rw[h3,h4],λ_=>h4,λad he=>by cases he⟩
  ·refine⟨_,_,h3,(λh=>by cases h),λad he=>?_⟩;cases he;exact hy.own.cells (by rw[h3]; rfl)
 split at h<;>try trivial
 ·
  cases h;obtain⟨_,rfl⟩:=hs;obtain⟨v',w',e1,e2',e3,e4⟩:=qr t ty el i z tt.size ht hi hz hsz1 hzs hsz2 (.slice none 0 0) 0 [] (ucq w B el tt.size) A l2.length cap ys hAn hy.own.1 hcell hy.one (by have:=hn.1; omega) (by have:=hn.2; simpa using this) hB;obtain⟨p1,p2⟩:=UZ (qye (e:=e2) (tt:=tt)) hy hb e3 (by rw[r3]; simpa using e2') e4 (λb hb'=>by
   rcases hb' with hb'|⟨_,_,hb',_⟩
   ·simp[Value.ownBlock] at hb'
   ·exact absurd hb' (Nat.not_lt_zero _))
  rw[udi,udi] at p1;rw[udi] at p2;have hold:∀ b,b<w.heap.size->w'.heap[b]? = w.heap[b]? := λb h=>e3.block b h (by simp[Value.ownBlock]);obtain⟨s1,s2⟩:=hm.mk_ [k] (O:=.arr e2 tt l2) (v:=v') (hd hmd) (λk' hk'=>by simp at hk'; subst hk'; exact⟨_,hMk⟩) (by simp) hb hB (λb hb'=>hold b (hb b hb')) e3.os e3.tape e3.output e3.size (λb hb' _=>hold b hb') (.inr (.inl ⟨r1,r2,_,p1⟩)) (by
   intro b hb';rcases hb' with hb'|⟨_,hb'⟩|hb'
   ·rcases e4 with h|h
    ·rw[h] at hb'; simp[Value.ownBlock] at hb'
    ·rw[h] at hb'; simp at hb'; exact .inr (by omega)
   ·rcases p2 b hb' with ⟨_,_,h0,_⟩|h0
    ·exact absurd h0 (Nat.not_lt_zero _)
    ·exact .inl ⟨k,_,by simp,hMk,.inr (.inl ⟨r1,h0⟩)⟩
   ·exact absurd hb' (nq p1.own b))
  rw[<- hvk] at e1;exact⟨v',w',_,e1,s1,s2,yz [k] (by simp) (kT p1.own)⟩
 ·rename_i id;split at h<;>try trivial
  rename_i e3' u0 l hid;split at h<;>try trivial
  rename_i hu;subst hu;split at h<;>try trivial
  rename_i hc;obtain⟨rfl,hne⟩:=hc;cases h;have hMi:=hsub _ _ hid;have hv:=ez hMi (by simp) hs.2;subst hv;obtain⟨xs,hxs⟩:=RwOK.of (hm.ob id _ hMi) r1 r2;have hown:=hxs.own;rw[r3] at hown;obtain⟨v',w',e1,e2',e3,e4⟩:=qr t ty el i z u0.size ht hi hz hsz1 hzs hsz2 (γ id) l.length xs hown A l2.length cap ys hAn hy.own.1 hcell hy.one hn.1 hn.2 hB;obtain⟨p1,p2⟩:=UZ hxs hy hb e3 (by rw[r3]; exact e2') e4 (λb hb1 hb2=>hm.apart id k _ _ b hne hMi hMk (hb1.imp id_ (λh=>.inl ⟨r1,h⟩)) (hb2.imp id_ (λh=>.inl ⟨r1,h⟩)));have hold:∀ b,b<w.heap.size->(γ id).ownBlock≠some b->w'.heap[b]? = w.heap[b]? := λb h hne=>e3.block b h (λhe=>hne he.symm);obtain⟨s1,s2⟩:=hm.mk_ [id,k] (O:=.arr e3' u0 (l++l2)) (v:=v') (hd hmd) (λk' hk'=>by
    simp at hk';rcases hk' with rfl|rfl
    ·exact⟨_,hMi⟩
    ·exact⟨_,hMk⟩) (by simp) hb hB (λb hb'=>hold b (hb b hb') (λhe=>hxs.nf b he hb')) e3.os e3.tape e3.output e3.size (λb hb' hno=>hold b hb' (λhe=>hno id _ (by simp) hMi (.inl he))) (.inr (.inl ⟨r1,r2,_,p1⟩)) (by
   intro b hb';rcases hb' with hb'|⟨_,hb'⟩|hb'
   ·rcases e4 with h|h
    ·exact .inl ⟨id,_,by simp,hMi,.inl (h ▸ hb')⟩
    ·rw[h] at hb'; simp at hb'; exact .inr (by omega)
   ·rcases p2 b hb' with h0|h0
    ·exact .inl ⟨id,_,by simp,hMi,.inr (.inl ⟨r1,h0⟩)⟩
    ·exact .inl ⟨k,_,by simp,hMk,.inr (.inl ⟨r1,h0⟩)⟩
   ·exact absurd hb' (nq p1.own b))
  rw[<- hvk] at e1;exact⟨v',w',_,e1,s1,s2,yz [id,k] (by simp) (kT p1.own)⟩
where
 id_ {α:Prop} (h:α):α:=h
def qql {id sz:Nat} {e:Eff} (hm:MemOK P B w F γ M) (hb:∀ b,F b->b<w.heap.size) (hsub:∀ i y,m i=some y->M i=some y) (hd:m d=none->M d=none)
  (h:Jz P d t id sz i off m=some e) (hn:av e.need) (hx:aE P w F (ap M γ) (.optr id sz i off) v) :
  ∃ u γ',(Instr.loadAt t v).run P w = .ok u w/\Step B w F γ M w F γ' (ax M e.wr)/\MemOK P B w F γ' (ax M e.wr)/\aE P w F (ap (ax M e.wr) γ') e.v u:=by
 unfold Jz at h;split at h<;>try trivial
 rename_i e0 tt l hid hmd;split at h<;>try trivial
 rename_i t' li hli;split at h<;>try trivial
 rename_i hc;obtain⟨r1,r2,rfl,rfl,r3,hw,hi1,hi2⟩:=hc;cases h;have hil:i<l.length:=hn;have hMi:=hsub _ _ hid;have hMd:=hd hmd;have hne:d≠id:=by rintro rfl; rw[hMd] at hMi; cases hMi
 obtain⟨xs,hxs⟩:=RwOK.of (hm.ob id _ hMi) r1 r2;have hgd:l.getD i tt.dflt=l[i]:=by rw[uah,uap hil]; rfl
 rw[hgd] at hli;obtain⟨t'',li',u,ys,a1,a2,a3,a4,a5,a6⟩:=hxs.inn i _ (uap hil) (λh=>h);rw[hli] at a1;cases a1;obtain⟨A,n,c,g1,rfl⟩:=hx;have g2 : .slice (some A) n c=γ id:=by
  unfold ap at g1;rw[hMi] at g1;exact g1
 obtain⟨A',n',c',g3,g4⟩:=rk hxs.own a2;rw[<- g2] at g3;cases g3;obtain⟨ds,hds⟩:=uaq.1 hi2;refine⟨u,cU γ d u,?_,?_⟩
 ·simp[Instr.loadAt,Instr.sureAddr,loadVar,yT hds,hw,Sem.run,g4]
 have hM':∀ j,ax M [(id,Ob.hole e0 tt l i),(d,.arr (jV e0) t' li)] j=if j=d then some (.arr (jV e0) t' li) else if j=id then some (.hole e0 tt l i) else M j:=λj=>by
  simp only[ax,upd]
 have hR:∀ j u',ap M γ j u'->ap (ax M [(id,Ob.hole e0 tt l i),(d,.arr (jV e0) t' li)]) (cU γ d u) j u':=λj u' hj=>by
  unfold ap at hj |-;rw[hM'];by_cases h1:j=d
  ·subst h1;rw[hMd] at hj;exact hj.elim
  ·rw[if_neg h1];by_cases h2:j=id
   ·subst h2;rw[hMi] at hj;rw[if_pos rfl,eC _ _ h1];exact hj
   ·rw[if_neg h2,eC _ _ h1];exact hj
 have hat:∀ j o,(j=id\/j=d)->ax M [(id,Ob.hole e0 tt l i),(d,.arr (jV e0) t' li)] j=some o->(j=d/\o = .arr (jV e0) t' li)\/(j=id/\o = .hole e0 tt l i):=λj o hs hj=>by
  rw[hM'] at hj;by_cases h1:j=d
  ·rw[if_pos h1] at hj;exact .inl ⟨h1,(udz hj).symm⟩
  ·rw[if_neg h1,if_pos (hs.resolve_right h1)] at hj;exact .inr ⟨hs.resolve_right h1,(udz hj).symm⟩
 have hhole:RwOK P B w F (γ id) e0 tt l (· = i) xs:=⟨hxs.own,hxs.nf,hxs.one,hxs.cells,λj x hj _=>hxs.inn j x hj (λh=>h),λj k uj uk b hj hk _ _=>hxs.disj j k uj uk b hj hk (λh=>h) (λh=>h)⟩;have hnm:∀ b,u ≠ .map (some b):=nq a3;have hin:∀ b,bK w (.arr (jV e0) t' li) u b->u.ownBlock=some b:=λb hb'=>(lE r3 hnm).1 hb';refine⟨⟨λ_ h=>h,λ_ _=>rfl,hR,λ_ _=>rfl,rfl,rfl,rfl,ue4 _,hb,λ_ h=>.inl h⟩,hm.re (λj=>j=id\/j=d) (λj hj=>?_) (λj hj=>eC _ _ (λe=>hj (.inr e))) (λ_ _=>rfl) hR (λ_ _ _=>rfl) ?_ ?_ ?_,?_⟩
 ·show ax M _ j=M j;rw[hM',if_neg (λe=>hj (.inr e)),if_neg (λe=>hj (.inl e))]
 ·intro j o hs hj;rcases hat j o hs hj with ⟨rfl,rfl⟩|⟨rfl,rfl⟩
  ·rw[fy];exact .inl ⟨r3,ys,a3,λb hb'=>(a6 b hb').2,a4,a5⟩
  ·rw[eC _ _ hne.symm];exact⟨r1,r2,xs,hhole⟩
 ·intro j o b hs hj hb';refine .inl ⟨id,_,.inl rfl,hMi,?_⟩;rcases hat j o hs hj with ⟨rfl,rfl⟩|⟨rfl,rfl⟩
  ·rw[fy] at hb';exact .inr (.inl ⟨r1,hxs.innB hil (λh=>h) a2 (hin b hb')⟩)
  ·rw[eC _ _ hne.symm] at hb';rcases hb' with hb'|⟨j,u',q1,_,q3⟩
   ·exact .inl hb'
   ·exact .inr (.inl ⟨r1,j,u',q1,λh=>h,q3⟩)
 ·have key:∀ b,u.ownBlock=some b->¬ bK w (.hole e0 tt l i) (γ id) b:=λb hub hb'=>by
   rcases hb' with hb'|hb'
   ·exact(a6 b hub).1 hb'
   ·obtain⟨j,u',q1,q2,q3,q4⟩:=yU hhole hb';exact hxs.disj j i u' u b q1 hil (λh=>h) (λh=>h) q2 q3 a2 q4 hub
  intro j k oj ok b hs hs' hjk hj hk hbj hbk;rcases hat j oj hs hj with ⟨rfl,rfl⟩|⟨rfl,rfl⟩
  ·rcases hat k ok hs' hk with ⟨rfl,rfl⟩|⟨rfl,rfl⟩
   ·exact hjk rfl
   ·rw[fy] at hbj;rw[eC _ _ hne.symm] at hbk;exact key b (hin b hbj) hbk
  ·rcases hat k ok hs' hk with ⟨rfl,rfl⟩|⟨rfl,rfl⟩
   ·rw[fy] at hbk;rw[eC _ _ hne.symm] at hbj;exact key b (hin b hbk) hbj
   ·exact hjk rfl
 ·refine⟨kT a3,?_⟩;simp only[bc];unfold ap;rw[hM',if_pos rfl,fy]
def qv0 {sz:Nat} (h:w.ownsRow B e sz v n xs) (hj:j<n*sz) :
  ∃ b arr cap,v = .slice (some ⟨b,0,none⟩) n cap/\w.heap[b]? = some (.cells arr e (0,0))/\B<=b/\j+1<=arr.size/\∀ u,(w.setRow b (cF arr j [u])).ownsRow B e sz v n (xs.set j u):=by
 obtain⟨hl,⟨_,rfl⟩|⟨b,cap,cur,rfl,hb,hh,hnc,hcm,hcs,ht⟩⟩:=h
 ·simp at hj
 have hle:n*sz<=cap*sz:=ubc _ hnc;have hj1:j + [Value.nilFunc].length<=cur.size:=by simp; omega
 refine⟨b,cur,cap,rfl,hh,hb,by omega,λu=>?_⟩;have hl1:j + [u].length<=cur.size:=by simp; omega
 refine⟨by simp[hl],.inr ⟨b,cap,_,rfl,hb,ue7 w b cur _ e (0,0) hh,hnc,hcm,by rw[yy hl1]; exact hcs,?_⟩⟩;rw[<- ht];refine List.ext_getElem? λk=>?_;rw[ub0,List.getElem?_set];by_cases hk:k<n*sz
 ·rw[if_pos hk,ua4];by_cases hkj:j=k
  ·subst hkj;rw[if_pos rfl,if_pos (by simp; omega)];have:=yx hl1 (j:=0) (by simp);simpa using this
  ·rw[if_neg hkj,rC hl1 (by simp; omega),ub0,if_pos hk,ua4]
 ·rw[if_neg hk];by_cases hkj:j=k
  ·omega
  ·rw[if_neg hkj,ub0,if_neg hk]
def zaw {id sz k:Nat} {e:Eff} {vk:Value} (hm:MemOK P B w F γ M) (hb:∀ b,F b->b<w.heap.size) (hsub:∀ i y,m i=some y->M i=some y)
  (h:Li P t id sz i off k m=some e) (hn:av e.need) (hx:aE P w F (ap M γ) (.optr id sz i off) v) (hk:aE P w F (ap M γ) (.c (.own k)) vk) :
  e.v = .dead/\∃ w',(Instr.storeAt t v vk).run P w = .ok () w'/\Step B w F γ M w' F γ (ax M e.wr)/\MemOK P B w' F γ (ax M e.wr):=by
 unfold Li at h;split at h<;>try trivial
 rename_i e0 tt l j e2 t2 l2 hid hmk;split at h<;>try trivial
 rename_i t' ht';split at h<;>try trivial
 rename_i hc;obtain⟨rfl,rfl,r3,rfl,rfl,hi1,hcell,hne⟩:=hc;split at h<;>try trivial
 rename_i y hdec;cases h;obtain⟨hil,rfl⟩:i<l.length/\i=j:=hn;have hMi:=hsub _ _ hid;have hMk:=hsub _ _ hmk;obtain⟨r1,r2,xs,hxs⟩:=hm.ob id _ hMi;have hvk:=ez hMk (by simp) hk.2;subst hvk;obtain⟨zs,z1,z2,z3,z4⟩:=gg.of (hm.ob k _ hMk) r3;have hone:(γ k).oneCell'=true:=kT z1;have hcl:(γ k).cells = #[γ k]:=by cases hq:γ k<;>first|rfl|(rw[hq] at hone; simp[Value.oneCell'] at hone)
 have hgd:l.getD i tt.dflt=l[i]:=by rw[uah,uap hil]; rfl
 rw[hgd] at hdec;have hlen:=ku tt hdec;have hoff:cB e0<tt.size:=by
  unfold KM at ht';split at ht'<;>try trivial
  rename_i hq;have:=(uak.1 hq).1;rw[fl] at this;exact this
 have hpos:i*tt.size+cB e0<l.length*tt.size:=by
  have:i*tt.size+tt.size<=l.length*tt.size:=by rw[<- ues]; exact ubc _ hil
  omega
 obtain⟨b,arr,cap,hv,hh,hBb,hja,hset⟩:=qv0 hxs.own hpos;obtain⟨A,n,c,g1,rfl⟩:=hx;have g2 : .slice (some A) n c=γ id:=by
  unfold ap at g1;rw[hMi] at g1;exact g1
 rw[hv] at g2;cases g2;have hbo:(γ id).ownBlock=some b:=by rw[hv]; rfl
 obtain⟨ti,hti⟩:=uaq.1 hi1;have hrun:(Instr.storeAt t (.pointer (some ((⟨b,0,none⟩:Addr).add (i*tt.size+cB e0)))) (γ k)).run P w = .ok () (w.setRow b (cF arr (i*tt.size+cB e0) [γ k])):=by
  rw[i8,uet];have:=D8 (P:=P) (v:=γ k) hh hti (by rw[hcl]; exact hcell.symm) (by rw[hcl]; simpa using hja) (λu hu=>by rw[hcl] at hu; simp at hu; rw[hu]; exact hone);rw[hcl] at this;exact this
 have hnF:¬ F b:=hxs.nf b hbo;have hold:∀ c,c≠b->(w.setRow b (cF arr (i*tt.size+cB e0) [γ k])).heap[c]? = w.heap[c]? := λc hc=>uev w b c _ hc;have hM':∀ j,ax M [(k,Ob.gone),(id,.arr e0 tt (l.set i y))] j=if j=id then some (.arr e0 tt (l.set i y)) else if j=k then some .gone else M j:=λj=>by
  simp only[ax,upd]
 have hR:∀ j u',ap M γ j u'->ap (ax M [(k,Ob.gone),(id,.arr e0 tt (l.set i y))]) γ j u':=λj u' hj=>by
  unfold ap at hj |-;rw[hM'];by_cases h1:j=id
  ·subst h1;rw[hMi] at hj;rw[if_pos rfl];exact hj
  ·rw[if_neg h1];by_cases h2:j=k
   ·subst h2;rw[if_pos rfl];trivial
   ·rw[if_neg h2];exact hj
 have hapk:∀ c,(γ k).ownBlock=some c->¬ bK w (.hole e0 tt l i) (γ id) c:=λc hc hc'=>hm.apart k id _ _ c (λe=>hne e.symm) hMk hMi (.inl hc) hc';have hFk:∀ c,F c->(w.setRow b (cF arr (i*tt.size+cB e0) [γ k])).heap[c]? = w.heap[c]? := λc hc=>hold c (λe=>hnF (e ▸ hc));have hst:Step B w F γ M (w.setRow b (cF arr (i*tt.size+cB e0) [γ k])) F γ (ax M [(k,Ob.gone),(id,.arr e0 tt (l.set i y))]):=Le hb hnF hBb hR;have hother:∀ (j q:Nat),j≠i->q<tt.size->(xs.set (i*tt.size+cB e0) (γ k))[j*tt.size+q]? = xs[j*tt.size+q]? := λj q hj hq=>by
  refine ubg λhe=>?_;rcases uel j i with h1|h1
  ·have:j*tt.size+tt.size<=i*tt.size:=by rw[<- ues]; exact ubc _ h1
   omega
  ·have:i*tt.size+tt.size<=j*tt.size:=by rw[<- ues]; exact ubc _ (by omega)
   omega
 have hsame:∀ q,q≠cB e0->(xs.set (i*tt.size+cB e0) (γ k))[i*tt.size+q]? = xs[i*tt.size+q]? := λq hq=>ubg (by omega);have hself:(xs.set (i*tt.size+cB e0) (γ k))[i*tt.size+cB e0]? = some (γ k):=uaz (by rw[hxs.own.1]; exact hpos);have hsz:∀ (x:tt.den) q c,(enc tt x)[q]? = some c->q<tt.size:=λx q c hc=>by have:=(uak.1 hc).1; rw[fl] at this; exact this
 have hoffc:cB e0<(enc tt l[i]).length:=by rw[fl]; exact hoff
 have hyo:(enc tt y)[cB e0]? = some (.sl t' l2):=by
  obtain⟨c0,t1,x1,a1,a2,a3,a4⟩:=oF tt hdec (cB e0) _ (uap (by rw[fl]; exact hoff));rw[uaz hoffc] at a1;cases a1;rw[Pm a2 a3] at a4;rw[uap (by rw[fl]; exact hoff)];exact ufm some (List.cons.inj a4).1.symm
 have hrow:∀ j x,(l.set i y)[j]? = some x->(j=i/\x=y)\/(j≠i/\l[j]? = some x):=λj x hj=>by
  by_cases h1:j=i
  ·subst h1;rw[uaz hil] at hj;exact .inl ⟨rfl,(udz hj).symm⟩
  ·rw[ubg (λe=>h1 e.symm)] at hj;exact .inr ⟨h1,hj⟩
 have hinb:∀ j x,j≠i->l[j]? = some x->∀ u c,xs[j*tt.size+cB e0]? = some u->u.ownBlock=some c->c≠b:=λj x hj hx u c hu hc he=>by
  obtain⟨_,_,u',_,_,b2,_,_,_,b6⟩:=hxs.inn j x hx hj;rw[hu] at b2;cases b2;exact(b6 c hc).1 (he ▸ hbo)
 have hkb:∀ c,(γ k).ownBlock=some c->c≠b:=λc hc he=>hapk c hc (.inl (he ▸ hbo));have hR2:RwOK P B (w.setRow b (cF arr (i*tt.size+cB e0) [γ k])) F (γ id) e0 tt (l.set i y) (λ_=>False) (xs.set (i*tt.size+cB e0) (γ k)):=by
  refine⟨by rw[udk]; exact hset (γ k),hxs.nf,λu hu=>?_,?_,?_,?_⟩
  ·rcases uao hu with h1|h1
   ·exact hxs.one u h1
   ·rw[h1]; exact hone
  ·intro j x q c hj hc hq;rcases hrow j x hj with ⟨rfl,rfl⟩|⟨h1,h2⟩
   ·obtain⟨c0,t1,x1,a1,a2,a3,a4⟩:=oF tt hdec q c hc;rw[ubg (λe=>hq e.symm)] at a1;obtain⟨u,b1,b2⟩:=hxs.cells j _ q c0 (uap hil) a1 hq;exact⟨u,by rw[hsame q hq]; exact b1,bc.mono (λ_ h=>h) hFk (λ_ _ h=>h) c (Fy a3 a4 (hxs.one u (ube b1)) b2)⟩
   ·obtain⟨u,b1,b2⟩:=hxs.cells j x q c h2 hc hq;exact⟨u,by rw[hother j q h1 (hsz _ _ _ hc)]; exact b1,bc.mono (λ_ h=>h) hFk (λ_ _ h=>h) c b2⟩
  ·intro j x hj _;rcases hrow j x hj with ⟨rfl,rfl⟩|⟨h1,h2⟩
   ·exact⟨t',l2,γ k,zs,hyo,hself,pm z1 (λc hc=>hold c (hkb c hc)),z3.mono (λ_ h=>h) hFk,z4,λc hc=>⟨λhe=>hapk c hc (.inl he),z2 c hc⟩⟩
   ·obtain⟨tq,li,u,ys,b1,b2,b3,b4,b5,b6⟩:=hxs.inn j x h2 h1;exact⟨tq,li,u,ys,b1,by rw[hother j _ h1 hoff]; exact b2,pm b3 (λc hc=>hold c (hinb j x h1 h2 u c b2 hc)),b4.mono (λ_ h=>h) hFk,b5,b6⟩
  ·intro p q up uq c hp hq _ _ hpq hup huq hcp hcq;rw[udk] at hp hq;by_cases h1:p=i
   ·subst h1;rw[hself] at hup;cases hup;rw[hother q _ (λe=>hpq e.symm) hoff] at huq;exact hapk c hcp (.inr ⟨q,uq,hq,λe=>hpq e.symm,rk hxs.own huq,hcq⟩)
   ·by_cases h2:q=i
    ·subst h2;rw[hself] at huq;cases huq;rw[hother p _ h1 hoff] at hup;exact hapk c hcq (.inr ⟨p,up,hp,h1,rk hxs.own hup,hcp⟩)
    ·rw[hother p _ h1 hoff] at hup;rw[hother q _ h2 hoff] at huq;exact hxs.disj p q up uq c hp hq h1 h2 hpq hup huq hcp hcq
 have hat:∀ j o,(j=id\/j=k)->ax M [(k,Ob.gone),(id,.arr e0 tt (l.set i y))] j=some o->(j=id/\o = .arr e0 tt (l.set i y))\/(j≠id/\o = .gone):=λj o hs hj=>by
  rw[hM'] at hj;by_cases h1:j=id
  ·rw[if_pos h1] at hj;exact .inl ⟨h1,(udz hj).symm⟩
  ·rw[if_neg h1,if_pos (hs.resolve_left h1)] at hj;exact .inr ⟨h1,(udz hj).symm⟩
 refine⟨rfl,_,hrun,hst,hm.re (λj=>j=id\/j=k) (λj hj=>?_) (λ_ _=>rfl) hst.hw hR (λc _ hno=>hold c (λhe=>hno id _ (.inl rfl) hMi (.inl (he ▸ hbo)))) ?_ ?_ ?_⟩
 ·show ax M _ j=M j;rw[hM',if_neg (λe=>hj (.inl e)),if_neg (λe=>hj (.inr e))]
 ·intro j o hs hj;rcases hat j o hs hj with ⟨rfl,rfl⟩|⟨_,rfl⟩
  ·exact .inr (.inl ⟨r1,r2,_,hR2⟩)
  ·trivial
 ·intro j o c hs hj hc;rcases hat j o hs hj with ⟨rfl,rfl⟩|⟨_,rfl⟩
  ·refine .inl ?_;rcases hc with hc|⟨_,hc⟩|hc
   ·exact⟨j,_,.inl rfl,hMi,.inl hc⟩
   ·obtain⟨p,u,q1,_,q3,q4⟩:=yU hR2 hc;rw[udk] at q1;by_cases h1:p=i
    ·subst h1;rw[hself] at q3;cases q3;exact⟨k,_,.inr rfl,hMk,.inl q4⟩
    ·rw[hother p _ h1 hoff] at q3;exact⟨j,_,.inl rfl,hMi,.inr ⟨p,u,q1,h1,rk hxs.own q3,q4⟩⟩
   ·exact absurd hc (nq hxs.own c)
  ·exact hc.elim
 ·intro p q op oq c hs hs' hpq hp hq hcp hcq;rcases hat p op hs hp with ⟨rfl,rfl⟩|⟨_,rfl⟩
  ·rcases hat q oq hs' hq with ⟨rfl,rfl⟩|⟨_,rfl⟩
   ·exact hpq rfl
   ·exact hcq
  ·exact hcp
def AZ {kt:TypeId} (hk:P.underlying kt=some (.int .i64)) (b:Bool) (d:Nat) (n:Int):(Instr.checkKey b (d+1) kt (.int .i64 n)).run P w = .ok () w:=by
 simp[Instr.checkKey,ud1 hk]
def Ih {n:Int}:(es:List MapEntry)->(l:List (Int×α))->(i:Nat)->es.length=l.length->(∀ (j:Nat) (e:MapEntry) (x:Int×α),es[j]? = some e->l[j]? = some x->e.key = .int .i64 x.1) ->
  (Instr.findNow (.int .i64) (.int .i64 n) es i=some none/\(∀ z,ip l n z=z)/\∀ y,ec l n y=l++[(n,y)]) \/
  (∃ (j:Nat) (e:MapEntry) (x:Int×α),Instr.findNow (.int .i64) (.int .i64 n) es i=some (some (i+j,e.val))/\es[j]? = some e/\l[j]? = some x/\x.1=n/\(∀ z,ip l n z=x.2)/\∀ y,ec l n y=l.set j (n,y))
 |[],[],i,_,_=>.inl ⟨rfl,λ_=>rfl,λ_=>rfl⟩
 |[],_::_,_,h,_=>by simp at h
 |_::_,[],_,h,_=>by simp at h
 |e::es,x::l,i,h,hk=>by
  have h0:e.key = .int .i64 x.1:=hk 0 e x rfl rfl;simp only[Instr.findNow,h0,Instr.sameNow,if_true];by_cases hx:x.1=n
  ·refine .inr ⟨0,e,x,by simp[hx],rfl,rfl,hx,λz=>by simp[ip,hx],λy=>by simp[ec,hx]⟩
  ·have e1:(n==x.1)=false:=by rw[ubu]; exact λh=>hx h.symm
   have e2:(x.1==n)=false:=by rw[ubu]; exact hx
   simp only[e1];rcases Ih (n:=n) es l (i+1) (by simpa using h) (λj e' x' h1 h2=>hk (j+1) e' x' (by simpa using h1) (by simpa using h2)) with ⟨a1,a2,a3⟩|⟨j,e',x',a1,a2,a3,a4,a5,a6⟩
   ·refine .inl ⟨a1,λz=>?_,λy=>?_⟩
    ·have:=a2 z;simp only[ip] at this |-;rw[List.find?_cons,e2];exact this
    ·simp[ec,e2,a3]
   ·refine .inr ⟨j+1,e',x',?_,by simpa using a2,by simpa using a3,a4,λz=>?_,λy=>?_⟩
    ·rw[a1];congr 3;omega
    ·have:=a5 z;simp only[ip] at this |-;rw[List.find?_cons,e2];exact this
    ·simp[ec,e2,a6]
def J9 {vt:Ty} (h:yj P t=some (e,vt)):∃ k,P.underlying t=some (.map k e)/\P.underlying k=some (.int .i64)/\vt.flat=true/\vt.wide=false:=by
 unfold yj at h;split at h<;>try trivial
 rename_i k e' ht;split at h<;>try trivial
 rename_i vt' hk _;split at h<;>try trivial
 rename_i hc;cases h;exact⟨k,ht,hk,hc⟩
def KL {t:Ty} (h:t.wide=false):t.size=1:=by cases t<;>first|rfl|(simp[Ty.wide] at h)
def JN (h:v.oneCell'=true):v.cells = #[v]:=by cases v<;>first|rfl|simp[Value.oneCell'] at h
def qtq {e:Eff} (hm:MemOK P B w F γ M) (hb:∀ b,F b->b<w.heap.size) (hB:B<=w.heap.size) (hd:m d=none->M d=none) (h:J5 P d t m=some e) :
  ∃ u w' γ',(Instr.makeMap t none).run P w = .ok u w'/\Step B w F γ M w' F γ' (ax M e.wr)/\MemOK P B w' F γ' (ax M e.wr)/\aE P w' F (ap (ax M e.wr) γ') e.v u:=by
 unfold J5 at h;split at h<;>try trivial
 rename_i el vt ht hmd;cases h;obtain⟨k,_,_,h3,h4⟩:=J9 ht;have hold:∀ b,b<w.heap.size->(w.alloc (.map #[] 0)).heap[b]? = w.heap[b]? := λb h=>uc8 _ _ _ h;obtain⟨s1,s2⟩:=hm.mk_ [] (O:=.arr dL (.pair (.int .i64) vt) []) (v:=.map (some w.heap.size)) (hd hmd) (λk hk=>by simp at hk) (by simp) hb hB (λb hb'=>hold b (hb b hb')) rfl rfl rfl (by simp) (λb hb' _=>hold b hb')
  (.inr (.inr ⟨ue4 _,_,#[],0,rfl,ud3 w _,λh=>by have:=hb _ h; omega,hB,by simp[Ty.flat,h3],rfl,ufa _,λi x hx=>by simp at hx⟩)) (by
   intro b hb';rcases hb' with hb'|⟨_,i,u,h0,_⟩|hb'
   ·simp[Value.ownBlock] at hb'
   ·exact absurd h0 (Nat.not_lt_zero i)
   ·cases hb';exact .inr (ue4 _))
 exact⟨_,_,_,rfl,s1,s2,yz [] (by simp) rfl⟩
def wE.of {e:Nat} {t:Ty} {l:List t.den} (h:fI P B w F R v (.arr e t l)) (h1:dL<=e):wE B w F t l v:=by
 rcases h with ⟨k,_⟩|⟨_,k,_⟩|⟨_,h⟩
 ·exact absurd (Nat.lt_trans k (by decide)) (Nat.not_lt.2 h1)
 ·exact absurd k (Nat.not_lt.2 h1)
 ·exact h
def qqn {id:Nat} {n:Int} {e:Eff} (hm:MemOK P B w F γ M) (hsub:∀ i y,m i=some y->M i=some y) (h:J1 P t id n m=some e) (hx:aE P w F (ap M γ) (.c (.own id)) v) :
  e.wr=[]/\∃ u,(Instr.lookup t v (.int .i64 n) false).run P w = .ok u w/\aE P w F (ap M γ) e.v u:=by
 unfold J1 at h;split at h<;>try trivial
 rename_i el vt eb vt' l ht hid;split at h<;>try trivial
 rename_i z hz;split at h<;>try trivial
 rename_i z0 hz0;split at h<;>try trivial
 rename_i hc;obtain⟨hge,rfl⟩:=hc;cases h;obtain⟨k,h1,h2,h3,h4⟩:=J9 ht;have hM:=hsub _ _ hid;have hv:=ez hM (by simp) hx.2;subst hv;obtain⟨b,es,ck,q1,q2,q3,q4,q5,q6,q7,q8⟩:=wE.of (hm.ob id _ hM) hge;have hzv:(zeroValue el).run P w = .ok z w:=by
  cases hi:P.info? el with
  |none=>simp[hi] at hz
  |some i=>simp[hi] at hz; simp[zeroValue,typeInfo,hi,hz]
 have hck:(Instr.checkKey es.isEmpty 10000 k (.int .i64 n)).run P w = .ok () w:=AZ h2 es.isEmpty 9999 n;have hob:(getObj b).run P w = .ok (.map es ck) w:=by simp[getObj,Sem.run,q2]
 refine⟨rfl,?_⟩;have hkey:∀ (j:Nat) (e:MapEntry) (x:Int×vt'.den),es.toList[j]? = some e->l[j]? = some x->e.key = .int .i64 x.1:=λj e x he hx'=>by
  obtain⟨e',k1,_,_,k4⟩:=q8 j x hx';rw[ua4] at he;rw[he] at k1;cases k1;have:=k4.1.1;simpa using this
 rcases Ih (n:=n) es.toList l 0 (by simpa using q6) hkey with ⟨a1,a2,_⟩|⟨j,e',x,a1,a2,a3,a4,a5,_⟩
 ·refine⟨z,?_,?_⟩
  ·rw[q1];simp[Instr.lookup,ud1 h1,hob,hck,Instr.findKey,ud1 h2,a1,hzv]
  ·rw[a2];exact fT (qP hz0 (tf (P:=P) (R:=λ_ _=>False) z))
 ·refine⟨e'.val,?_,?_⟩
  ·rw[q1];simp[Instr.lookup,ud1 h1,hob,hck,Instr.findKey,ud1 h2,a1]
  ·rw[a5];obtain⟨e'',k1,_,k3,k4⟩:=q8 j x a3;rw[ua4] at a2;rw[a2] at k1;cases k1;refine fT ⟨by rw[JN k3,KL h4]; rfl,⟨λhw=>(by rw[h4] at hw; cases hw),λ⟨cs,hcs⟩=>(by rw[hcs] at k3; simp[Value.oneCell'] at k3)⟩,?_⟩;refine(aA.flat (w':=w) (F':=F) h3 k4.2).mono (λ_ h=>h) (λ_ _=>rfl) λq u hq hu=>?_;rw[KL h4] at hq;have hq0:q=0:=by omega
   subst hq0;rw[JN k3];simpa[Ty.size] using hu
def zcp {id:Nat} {n:Int} {x:AV} {e:Eff} (hm:MemOK P B w F γ M) (hb:∀ b,F b->b<w.heap.size) (hsub:∀ i y,m i=some y->M i=some y) (h:L7 P t id n x m=some e) (hn:av e.need) (hin:inR .i64 n)
  (hv:aE P w F (ap M γ) (.c (.own id)) v) (hx:aE P w F (ap M γ) x vx) :
  e.v = .dead/\∃ w',(Instr.mapUpdate t v (.int .i64 n) vx).run P w = .ok () w'/\Step B w F γ M w' F γ (ax M e.wr)/\MemOK P B w' F γ (ax M e.wr):=by
 unfold L7 at h;split at h<;>try trivial
 rename_i el vt eb vt' l ht hid;split at h<;>try trivial
 rename_i y hy;split at h<;>try trivial
 rename_i hc;obtain⟨hge,rfl⟩:=hc;cases h;have hlen:l.length<maxLen:=hn;obtain⟨k,h1,h2,h3,h4⟩:=J9 ht;have hM:=hsub _ _ hid;have hv:=ez hM (by simp) hv.2;subst hv;obtain⟨b,es,ck,q1,q2,q3,q4,q5,q6,q7,q8⟩:=wE.of (hm.ob id _ hM) hge;have hck:(Instr.checkKey false 10000 k (.int .i64 n)).run P w = .ok () w:=AZ h2 false 9999 n;have hob:(getObj b).run P w = .ok (.map es ck) w:=by simp[getObj,Sem.run,q2]
 have hblt:b<w.heap.size:=(uaf.1 q2).1;have hso:∀ o:Obj,(setObj b o).run P w = .ok () { w with heap:=w.heap.setIfInBounds b o }:=λo=>by simp[setObj,Sem.run,q2]
 have hkey:∀ (j:Nat) (e:MapEntry) (x:Int×vt'.den),es.toList[j]? = some e->l[j]? = some x->e.key = .int .i64 x.1:=λj e x he hx'=>by
  obtain⟨e',k1,_,_,k4⟩:=q8 j x hx';rw[ua4] at he;rw[he] at k1;cases k1;have:=k4.1.1;simpa using this
 obtain⟨d1,d2,d3⟩:=qP hy hx;have hone:vx.oneCell'=true:=by
  cases hvx:vx with
  |agg cs=>
   have:=d2.2 ⟨cs,hvx⟩;rw[h4] at this;cases this
  |tuple cs=>
   rw[hvx] at hx;cases x with
   |c a=>simp[aE,Value.oneCell'] at hx
   |agg cs=>simp[aE] at hx
   |_=>simp[lB] at hy
  |_=>rfl
 have hrep:aA w (λ_=>False) vt' y (λj u=>j=0/\u=vx):=by
  refine(aA.flat (w':=w) (F':=λ_=>False) h3 d3).mono (λ_ h=>h) (λ_ _=>rfl) λj u hj hu=>?_;rw[KL h4] at hj;have hj0:j=0:=by omega
  subst hj0;rw[JN hone] at hu;exact⟨rfl,by simpa using hu.symm⟩
 have hpair:aA w (λ_=>False) (.pair (.int .i64) vt') (n,y) (λj u=>[Value.int .i64 n,vx][j]? = some u):=by
  refine⟨⟨by simp,hin⟩,hrep.mono (λ_ h=>h) (λ_ _=>rfl) λj u _ hu=>?_⟩;obtain⟨rfl,rfl⟩:=hu;simp[Ty.size]
 have hend:∀ (es':Array MapEntry) ck',es'.size=(ec l n y).length->(ec l n y).length<=maxLen->(∀ (i:Nat) x,(ec l n y)[i]? = some x->∃ e,es'[i]? = some e/\e.key.oneCell'=true/\e.val.oneCell'=true/\aA w (λ_=>False) (.pair (.int .i64) vt') x (λj u=>[e.key,e.val][j]? = some u)) ->
   Step B w F γ M { w with heap:=w.heap.setIfInBounds b (.map es' ck') } F γ (ax M [(id,.arr eb (.pair (.int .i64) vt') (ec l n y))])/\MemOK P B { w with heap:=w.heap.setIfInBounds b (.map es' ck') } F γ (ax M [(id,.arr eb (.pair (.int .i64) vt') (ec l n y))]):=by
  intro es' ck' g1 g2 g3;have hoth:∀ c,c≠b->({ w with heap:=w.heap.setIfInBounds b (.map es' ck') }:World).heap[c]? = w.heap[c]? := λc hc=>by
   show(w.heap.setIfInBounds b _)[c]? = _;rw[Array.getElem?_setIfInBounds];rw[if_neg (λe=>hc e.symm)]
  have hsame:({ w with heap:=w.heap.setIfInBounds b (.map es' ck') }:World).heap[b]? = some (.map es' ck'):=by
   show(w.heap.setIfInBounds b _)[b]? = _;rw[Array.getElem?_setIfInBounds];simp[hblt]
  have hst:Step B w F γ M { w with heap:=w.heap.setIfInBounds b (.map es' ck') } F γ (upd M id (.arr eb (.pair (.int .i64) vt') (ec l n y))):=
   ⟨λ_ h=>h,λc h=>hoth c (λe=>q3 (e ▸ h)),nx hM (by simp),λc h=>hoth c (by omega),rfl,rfl,rfl,by simp,λc h=>by have:=hb c h; simpa using this,λ_ h=>.inl h⟩
  refine⟨hst,hm.change hM (by simp) hst.hF hst.hw (λc hc=>?_) (λc _ hne=>⟨hoth c (λe=>hne (.inr (.inr (e ▸ q1)))),λh=>h⟩) (.inr (.inr ⟨hge,b,es',ck',q1,hsame,q3,q4,q5,g1,g2,λi x hx=>?_⟩))⟩
  ·rcases hc with hc|⟨_,i,u,_,_,⟨A,_,_,hc,_⟩,_⟩|hc
   ·rw[q1] at hc; simp[Value.ownBlock] at hc
   ·rw[q1] at hc; cases hc
   ·exact .inr (.inr hc)
  ·obtain⟨e,k1,k2,k3,k4⟩:=g3 i x hx;exact⟨e,k1,k2,k3,k4.mono (λ_ h=>h) (λ_ h=>h.elim) (λ_ _ _ h=>h)⟩
 refine⟨rfl,?_⟩;rcases Ih (n:=n) es.toList l 0 (by simpa using q6) hkey with ⟨a1,_,a3⟩|⟨j,e',x',a1,a2,a3,a4,_,a6⟩
 ·rw[a3] at hend |-;refine⟨_,?_,hend (es.push ⟨.int .i64 n,vx,ck⟩) (ck+1) (by simp[q6]) (by simp; omega) λi x hx=>?_⟩
  ·rw[q1];simp[Instr.mapUpdate,ud1 h1,hob,hck,Instr.findKey,ud1 h2,a1,hso]
  ·rcases uel i l.length with hi|hi
   ·rw[uaj hi] at hx;obtain⟨e,k1,k2⟩:=q8 i x hx;exact⟨e,by rw[Array.getElem?_push_lt (by omega)]; rw[uam (by omega)] at k1; exact k1,k2⟩
   ·rw[uae hi] at hx;have hi0:i-l.length=0:=by
     have:=(uak.1 hx).1;simp at this;omega
    rw[hi0] at hx;simp at hx;subst hx;refine⟨⟨.int .i64 n,vx,ck⟩,?_,rfl,hone,hpair⟩;have:i=es.size:=by omega
    subst this;simp
 ·have a2':es[j]? = some e':=by rw[<- ua4]; exact a2
  rw[a6] at hend |-;have hkx:=hkey j e' x' a2 a3;have hjl:j<l.length:=(uak.1 a3).1;have hsb:(Instr.keyThatStays e'.key (.int .i64 n)).run P w = .ok (.int .i64 n) w:=by
   rw[hkx,a4];simp[Instr.keyThatStays,Instr.sameBits]
  refine⟨_,?_,hend (es.modify j λe=>{ e with key:=.int .i64 n,val:=vx }) ck (by simp[q6]) (by simp; omega) λi x hx=>?_⟩
  ·rw[q1];simp[Instr.mapUpdate,ud1 h1,hob,hck,Instr.findKey,ud1 h2,a1,a2',hsb,hso]
  ·by_cases hi:i=j
   ·subst hi;rw[uaz hjl] at hx;cases hx;exact⟨{ e' with key:=.int .i64 n,val:=vx },by rw[Array.getElem?_modify]; simp[a2'],rfl,hone,hpair⟩
   ·rw[ubg (λe=>hi e.symm)] at hx;obtain⟨e,k1,k2⟩:=q8 i x hx;exact⟨e,by rw[Array.getElem?_modify]; simp[hi,Ne.symm hi,k1],k2⟩
def qnn {x:AV} {e:Eff} (h:IQ P t x=some e) (hx:aE P w F R x v):e.wr=[]/\∃ u,(Instr.makeInterface t v).run P w = .ok u w/\aE P w F R e.v u:=by
 unfold IQ at h;split at h<;>try trivial
 ·rename_i el id ht;cases h;obtain⟨_,b,h1,rfl⟩:=hx;exact⟨rfl,_,by simp[Instr.makeInterface,ud1 ht],rfl,b,h1,rfl⟩
 ·rename_i d ht _;split at h<;>try trivial
  rename_i tt htt;split at h<;>try trivial
  rename_i y hy;cases h;obtain⟨h1,h2,h3⟩:=qP hy hx;have hni:∀ ms,d ≠ .interface ms:=λms he=>by
   subst he;simp[kg,ht] at htt
  refine⟨rfl,.iface t v,?_,rfl,.inl ⟨t,v,by simp[cD],rfl,h1,h2,h3⟩⟩;simp only[Instr.makeInterface,ueo,ud1 ht,uck];cases d<;>first|(exact absurd rfl (hni _))|rfl
def qay {xt:TypeId} {ok:Bool} {es:List (Int×Nat)} {t:Ty} {x:Int×t.den} {e:Eff} (h:Fx P ty ok es t x=some e) (hn:av e.need) (hx:aE P w F R (.c (.ic es t x)) v) :
  e.wr=[]/\∃ u,(Instr.typeAssert v xt ty ok).run P w = .ok u w/\aE P w F R e.v u:=by
 have key:(∃ d,P.underlying ty=some d/\∀ ms,d ≠ .interface ms)->cD es x.1=some ty->∃ u,(Instr.typeAssert v xt ty ok).run P w = .ok u w/\aE P w F R (if ok then .tup [dE t x.2,.c (.bool true)] else dE t x.2) u:=by
  rintro⟨d,hd,hni⟩ hf;rcases Cj hx.2 with ⟨ty',u,i1,rfl,i3⟩|⟨i1,_⟩
  ·rw[hf] at i1;cases i1;have hr:=fT (P:=P) (R:=R) i3;cases ok with
   |true=>
    refine⟨.tuple #[u,.bool true],?_,?_⟩
    ·simp only[Instr.typeAssert,ueo,ud1 hd,uck];cases d<;>first|(exact absurd rfl (hni _))|simp
    ·exact⟨_,rfl,rfl,⟨u,rfl,hr⟩,⟨_,rfl,rfl,rfl⟩,uT⟩
   |false=>
    refine⟨u,?_,hr⟩;simp only[Instr.typeAssert,ueo,ud1 hd,uck];cases d<;>first|(exact absurd rfl (hni _))|simp
  ·rw[hf] at i1;cases i1
 unfold Fx at h;split at h<;>try trivial
 ·rename_i fs k hu;cases h;exact⟨rfl,key ⟨_,hu,λms he=>by cases he⟩ hn⟩
 ·rename_i q k hu;cases h;exact⟨rfl,key ⟨_,hu,λms he=>by cases he⟩ hn⟩
def qqm (hΓ:kN P Γ) {fv:AV} {args:List AV} {e:Eff} {vf:Value} (hm:MemOK P B w F γ M) (hb:∀ b,F b->b<w.heap.size) (hB:B<=w.heap.size) (hsub:∀ i y,m i=some y->M i=some y)
  (h:J0 Γ fv args m=some e) (hn:av e.need) (hf:aE P w F (ap M γ) fv vf) (ha:bj P w F (ap M γ) args vs) :
  e.wr=[]/\∃ f caps,vf = .func (.func f) #[] caps/\(∀ args w2,(callFunc f args).run P w2 = .ok (.enter f args) w2)/\Calls P f (vs.toArray++caps) w λen w'=>∃ u,en = .returned u/\Step B w F γ M w' F γ M/\MemOK P B w' F γ M/\aE P w' F (ap M γ) e.v u:=by
 unfold J0 at h;split at h<;>try trivial
 split at h<;>try trivial
 rename_i f caps args' u hrs;split at h<;>try trivial
 rename_i ct hct;split at h<;>try trivial
 rename_i hflat;split at h<;>try trivial
 rename_i x n hx;cases h;obtain⟨F1,s1,m1,t1,r1⟩:=iy hm hb (cX.of hsub) hrs ha;obtain⟨_,cv,rfl,e1,e2⟩:=hf;obtain⟨hn1,hn2⟩:=jd.1 hn;have hcaps:bj P w F1 (ap (ax M u) γ) (caps.map .c) cv.toList:=AX (by simpa using e1) (aN.mono s1.hF s1.hw s1.hR caps (λ_ _ h=>h) (by simpa using e2));have hps:=mK hΓ hx hn1 (r1.append hcaps);obtain⟨q1,q2⟩:=hΓ.1 f ct hct;refine⟨rfl,f,cv,rfl,q1,?_⟩;have hc:=q2 w F1 x _ s1.bd hps hn2;have du:(vs++cv.toList).toArray=vs.toArray++cv:=by simp
 rw[du] at hc;refine hc.mono λen w2 hp=>?_;obtain⟨v2,F2,rfl,hbel,hF2,hF2',hrep⟩:=hp;obtain⟨s2,m2⟩:=Step.below (F':=F) hm hB hb hbel (λ_ h=>h) (λb hb'=>⟨.inl hb',ub9 (hb b hb') hbel.size⟩);exact⟨v2,rfl,s2,m2,tN (hrep.flat hflat)⟩
def TJ {e:Eff} {S:Sem Unit} (he:execOp a.eval o=(do S; pure .skip:Sem Next)) (h1:e.v = .dead) (hr:S.run P w = .ok () w') (hs:Step B w F γ M w' F γ (ax M e.wr)) (hm:MemOK P B w' F γ (ax M e.wr)):sV P B o a w F γ M e.v e.wr:=by
 rw[h1];intro K Q hK;unfold Oper.wp;have:(execOp a.eval o).run P w = .ok .skip w':=by
  rw[he];simp[hr]
 rw[this];exact hK undef w' F γ hs hm trivial
def qeg (hΓ:kN P Γ) {op:Op} {vs:List AV} {e:Eff} (ho:o.op=op) (hm:MemOK P B w F γ M) (hb:∀ b,F b->b<w.heap.size) (hB:B<=w.heap.size)
  (hsub:∀ i y,m i=some y->M i=some y) (hd:m d=none->M d=none) (hc:Hh P Γ d op vs m=some e) (hn:av e.need)
  (hr:bj P w F (ap M γ) vs (op.operands.toList.map a.eval)):sV P B o a w F γ M e.v e.wr:=by
 unfold Hh at hc;split at hc<;>try trivial
 ·rename_i t n ps v;split at hc<;>try trivial
  rename_i el ht;split at hc<;>try trivial
  rename_i hcond;obtain⟨rfl,hps⟩:=hcond;obtain⟨x0,rfl⟩:∃ x0,ps = #[(0,x0)]:=by
   have h1:ps.toList.length=1:=by simpa using ufm List.length hps
   match hp:ps.toList,h1 with
   |[(i,x0)],_=>
    rw[hp] at hps;simp at hps;subst hps;exact⟨x0,by rw[<- uc4,hp]⟩
  have hx:aE P w F (ap M γ) v (a.eval x0):=by
   have h1:(Op.buildSlice t 1 #[(0,x0)]).operands.toList.map a.eval=[a.eval x0]:=by simp[Op.operands]
   rw[h1] at hr;exact hr.1
  obtain⟨u,w',γ',h1,h2,h3,h4⟩:=qbp hm hb hB hsub hd ht hc hx;exact ir (cL (S:=Instr.buildSlice t 1 #[(0,a.eval x0)]) (by unfold execOp; rw[ho]; simp) h1) h2 h3 h4
 ·rename_i t n0 c0 kn n kc c;obtain⟨⟨_,e1,_⟩,⟨_,e2,_⟩,_⟩:=hr;obtain⟨u,w',γ',h1,h2,h3,h4⟩:=qto (kn:=kn) (kc:=kc) hm hb hB hd hc hn;exact ir (cL (S:=Instr.makeSlice t (a.eval n0) (a.eval c0)) (by unfold execOp; rw[ho]) (by rw[e1,e2]; exact h1)) h2 h3 h4
 ·rename_i t x0 id sz i off;obtain⟨u,γ',h1,h2,h3,h4⟩:=qql hm hb hsub hd hc hn hr.1;exact ir (cL (S:=Instr.loadAt t (a.eval x0)) (by unfold execOp; rw[ho]) h1) h2 h3 h4
 ·rename_i t x0 v0 id sz i off k;obtain⟨h1,w',h2,h3,h4⟩:=zaw hm hb hsub hc hn hr.1 hr.2.1;exact TJ (S:=Instr.storeAt t (a.eval x0) (a.eval v0)) (by unfold execOp; rw[ho]) h1 h2 h3 h4
 ·rename_i cargs ts s k;split at hc<;>try trivial
  rename_i t t' hts;split at hc<;>try trivial
  rename_i htt;subst htt;have hops:(Op.call ⟨.builtin .append,cargs,ts⟩).operands.toList.map a.eval=(cargs.map a.eval).toList:=by simp[Op.operands,Call.operands]
  rw[hops] at hr;obtain⟨v1,v2,hv,hs,hx⟩:∃ v1 v2,cargs.map a.eval = #[v1,v2]/\aE P w F (ap M γ) s v1/\aE P w F (ap M γ) (.c (.own k)) v2:=by
   cases hl:(cargs.map a.eval).toList with
   |nil=>rw[hl] at hr; exact hr.elim
   |cons v r=>cases r with
    |nil=>rw[hl] at hr; exact hr.2.elim
    |cons v2 r=>cases r with
     |nil=>rw[hl] at hr; exact⟨v,v2,by rw[<- uc4,hl],hr.1,hr.2.1⟩
     |cons _ _=>rw[hl] at hr; exact hr.2.2.elim
  have hts':ts = #[t,t]:=by rw[<- uc4,hts]
  obtain⟨u,w',γ',h2,h3,h4,h5⟩:=qaw (ty:=0) hm hb hB hsub hd hc hn hs hx;refine ir ?_ h3 h4 h5;unfold execOp;rw[ho];simp only[resolve,ueo,ueq,uck,invoke,hv,hts'];have hbb:∀ ty cs,builtin .append #[t,t] ty cs #[v1,v2]=(do pure (.value (<- Builtin.append_ #[t,t] 0 #[v1,v2])):Sem Next):=λty cs=>rfl;rw[hbb];simp[h2]
 ·rename_i t;obtain⟨u,w',γ',h1,h2,h3,h4⟩:=qtq hm hb hB hd hc;exact ir (cL (S:=Instr.makeMap t none) (by unfold execOp; rw[ho]; rfl) h1) h2 h3 h4
 ·rename_i t x0 y0 id n;obtain⟨hx,⟨_,hy,_⟩,_⟩:=hr;obtain⟨h1,u,h2,h3⟩:=qqn hm hsub hc hx;rw[h1];exact dl hm hb (cL (S:=Instr.lookup t (a.eval x0) (a.eval y0) false) (by unfold execOp; rw[ho]) (by rw[hy]; exact h2)) h3
 ·rename_i t x0 y0 z0 id n v;obtain⟨hx,⟨_,hy,hin⟩,hv,_⟩:=hr;obtain⟨h1,w',h2,h3,h4⟩:=zcp hm hb hsub hc hn hin hx hv;exact TJ (S:=Instr.mapUpdate t (a.eval x0) (a.eval y0) (a.eval z0)) (by unfold execOp; rw[ho]) h1 (by rw[hy]; exact h2) h3 h4
 ·rename_i t x0 v;obtain⟨h1,u,h2,h3⟩:=qnn hc hr.1;rw[h1];exact dl hm hb (cL (S:=Instr.makeInterface t (a.eval x0)) (by unfold execOp; rw[ho]) h2) h3
 ·rename_i x0 xt ty ok es t x;obtain⟨h1,u,h2,h3⟩:=qay (xt:=xt) hc hn hr.1;rw[h1];exact dl hm hb (cL (S:=Instr.typeAssert (a.eval x0) xt ty ok) (by unfold execOp; rw[ho]) h2) h3
 ·rename_i f first cap id
  split at hc<;>try trivial
  rename_i hcond;cases hc;obtain⟨h1,h2⟩:=hcond;obtain⟨x0,rfl⟩:∃ x0,first = #[x0]:=Array.size_eq_one_iff.1 h1
  obtain rfl:=Array.eq_empty_of_size_eq_zero h2;have hops:(Op.makeFunc (.func f) #[x0] #[]).operands.toList.map a.eval=[a.eval x0]:=by simp[Op.operands]
  rw[hops] at hr;obtain⟨⟨_,b,e1,e2⟩,_⟩:=hr;refine dl hm hb (cL (S:=Instr.makeFunc (.func f) ((#[x0]:Array Operand).map a.eval) ((#[]:Array Operand).map a.eval)) (u:=.func (.func f) #[a.eval x0] #[]) (by unfold execOp; rw[ho]) (by simp[Instr.makeFunc])) ⟨rfl,b,e1,by rw[e2]⟩
 ·rename_i f0 cargs ts fv args;have hops:(Op.call ⟨.value f0,cargs,ts⟩).operands.toList.map a.eval=a.eval f0::(cargs.map a.eval).toList:=by simp[Op.operands,Call.operands]
  rw[hops] at hr;obtain⟨h1,f,caps,e1,e2,e3⟩:=qqm hΓ hm hb hB hsub hc hn hr.1 hr.2;rw[h1];intro K Q hK;unfold Oper.wp;have hrun:(execOp a.eval o).run P w = .ok (.enter f (cargs.map a.eval++caps)) w:=by
   unfold execOp;rw[ho];simp[resolve,e1,Deferred.ofValue,invoke,e2]
  rw[hrun];show Calls P f (cargs.map a.eval++caps) w _;rw[ubd] at e3;refine e3.mono λen w2 hp=>?_;obtain⟨u,rfl,s1,m1,r1⟩:=hp;exact hK u w2 F γ s1 m1 r1
def UU {name:String} {ld:Bool} (h:JC P name ty=some (f,ld)) (ad:Addr) (as:Array Value) :
  (ld=false->(callMethod (.iface ty (.pointer (some ad))) name as).run P w=(callFunc f (#[.pointer (some ad)]++as)).run P w) /\
  (ld=true->∀ u,w.cell? ad=some u->(callMethod (.iface ty (.pointer (some ad))) name as).run P w=(callFunc f (#[u]++as)).run P w):=by
 unfold JC at h;split at h<;>try trivial
 rename_i i el hi hu;split at h<;>try trivial
 rename_i mm hmm;split at h<;>try trivial
 rename_i f' pr hf;split at h<;>try trivial
 rename_i hp;obtain⟨hp,hp2⟩:=hp;simp at h;obtain⟨rfl,h1⟩:=h;have hp':mm.path = #[]:=by simpa using hp
 have hd:P.types.size+Made.depth-1+1=P.types.size+Made.depth:=by unfold Made.depth; omega
 have key:∀ u,(method (P.types.size+Made.depth-1+1) ty (.pointer (some ad)) name).run P w = .ok (f',u) w->(callMethod (.iface ty (.pointer (some ad))) name as).run P w=(callFunc f' (#[u]++as)).run P w:=λu hm=>by
  rw[hd] at hm;simp only[callMethod,ueo,run_program,uck];rw[hm];simp
 refine⟨λhpr=>key _ ?_,λhpr u hc=>key u ?_⟩
 ·have hpr':pr=true:=by rw[hpr] at h1; simpa using h1
  subst hpr';simp[method,typeInfo,hi,hmm,hp',hf,follow,receiverAt,ud1 hu,Place.get]
 ·have hpr':pr=false:=by rw[hpr] at h1; simpa using h1
  subst hpr';obtain⟨_,h2,h3⟩:=hp2.resolve_left (by simp);obtain⟨ds,hds⟩:=uaq.1 h2;have hl:(loadVar el ad).run P w = .ok u w:=by simp[loadVar,yT hds,h3,Sem.run,hc]
  have hw:∀ s:String,(Builtin.ssaWrapNilChk_ #[ty] ty #[.pointer (some ad),strVal "", strVal s]).run P w = .ok (.pointer (some ad)) w:=λs=>rfl;simp[method,typeInfo,hi,hmm,hp',hf,follow,receiverAt,ud1 hu,Place.get,hw,asAddr,hl]
end
section
variable {P:Program} {B:Nat} {o:Oper} {a:Act} {w w':World} {F F':Nat->Prop} {γ γ':Nat->Value} {M m:aT} {R:Nat->Value->Prop} {Γ:Gm}
def WL {idx:List Nat}:{xs:List AV} -> {vs:List Value}->bj P w F R xs vs->∀ (q i:Nat) (x:AV) (v:Nat×Value),(idx.zip xs)[q]? = some (i,x)->(idx.zip vs)[q]? = some v->v.1=i/\aE P w F R x v.2:=by
 induction idx with
 |nil=>intro xs vs _ q i x v h; simp at h
 |cons k idx ih=>
  intro xs vs hr q i x v h1 h2;cases xs with
  |nil=>simp at h1
  |cons y xs=>cases vs with
   |nil=>exact hr.elim
   |cons u vs=>cases q with
    |zero=>
     simp at h1 h2;obtain⟨rfl,rfl⟩:=h1;subst h2;exact⟨rfl,hr.1⟩
    |succ q=>exact ih hr.2 q i x v (by simpa using h1) (by simpa using h2)
def i7 (P:Program) (w:World) (F:Nat->Prop) (R:Nat->Value->Prop) (tm:Tmp->Value):AV->Value->Prop
 |.maybe g want v,u=>tm g = .bool want->aE P w F R v u
 |v,u=>aE P w F R v u
def nV (P:Program) (w:World) (F:Nat->Prop) (R:Nat->Value->Prop) (tm:Tmp->Value):List AV->List Value->Prop
 |[],[]=>True
 |a::r,v::s=>i7 P w F R tm a v/\nV P w F R tm r s
 |_,_=>False
def i7.plain {tm:Tmp->Value} {x:AV} (h:i7 P w F R tm x v) (hn:fX x=true):aE P w F R x v:=by
 cases x<;>first|exact h|simp[fX] at hn
def nV.plain {tm:Tmp->Value}:{xs:List AV} -> {vs:List Value}->nV P w F R tm xs vs->xs.all fX=true->bj P w F R xs vs
 |[],[],_,_=>trivial
 |x::r,v::s,h,hn=>by
  simp only[uef,uc9] at hn;exact⟨h.1.plain hn.1,nV.plain h.2 hn.2⟩
 |[],_::_,h,_=>h.elim
 |_::_,[],h,_=>h.elim
def UL {c x:AC} {u:List (Nat×Ob)} (hd:m d=none) (h:me m c=some (x,u)) (M:aT):ax M u d=M d:=by
 unfold me at h;split at h
 ·rename_i id;split at h<;>try trivial
  ·rename_i hid;split at h<;>try trivial
   obtain⟨_,rfl⟩:=h;exact fa _ _ (λe=>by subst e; rw[hd] at hid; cases hid)
  ·simp at h;obtain⟨_,rfl⟩:=h;rfl
 ·simp at h;obtain⟨_,rfl⟩:=h;rfl
def UM (hd:m d=none):{cs xs:List AC} -> {u:List (Nat×Ob)}->jr m cs=some (xs,u)->∀ M:aT,ax M u d=M d
 |[],xs,u,h,M=>by
  obtain⟨_,rfl⟩:=h;rfl
 |c::r,xs,u,h,M=>by
  simp only[jr] at h;split at h
  ·rename_i h1 h2;obtain⟨_,rfl⟩:=h;rw[gc,UM hd h2,UL hd h1]
  ·cases h
def qx4 {x y:AV} {u:List (Nat×Ob)} (hd:m d=none) (h:pD m x=some (y,u)) (M:aT):ax M u d=M d:=by
 unfold pD at h;split at h<;>try trivial
 ·split at h<;>try trivial
  rename_i h1;obtain⟨_,rfl⟩:=h;exact UL hd h1 M
 ·split at h<;>try trivial
  rename_i h1;obtain⟨_,rfl⟩:=h;exact UM hd h1 M
def UK (hd:m d=none):{cs xs:List AV} -> {u:List (Nat×Ob)}->dK m cs=some (xs,u)->∀ M:aT,ax M u d=M d
 |[],xs,u,h,M=>by
  obtain⟨_,rfl⟩:=h;rfl
 |c::r,xs,u,h,M=>by
  simp only[dK] at h;split at h
  ·rename_i h1 h2;obtain⟨_,rfl⟩:=h;rw[gc,UK hd h2,qx4 hd h1]
  ·cases h
def qqk {c:AC} {tt:Ty} {l:List tt.den} (h:Jy c=some ⟨tt,l⟩) (hr:bc P w F R c v):∃ A cap,v = .slice A l.length cap/\aA w F (.sl tt) l (λ_ u=>u=v):=by
 unfold Jy at h;split at h<;>try trivial
 ·cases h;obtain⟨A,c,h1,_⟩:=id hr;exact⟨A,c,h1.symm,hr⟩
 ·cases h;obtain⟨A,h1,hr⟩:=hr;exact⟨A,_,h1,hr⟩
def JU {x:Option Operand} {l:Option Int} {r r':List AV} {us:List Value} (h:uS x.isSome r=some (l,r')) (hr:bj P w F R r (x.toList.map a.eval++us)) :
  (∃ k:IntKind,x.map a.eval=l.map (.int k))/\bj P w F R r' us:=by
 rcases qve h hr with ⟨h1,rfl,rfl⟩|⟨h1,k,n,v,vs',rfl,h2,h3,h4⟩
 ·cases x with
  |none=>exact⟨⟨.i64,rfl⟩,by simpa using hr⟩
  |some x=>simp at h1
 ·cases x with
  |none=>simp at h1
  |some x=>
   obtain⟨rfl,rfl⟩:=h2;exact⟨⟨k,by simp[h3]⟩,h4⟩
def qey {γ:Nat->Value} {m M:aT} {lo hi mx:Bool} {x:AV} {r:List AV} {e:Eff} (hm:MemOK P B w F γ M) (hb:∀ b,F b->b<w.heap.size) (hB:B<=w.heap.size)
  (hsub:∀ i y,m i=some y->M i=some y) (hd:m d=none->M d=none) (h:Hn P d t lo hi mx x r m=some e) (hn:av e.need) (hx:aE P w F (ap M γ) x vx) (hr:bj P w F (ap M γ) r vs) :
  lo=false/\hi=true/\mx=false/\∃ vh u γ',vs=[vh]/\(Instr.sliceAt t vx none (some vh) none).run P w = .ok u w/\Step B w F γ M w F γ' (ax M e.wr)/\MemOK P B w F γ' (ax M e.wr)/\aE P w F (ap (ax M e.wr) γ') e.v u:=by
 unfold Hn at h;split at h<;>try trivial
 rename_i id k q;split at h<;>try trivial
 rename_i el ety tt l ht hid hmd;split at h<;>try trivial
 rename_i hc;cases h;obtain⟨n1,n2⟩:0<=q/\q<=l.length:=hn;obtain⟨hlt,hc⟩:=hc;obtain⟨ti,hti⟩:=uaq.1 hc.1;cases vs with
 |nil=>exact hr.elim
 |cons vh vs=>
  cases vs with
  |cons _ _=>exact hr.2.elim
  |nil=>
   obtain⟨⟨_,rfl,_⟩,_⟩:=hr;have hM:=hsub _ _ hid;have hMd:=hd hmd;have hv:=ez hM (by simp) hx.2;subst hv;obtain⟨xs,q1,q2,q3,q4⟩:=gg.of (hm.ob id _ hM) hlt;have hlen:(l.take q.toNat).length=q.toNat:=by simp; omega
   have hrowl:=q1.1;have hle:q.toNat*tt.size<=l.length*tt.size:=ubc _ (by omega);have hrows:bU w F tt (l.take q.toNat) (xs.take (q.toNat*tt.size)):=λi y hi=>by
    have hi':l[i]? = some y:=by
     rw[ub0] at hi;split at hi
     ·exact hi
     ·cases hi
    have hiq:i<q.toNat:=by
     rw[ub0] at hi;split at hi
     ·assumption
     ·cases hi
    refine(q3 i y hi').mono (λ_ h=>h) (λ_ _=>rfl) (λj u hj hu=>?_);have:i*tt.size+j<q.toNat*tt.size:=by
     have:(i+1)*tt.size<=q.toNat*tt.size:=ubc _ hiq;rw[ue6] at this;omega
    rw[ub0,if_pos this];exact hu
   refine⟨rfl,rfl,rfl,.int k q,?_⟩;rcases q1.2 with ⟨hnil,hz⟩|⟨g,cap,cur,hsl,hg,hcur,hcap,hmax,hsz,htake⟩
   ·
    have hq0:q.toNat=0:=by omega
    have hrun:(Instr.sliceAt t (γ id) none (some (.int k q)) none).run P w = .ok (.slice none 0 0) w:=by
     rw[hnil];have hb':(Instr.sliceBounds true 0 0 none (some (.int k q)) none).run P w = .ok (0,0,0) w:=by
      simp[Instr.sliceBounds,kY (y:=0) n1 (by omega),hq0]
     simp[Instr.sliceAt,Instr.slice,ud1 ht,hb',gw hti]
    obtain⟨s1,s2⟩:=CJ hm hb hB hM hMd (ub6 _ _) (by rw[hlen,hq0]; exact ucq w B ety tt.size) (.inr (.inr rfl))
     (λi y hi=>by
      rw[hq0] at hi;simp at hi) hlt hlt
    exact⟨_,_,rfl,hrun,s1,s2,lP rfl⟩
   ·have hrun:(Instr.sliceAt t (γ id) none (some (.int k q)) none).run P w = .ok (.slice (some ⟨g,0,none⟩) q.toNat cap) w:=by
     rw[hsl];have hb':(Instr.sliceBounds true l.length cap none (some (.int k q)) none).run P w = .ok (0,q.toNat,cap) w:=by
      simp[Instr.sliceBounds,kY (y:=cap) n1 (by omega)]
     simp only[Instr.sliceAt,Instr.slice,ud1 ht,hb',gw hti,ueo,Result.andThen];simp[Addr.add]
    obtain⟨s1,s2⟩:=CJ hm hb hB hM hMd (ub6 _ _)
     (by
      rw[hlen];refine⟨by rw[uc2,hrowl]; omega,.inr ⟨g,cap,cur,rfl,hg,hcur,by omega,hmax,hsz,?_⟩⟩;rw[<- htake,ud4];congr 1;omega)
     (.inl (by rw[hsl]; rfl)) hrows hlt hlt
    exact⟨_,_,rfl,hrun,s1,s2,lP rfl⟩
def S1:{vs:List AV} -> {caps:List AC} -> {u:List (Nat×Ob)} -> {us:List Value}->lL vs=some (caps,u)->bj P w F R vs us->u=[]/\bj P w F R (caps.map .c) us
 |[],_,_,us,h,hr=>by
  obtain⟨rfl,rfl⟩:=h;exact⟨rfl,hr⟩
 |.c a::r,caps,u,[],h,hr=>hr.elim
 |.c a::r,caps,u,v::us,h,hr=>by
  simp only[lL] at h;split at h<;>try trivial
  rename_i y _ hy;cases h;exact⟨rfl,hr.1,(S1 hy hr.2).2⟩
 |.dead::_,_,_,_,h,_=>by simp[lL] at h
 |.agg _::_,_,_,_,h,_=>by simp[lL] at h
 |.tup _::_,_,_,_,h,_=>by simp[lL] at h
 |.optr _ _ _ _::_,_,_,_,h,_=>by simp[lL] at h
 |.aptr _ _ _::_,_,_,_,h,_=>by simp[lL] at h
 |.maybe _ _ _::_,_,_,_,h,_=>by simp[lL] at h
def Vq {tt:Ty}:(n:Nat) -> {cs:List AC} -> {l:List tt.den} -> {g:Nat->Value->Prop}->se.splitN tt n cs=some l->aN P w F R cs g ->
  l.length=n/\∀ (i:Nat) (x:tt.den),l[i]? = some x->aA w F tt x (λj u=>g (i*tt.size+j) u)
 |0,cs,l,g,h,_=>by
  cases cs with
  |nil=>
   simp only[se.splitN,ucj] at h;subst h;exact⟨rfl,λi x hx=>by simp at hx⟩
  |cons _ _=>simp[se.splitN] at h
 |n+1,cs,l,g,h,hr=>by
  simp only[se.splitN] at h;split at h<;>try trivial
  rename_i x hx;split at h<;>try trivial
  rename_i l' hl;cases h;obtain⟨h1,h2⟩:=Vq n hl (hr.drop_ tt.size);refine⟨by simp[h1],λi y hy=>?_⟩;cases i with
  |zero=>
   simp at hy;subst hy;have:=(aA.dec tt hx (hr.take_ tt.size)).1;simpa using this
  |succ i=>
   have:=h2 i y (by simpa using hy);have e:∀ j,tt.size+(i*tt.size+j)=(i+1)*tt.size+j:=λj=>by rw[ue6]; omega
   simpa only[e] using this
def qz9 {x:AV} {e:Eff} (hm:MemOK P B w F γ M) (hb:∀ b,F b->b<w.heap.size) (hsub:∀ i y,m i=some y->M i=some y) (h:se P t x m=some e) (hr:aE P w F (ap M γ) x v) :
  ∃ u F',(Instr.sliceAt t v none none none).run P w = .ok u w/\Step B w F γ M w F' γ (ax M e.wr)/\MemOK P B w F' γ (ax M e.wr)/\aE P w F' (ap (ax M e.wr) γ) e.v u:=by
 unfold se at h;split at h<;>try trivial
 rename_i n el id off ht;split at h<;>try trivial
 rename_i i tt bt cs hi htt hid;split at h<;>try trivial
 rename_i cs' hrs;split at h<;>try trivial
 rename_i bf hseg;split at h<;>try trivial
 rename_i l hl;split at h<;>try trivial
 rename_i hc;cases h;obtain⟨F1,b,g1,g2,s1,m1,r1⟩:=QI hm hb hsub hid hrs hid;obtain⟨b',arr,q1,hv,q3,_,_,_,_⟩:=lw hm (hsub _ _ hid) hr.2;have hbb:b'=b:=by rw[g1] at q1; cases q1; rfl
 subst hbb;subst hv;obtain⟨d1,d2⟩:=Vq n hl (uc hseg r1).2;have hsz:=gw (w:=w) hi;refine⟨.slice (some ⟨b',off,none⟩) n n,F1,?_,s1,m1,rfl,?_⟩
 ·simp only[Instr.sliceAt,ueo,ud1 ht,uck,Instr.sureAddr,ueq,Instr.sliceBounds,hsz,Nat.zero_mul];have:(⟨b',off,none⟩:Addr).add 0=⟨b',off,none⟩:=by simp[Addr.add]
  simp[this]
 ·refine⟨some ⟨b',off,none⟩,n,by rw[d1],by rw[d1]; exact ue4 _,by unfold maxLen; omega,λk x hx=>⟨⟨b',off,none⟩,rfl,g2,?_⟩⟩;have:=d2 k x hx;refine this.mono (λ_ h=>h) (λ_ _=>rfl) λj u _ hu=>?_;rw[i8];exact hu
def Ig {n:Int}:(arr:List MapEntry)->(es:List (Int×Nat))->(i:Nat)->arr.map (λe=>(e.key,e.val))=es.map (λx=>(Value.int .i64 x.1,Value.func (.func x.2) #[] #[])) ->
  ∃ j,Instr.findNow (.int .i64) (.int .i64 n) arr i=some ((es.find? (λx=>x.1==n)).map λx=>(j,Value.func (.func x.2) #[] #[]))
 |[],[],_,_=>⟨0,rfl⟩
 |[],_::_,_,h=>by simp at h
 |_::_,[],_,h=>by simp at h
 |e::arr,(k,f)::es,i,h=>by
  simp at h;obtain⟨⟨h1,h2⟩,h3⟩:=h;simp only[Instr.findNow,h1,Instr.sameNow];by_cases hk:n=k
  ·subst hk;exact⟨i,by simp[h2]⟩
  ·obtain⟨j,hj⟩:=Ig (n:=n) arr es (i+1) h3;refine⟨j,?_⟩;have e1:(n==k)=false:=by rw[ubu]; exact hk
   have e2:(k==n)=false:=by rw[ubu]; omega
   simp[e1,e2,hj]
def qqo {kt et:TypeId} {arr:Array MapEntry} {ck r:Nat} {es:List (Int×Nat)} (ht:P.underlying t=some (.map kt et)) (hk:P.underlying kt=some (.int .i64)) (hz:(zeroValue et).run P w = .ok .nilFunc w)
  (hr:w.heap[r]? = some (.map arr ck)) (he:arr.toList.map (λe=>(e.key,e.val))=es.map (λx=>(Value.int .i64 x.1,Value.func (.func x.2) #[] #[]))) (n:Int) :
  (Instr.lookup t (.map (some r)) (.int .i64 n) true).run P w = .ok (.tuple #[ie (es.find? (λx=>x.1==n)),.bool (es.find? (λx=>x.1==n)).isSome]) w:=by
 obtain⟨j,hj⟩:=Ig arr.toList es 0 he;have hck:(Instr.checkKey arr.isEmpty 10000 kt (.int .i64 n)).run P w = .ok () w:=AZ hk arr.isEmpty 9999 n;have hob:(getObj r).run P w = .ok (.map arr ck) w:=by simp[getObj,Sem.run,hr]
 cases hf:es.find? (λx=>x.1==n) with
 |none=>
  rw[hf] at hj;simp[Instr.lookup,ud1 ht,hob,hck,Instr.findKey,ud1 hk,hj,hz,ie]
 |some x=>
  rw[hf] at hj;simp[Instr.lookup,ud1 ht,hob,hck,Instr.findKey,ud1 hk,hj,ie]
def qef (hΓ:kN P Γ) {op:Op} {vs:List AV} {e:Eff} (ho:o.op=op) (hm:MemOK P B w F γ M) (hb:∀ b,F b->b<w.heap.size) (hB:B<=w.heap.size)
  (hsub:∀ i y,m i=some y->M i=some y) (hd:m d=none->M d=none) (hc:Hg P Γ d op vs m=some e) (hn:av e.need)
  (hr:bj P w F (ap M γ) vs (op.operands.toList.map a.eval)):sV P B o a w F γ M e.v e.wr:=by
 unfold Hg at hc;split at hc
 ·
  rename_i x0 x;cases hc;exact dl hm hb (by unfold execOp; rw[ho]; rfl) hr.1
 ·
  rename_i x0 x;cases hc;exact dl hm hb (by unfold execOp; rw[ho]; rfl) hr.1
 ·
  rename_i el;split at hc<;>try trivial
  rename_i z hz hmd;split at hc<;>try trivial
  rename_i cs hcs;cases hc;obtain⟨z1,z2,_⟩:=o6 hcs (tf (P:=P) (w:=w) (F:=F) (R:=ap M γ) z);obtain⟨s1,s2⟩:=SZ (ty:=el) hm hb hB (hd hmd) z1 z2;have hzv:(zeroValue el).run P w = .ok z w:=by
   cases hi:P.info? el with
   |none=>simp[hi] at hz
   |some i=>simp[hi] at hz; simp[zeroValue,typeInfo,hi,hz]
  refine ir (cL (S:=Instr.alloc el true (.tuple #[])) (u:=.pointer (some ⟨w.heap.size,0,none⟩)) (w':=w.alloc (.cells z.cells el)) (by unfold execOp; rw[ho]) ?_) s1 s2 Ul;simp[Instr.alloc,hzv,newVar,newRow,newObj,Sem.run]
 ·
  rename_i el x0 x;split at hc<;>try trivial
  rename_i cs hcs hmd;cases hc;obtain⟨z1,z2,_⟩:=o6 hcs hr.1;obtain⟨s1,s2⟩:=SZ (ty:=el) hm hb hB (hd hmd) z1 z2;refine ir (cL (S:=Instr.box el (a.eval x0)) (u:=.pointer (some ⟨w.heap.size,0,none⟩)) (w':=w.alloc (.cells (a.eval x0).cells el)) (by unfold execOp; rw[ho]) ?_) s1 s2 Ul;simp[Instr.box,newVar,newRow,newObj,Sem.run]
 ·
  rename_i xs t ps;split at hc<;>try trivial
  rename_i v hv;cases hc;have hops:(Op.build t ps).operands.toList.map a.eval=ps.toList.map (λp=>a.eval p.2):=by simp[Op.operands]
  rw[hops] at hr;have hz:=WL (idx:=ps.toList.map (·.1)) hr;have he:((ps.toList.map (·.1)).zip (ps.toList.map λp=>a.eval p.2))=ps.toList.map λp=>(p.1,a.eval p.2):=by
   rw[List.zip_map']
  rw[he] at hz;have hlen:=hr.length;obtain⟨u,h1,h2⟩:=qbq (ps:=ps.map λp=>(p.1,a.eval p.2)) hv (by simp at hlen |-; omega) (λk i x v h1 h2=>hz k i x v h1 (by simpa using h2));refine dl hm hb (cL (S:=Instr.build t (ps.map λp=>(p.1,a.eval p.2))) ?_ h1) h2;unfold execOp; rw[ho]
 ·
  rename_i xs t n ps;split at hc<;>try trivial
  rename_i el ht hmd;split at hc<;>try trivial
  rename_i i tt xs' u hi htt hrs;split at hc<;>try trivial
  rename_i hcond;obtain⟨hlt,c1,c2,c3,c4,c5⟩:=hcond;obtain⟨z,hz,hzs⟩:∃ z,i.zero=some z/\z.cells.size=tt.size:=by
   cases hz:i.zero with
   |none=>simp[hz] at c5
   |some z=>exact⟨z,rfl,by simpa[hz] using c5⟩
  split at hc<;>try trivial
  rename_i l hl;split at hc<;>try trivial
  rename_i hln;cases hc;have hops:(Op.buildSlice t n ps).operands.toList.map a.eval=ps.toList.map (λp=>a.eval p.2):=by simp[Op.operands]
  rw[hops] at hr;obtain⟨F1,s1,m1,t1,r1⟩:=iy hm hb (cX.of hsub) hrs hr;have hz':=WL (idx:=ps.toList.map (·.1)) r1;have he:((ps.toList.map (·.1)).zip (ps.toList.map λp=>a.eval p.2))=ps.toList.map λp=>(p.1,a.eval p.2):=by
   rw[List.zip_map']
  rw[he] at hz';have hlen:=r1.length;have hMd:ax M u d=none:=by rw[UK hmd hrs]; exact hd hmd
  obtain⟨v,w',γ',h1,s2,m2,r2⟩:=qbo (ps:=ps.map λp=>(p.1,a.eval p.2)) m1 s1.bd hB hMd ht hi hz c1 hzs c2 c3 hl hln (by simp at hlen |-; omega) (λk i x v h1 h2=>hz' k i x v h1 (by simpa using h2)) hlt;refine ir (cL (S:=Instr.buildSlice t n (ps.map λp=>(p.1,a.eval p.2))) (w':=w') ?_ h1) (F':=F1) (γ':=γ') ?_ ?_ ?_
  ·unfold execOp; rw[ho]
  ·rw[gc]; exact s1.trans s2
  ·rw[gc]; exact m2
  ·rw[gc]; exact r2
 ·
  rename_i t x0 x;obtain⟨h1,u,h2,h3⟩:=S2 hm hsub hc hn hr.1;rw[h1];exact dl hm hb (cL (S:=Instr.loadAt t (a.eval x0)) (by unfold execOp; rw[ho]) h2) h3
 ·
  rename_i t x0 v0 x v;obtain⟨h1,w',F1,h2,h3,h4⟩:=zax hm hb hsub hc hn hr.1 hr.2.1;rw[h1];intro K Q hK;unfold Oper.wp;have:(execOp a.eval o).run P w = .ok .skip w':=by
   unfold execOp;rw[ho];simp[h2]
  rw[this];exact hK undef w' F1 γ h3 h4 trivial
 ·
  rename_i x0 x;split at hc<;>try trivial
  ·rename_i id off;cases hc;obtain⟨⟨h1,b,h2,h3⟩,_⟩:=hr;refine dl hm hb (u:=a.eval x0) ?_ ⟨h1,b,h2,h3⟩;unfold execOp;rw[ho];simp only[h3];rfl
  ·rename_i cs;cases hc;obtain⟨⟨h1,ad,h2,h3⟩,_⟩:=hr;refine dl hm hb (u:=a.eval x0) ?_ ⟨h1,ad,h2,h3⟩;unfold execOp;rw[ho];simp only[h2];rfl
 ·
  rename_i bo t x0 y0 yt x y;split at hc
  ·rename_i v hv;cases hc;have key:ya P t=true->∀ es (t0:Ty) (z:Int×t0.den) (vx:Value),bc P w F (ap M γ) (.ic es t0 z) vx->∀ q:BinOp,q = .eql\/q = .neq->(do eqGuard q t x0 (.const .nilIface) vx .nilIface; binOp q t vx .nilIface:Sem Value).run P w = .ok (.bool (if q = .eql then (cD es z.1).isNone else !(cD es z.1).isNone)) w:=λhu es t0 z vx hx q hq=>by
    obtain⟨ms,hms⟩:=qnk hu;rcases Cj hx with ⟨ty,u,i1,i2,_⟩|⟨i1,i2⟩
    ·subst i2;have he:(Op.equalIn (9999+1) t (.iface ty u) .nilIface).run P w = .ok false w:=qnl hms;have he2:Op.equal t (.iface ty u) .nilIface=Op.equalIn (9999+1) t (.iface ty u) .nilIface:=rfl;rcases hq with rfl|rfl
     ·have h1:binOp .eql t (.iface ty u) .nilIface=(do pure (.bool (<- Op.equal t (.iface ty u) .nilIface))):=rfl;rw[h1,he2];simp[eqGuard,he,i1]
     ·have h1:binOp .neq t (.iface ty u) .nilIface=(do pure (.bool (!(<- Op.equal t (.iface ty u) .nilIface)))):=rfl;rw[h1,he2];simp[eqGuard,he,i1]
    ·subst i2;have he:(Op.equalIn (9999+1) t .nilIface .nilIface).run P w = .ok true w:=qnm hms;have he2:Op.equal t .nilIface .nilIface=Op.equalIn (9999+1) t .nilIface .nilIface:=rfl;rcases hq with rfl|rfl
     ·have h1:binOp .eql t .nilIface .nilIface=(do pure (.bool (<- Op.equal t .nilIface .nilIface))):=rfl;rw[h1,he2];simp[eqGuard,he,i1]
     ·have h1:binOp .neq t .nilIface .nilIface=(do pure (.bool (!(<- Op.equal t .nilIface .nilIface)))):=rfl;rw[h1,he2];simp[eqGuard,he,i1]
   unfold Tc at hv;split at hv<;>try trivial
   ·rename_i es t0 z;split at hv<;>try trivial
    rename_i hui;cases hv;refine dl hm hb (cL (S:=do eqGuard .eql t x0 (.const .nilIface) (a.eval x0) .nilIface; binOp .eql t (a.eval x0) .nilIface) (by unfold execOp; rw[ho]; rfl) (key hui es t0 z _ hr.1.2 .eql (.inl rfl))) ⟨rfl,rfl⟩
   ·rename_i es t0 z;split at hv<;>try trivial
    rename_i hui;cases hv;refine dl hm hb (cL (S:=do eqGuard .neq t x0 (.const .nilIface) (a.eval x0) .nilIface; binOp .neq t (a.eval x0) .nilIface) (by unfold execOp; rw[ho]; rfl) (key hui es t0 z _ hr.1.2 .neq (.inr rfl))) ⟨rfl,rfl⟩
  split at hc<;>try trivial
  rename_i c n hcb;cases hc;obtain⟨u,h1,h2,h3⟩:=qbm hcb hn hr.1 hr.2.1 x0 y0;exact dl hm hb (cL (S:=do eqGuard bo t x0 y0 (a.eval x0) (a.eval y0); binOp bo t (a.eval x0) (a.eval y0)) (by unfold execOp; rw[ho]) h1) ⟨h2,h3⟩
 ·
  rename_i uo t x0 k n;split at hc<;>try trivial
  cases hc;obtain⟨⟨_,h1,h2⟩,_⟩:=hr;refine dl hm hb (cL (S:=Op.unary .neg (a.eval x0)) (u:=.int k (k.wrap (0-n))) (by unfold execOp; rw[ho]) ?_) ⟨rfl,rfl,gd _ _⟩;rw[h1];simp[Op.unary,Op.intArith]
 ·
  rename_i uo t x0 bb;split at hc<;>try trivial
  cases hc;obtain⟨⟨_,h1⟩,_⟩:=hr;simp only[bc] at h1;refine dl hm hb (cL (S:=Op.unary .not (a.eval x0)) (u:=.bool (!bb)) (by unfold execOp; rw[ho]) ?_) ⟨rfl,rfl⟩;rw[h1];simp[Op.unary]
 ·
  rename_i s t x0 k0 n;split at hc<;>try trivial
  rename_i ds k hs ht;cases hc;obtain⟨⟨_,h1,h2⟩,_⟩:=hr;refine dl hm hb (cL (S:=convert s t (a.eval x0)) (u:=.int k (k.wrap n)) (by unfold execOp; rw[ho]) ?_) ⟨rfl,rfl,gd _ _⟩;rw[h1];simp[convert,ud1 hs,ud1 ht,Conv.intToInt]
 ·
  rename_i t n0 c0 k n k' c;obtain⟨⟨_,h1,_⟩,⟨_,h2,_⟩,_⟩:=hr;obtain⟨u,w',γ',e1,e2,e3,e4⟩:=qtp (kn:=k) (kc:=k') hm hb hB hd hc hn;refine ir (cL (S:=Instr.makeSlice t (a.eval n0) (a.eval c0)) (by unfold execOp; rw[ho]) ?_) e2 e3 e4;rw[h1,h2];exact e1
 ·
  rename_i t x0 lo hi mx x r;split at hc
  ·rename_i e' hcut;cases hc;have hops:(Op.slice t x0 lo hi mx).operands.toList.map a.eval=a.eval x0::(lo.toList.map a.eval++(hi.toList.map a.eval++(mx.toList.map a.eval++[]))):=by simp[Op.operands]
   rw[hops] at hr;obtain⟨h1,h2,h3,vh,u,γ',h4,h5,h6,h7,h8⟩:=qey hm hb hB hsub hd hcut hn hr.1 hr.2;cases lo with
   |some _=>cases h1
   |none=>
    cases mx with
    |some _=>cases h3
    |none=>
     cases hi with
     |none=>cases h2
     |some hh=>
      simp only[Option.toList,List.map_nil,ueg,udi,udn,udm,and_true] at h4;refine ir (cL (S:=Instr.sliceAt t (a.eval x0) none (some (a.eval hh)) none) (w':=w) (by unfold execOp; rw[ho]; rfl) ?_) h6 h7 h8;rw[h4];exact h5
  split at hc
  ·rename_i e' hsp;cases hc;split at hsp<;>try trivial
   rename_i hno;cases lo with
   |some _=>cases hno.1
   |none=>
    cases hi with
    |some _=>cases hno.2.1
    |none=>
     cases mx with
     |some _=>cases hno.2.2
     |none=>
      obtain⟨u,F1,e1,e2,e3,e4⟩:=qz9 hm hb hsub hsp hr.1;exact ir (cL (S:=Instr.sliceAt t (a.eval x0) none none none) (w':=w) (by unfold execOp; rw[ho]; rfl) e1) e2 e3 e4
  split at hc<;>try trivial
  rename_i el x' u l r1 ht hrs hlo;split at hc<;>try trivial
  rename_i h r2 hhi;split at hc<;>try trivial
  rename_i k hmx;split at hc<;>try trivial
  rename_i cc hne;split at hc<;>try trivial
  rename_i tt y hly;split at hc<;>try trivial
  rename_i hcond;obtain⟨ti,hti⟩:=uaq.1 hcond.1;split at hc<;>try trivial
  rename_i z n hsl;cases hc;have hops:(Op.slice t x0 lo hi mx).operands.toList.map a.eval=a.eval x0::(lo.toList.map a.eval++(hi.toList.map a.eval++(mx.toList.map a.eval++[]))):=by simp[Op.operands]
  rw[hops] at hr;obtain⟨F1,s1,m1,t1,r1⟩:=UJ hm hb (cX.of hsub) hrs hr.1;obtain⟨⟨kl,q1⟩,hr2⟩:=JU hlo hr.2;obtain⟨⟨kh,q2⟩,hr3⟩:=JU hhi hr2;obtain⟨⟨kk,q3⟩,hr4⟩:=JU hmx hr3;obtain⟨A,cap,hv,hrep⟩:=qqk hly r1.2;rw[hv] at hrep;obtain⟨v,e1,e2,e3⟩:=qz8 (P:=P) (w:=w) (F:=F1) (R:=ap (ax M u) γ) (kl:=kl) (kh:=kh) (kk:=kk) ht hti hcond.2 hsl hn hrep;refine ir (cL (S:=Instr.sliceAt t (a.eval x0) (lo.map a.eval) (hi.map a.eval) (mx.map a.eval)) (w':=w) (by unfold execOp; rw[ho]) ?_) s1 m1 ⟨e2,e3⟩;rw[hv,q1,q2,q3];exact e1
 ·
  rename_i s x0 f x;split at hc<;>try trivial
  rename_i v hv;cases hc;obtain⟨u,h1,h2⟩:=qkn hv hr.1;exact dl hm hb (cL (S:=Instr.fieldAt s (a.eval x0) f) (by unfold execOp; rw[ho]) h1) h2
 ·
  rename_i s x0 f cs;split at hc<;>try trivial
  rename_i fd hfd;split at hc<;>try trivial
  rename_i hcond;split at hc<;>try trivial
  rename_i l hl;split at hc<;>try trivial
  rename_i v hv;cases hc;obtain⟨u,h1,h2⟩:=qko hfd hcond hl hv hr.1;exact dl hm hb (cL (S:=Instr.field s (a.eval x0) f) (by unfold execOp; rw[ho]) h1) h2
 ·
  rename_i t x0 i0 x k i;obtain⟨hx,⟨_,h2,_⟩,_⟩:=hr;obtain⟨h1,u,h3,h4⟩:=qnq (k:=k) hm hsub hc hn hx;rw[h1];refine dl hm hb (cL (S:=Instr.indexAt t (a.eval x0) (a.eval i0)) (by unfold execOp; rw[ho]) ?_) h4;rw[h2];exact h3
 ·
  rename_i t x0 i0 x k i;obtain⟨hx,⟨_,h2,_⟩,_⟩:=hr;obtain⟨h1,u,h3,h4⟩:=qnp (k:=k) hc hn hx;rw[h1];refine dl hm hb (cL (S:=Instr.index t (a.eval x0) (a.eval i0)) (by unfold execOp; rw[ho]) ?_) h4;rw[h2];exact h3
 ·
  rename_i t x0 y0 es n;split at hc<;>try trivial
  rename_i kt et ht;split at hc<;>try trivial
  rename_i hk hz;cases hc;obtain⟨⟨_,hx⟩,⟨_,hy,_⟩,_⟩:=hr;simp only[bc] at hx hy;obtain⟨r,arr,ck,e1,e2,e3,e4⟩:=hx;have hzv:(zeroValue et).run P w = .ok .nilFunc w:=by
   cases hi:P.info? et with
   |none=>simp[hi] at hz
   |some i=>simp[hi] at hz; simp[zeroValue,typeInfo,hi,hz]
  have hrun:=qqo (w:=w) ht hk hzv e3 e4 n;refine dl hm hb (cL (S:=Instr.lookup t (a.eval x0) (a.eval y0) true) (by unfold execOp; rw[ho]) (by rw[e1,hy]; exact hrun)) ?_;refine⟨_,rfl,rfl,⟨ie (es.find? (λx=>x.1==n)),by simp,?_,?_⟩,⟨_,rfl,rfl,rfl⟩,uT⟩
  ·cases es.find? (λx=>x.1==n)<;>rfl
  ·simp only[bc]
 ·
  rename_i x0 i xs;split at hc<;>try trivial
  rename_i v hv;cases hc;obtain⟨⟨arr,h1,h2,h3⟩,_⟩:=hr;have hat:∀ (xs:List AV) (g:Nat->Value->Prop) (i:Nat) (v:AV),ln P w F (ap M γ) xs g->xs[i]? = some v->∃ u,g i u/\aE P w F (ap M γ) v u:=by
   intro xs
   induction xs with
   |nil=>intro g i v _ h; simp at h
   |cons y ys ih=>
    intro g i v h hi;cases i with
    |zero=>simp at hi; subst hi; exact h.1
    |succ i=>exact ih _ i v h.2 (by simpa using hi)
  obtain⟨u,h4,h5⟩:=hat xs _ i v h3 hv;refine dl hm hb (cL (S:=Instr.extract (a.eval x0) i) (by unfold execOp; rw[ho]) ?_) h5;rw[h1];simp[Instr.extract,h4]
 ·
  rename_i x0 xt ty es t x;split at hc<;>try trivial
  rename_i fs hu;split at hc<;>try trivial
  rename_i hz;cases hc;obtain⟨z,hzv⟩:∃ z,(zeroValue ty).run P w = .ok z w:=by
   cases hi:P.info? ty with
   |none=>simp[hi] at hz
   |some i=>
    cases hz2:i.zero with
    |none=>simp[hi,hz2] at hz
    |some z=>exact⟨z,by simp[zeroValue,typeInfo,hi,hz2]⟩
  have hx:=hr.1.2;rcases Cj hx with ⟨ty',u,i1,i2,_⟩|⟨i1,i2⟩
  ·by_cases he:ty'=ty
   ·subst he;refine dl hm hb (cL (S:=Instr.typeAssert (a.eval x0) xt ty' true) (u:=.tuple #[u,.bool true]) (by unfold execOp; rw[ho]) ?_) ?_
    ·rw[i2];simp[Instr.typeAssert,ud1 hu]
    ·refine⟨_,rfl,rfl,⟨u,rfl,uT⟩,⟨_,rfl,rfl,?_⟩,uT⟩;simp[bc,i1]
   ·refine dl hm hb (cL (S:=Instr.typeAssert (a.eval x0) xt ty true) (u:=.tuple #[z,.bool false]) (by unfold execOp; rw[ho]) ?_) ?_
    ·rw[i2];simp[Instr.typeAssert,ud1 hu,he,hzv]
    ·refine⟨_,rfl,rfl,⟨z,rfl,uT⟩,⟨_,rfl,rfl,?_⟩,uT⟩;simp[bc,i1,he]
  ·refine dl hm hb (cL (S:=Instr.typeAssert (a.eval x0) xt ty true) (u:=.tuple #[z,.bool false]) (by unfold execOp; rw[ho]) ?_) ?_
   ·rw[i2];simp[Instr.typeAssert,ud1 hu,hzv]
   ·refine⟨_,rfl,rfl,⟨z,rfl,uT⟩,⟨_,rfl,rfl,?_⟩,uT⟩;simp[bc,i1]
 ·
  rename_i xs f first cap
  split at hc<;>try trivial
  rename_i hf;split at hc<;>try trivial
  rename_i caps u hk;cases hc;have hfirst:first = #[]:=Array.eq_empty_of_size_eq_zero hf
  subst hfirst;have hops:(Op.makeFunc (.func f) #[] cap).operands.toList.map a.eval=(cap.map a.eval).toList:=by simp[Op.operands]
  rw[hops] at hr;obtain⟨F1,s1,m1,r1⟩:∃ F1,Step B w F γ M w F1 γ (ax M u)/\MemOK P B w F1 γ (ax M u)/\bj P w F1 (ap (ax M u) γ) (caps.map .c) (cap.map a.eval).toList:=by
   split at hk
   ·exact D6 hm hb hsub hk hr
   ·obtain⟨rfl,h2⟩:=S1 hk hr;exact⟨F,Step.refl hb,hm,h2⟩
  obtain⟨l1,l2⟩:=qc4 r1;refine ir (cL (S:=Instr.makeFunc (.func f) ((#[]:Array Operand).map a.eval) (cap.map a.eval)) (u:=.func (.func f) #[] (cap.map a.eval)) (w':=w) (by unfold execOp; rw[ho]) ?_) s1 m1 ?_
  ·simp[Instr.makeFunc]
  ·exact⟨rfl,cap.map a.eval,rfl,by simpa using l1,by simpa using l2⟩
 ·
  rename_i xs bb cargs ts;have hops:(Op.call ⟨.builtin bb,cargs,ts⟩).operands.toList.map a.eval=(cargs.map a.eval).toList:=by simp[Op.operands,Call.operands]
  rw[hops] at hr;have hex:∀ (S:Sem Value) (u:Value) (w':World),(∀ (ty:TypeId) (cs:Array Bool),builtin bb ts ty cs (cargs.map a.eval)=(do pure (.value (<- S)):Sem Next))->S.run P w = .ok u w'->(execOp a.eval o).run P w = .ok (.value u) w':=by
   intro S u w' h1 h2;unfold execOp;rw[ho];simp[resolve,invoke,h1,h2]
  unfold O8 at hc;split at hc<;>try trivial
  ·rename_i t x hts;have hargs:∃ v,cargs.map a.eval = #[v]/\aE P w F (ap M γ) x v:=by
    cases hl:(cargs.map a.eval).toList with
    |nil=>rw[hl] at hr; exact hr.elim
    |cons v r=>cases r with
     |nil=>rw[hl] at hr; exact⟨v,by rw[<- uc4,hl],hr.1⟩
     |cons _ _=>rw[hl] at hr; exact hr.2.elim
   obtain⟨v,hv,hx⟩:=hargs;have hts':ts = #[t]:=by rw[<- uc4,hts]
   obtain⟨h1,u,h2,h3⟩:=qqi hm hsub hc hx o.type;rw[h1];refine dl hm hb (hex (Builtin.len_ #[t] 0 #[v]) u w (λty cs=>?_) ?_) h3
   ·rw[hv,hts']; rfl
   ·exact h2
  ·rename_i t t' s x hts;split at hc<;>try trivial
   rename_i htt;subst htt;have hargs:∃ v1 v2,cargs.map a.eval = #[v1,v2]/\aE P w F (ap M γ) s v1/\aE P w F (ap M γ) x v2:=by
    cases hl:(cargs.map a.eval).toList with
    |nil=>rw[hl] at hr; exact hr.elim
    |cons v r=>cases r with
     |nil=>rw[hl] at hr; exact hr.2.elim
     |cons v2 r=>cases r with
      |nil=>rw[hl] at hr; exact⟨v,v2,by rw[<- uc4,hl],hr.1,hr.2.1⟩
      |cons _ _=>rw[hl] at hr; exact hr.2.2.elim
   obtain⟨v1,v2,hv,hs,hx⟩:=hargs;have hts':ts = #[t,t]:=by rw[<- uc4,hts]
   obtain⟨u,w',γ',h2,h3,h4,h5⟩:=qax (ty:=0) hm hb hB hsub hd hc hn hs hx;refine ir (hex (Builtin.append_ #[t,t] 0 #[v1,v2]) u w' (λty cs=>?_) h2) h3 h4 h5;rw[hv,hts']; rfl
  ·rename_i k n r;split at hc<;>try trivial
   rename_i y hy;cases hc;cases hl:(cargs.map a.eval).toList with
   |nil=>rw[hl] at hr; exact hr.elim
   |cons v r0=>
    rw[hl] at hr;obtain⟨⟨_,rfl,hk⟩,hr⟩:=hr;obtain⟨h1,h2⟩:=ST hy hk hr;refine dl hm hb (hex (Builtin.min_ ts 0 (cargs.map a.eval)) (.int k y) w (λty cs=>rfl) ?_) ⟨rfl,rfl,h2⟩;simp only[Builtin.min_,hl];exact h1
  ·rename_i k n r;split at hc<;>try trivial
   rename_i y hy;cases hc;cases hl:(cargs.map a.eval).toList with
   |nil=>rw[hl] at hr; exact hr.elim
   |cons v r0=>
    rw[hl] at hr;obtain⟨⟨_,rfl,hk⟩,hr⟩:=hr;obtain⟨h1,h2⟩:=SN hy hk hr;refine dl hm hb (hex (Builtin.max_ ts 0 (cargs.map a.eval)) (.int k y) w (λty cs=>rfl) ?_) ⟨rfl,rfl,h2⟩;simp only[Builtin.max_,hl];exact h1
 ·
  rename_i recv name cargs ts es t x args;split at hc<;>try trivial
  rename_i args' u fs hrs hfs;split at hc<;>try trivial
  rename_i rs y n hv;cases hc;have hops:(Op.call ⟨.invoke recv name,cargs,ts⟩).operands.toList.map a.eval=a.eval recv::(cargs.map a.eval).toList:=by simp[Op.operands,Call.operands]
  rw[hops] at hr;obtain⟨F1,s1,m1,t1,r1⟩:=iy hm hb (cX.of hsub) hrs hr.2;have hx:=hr.1.2;rcases Cj hx with ⟨ty,v0,i1,i2,i3⟩|⟨i1,i2⟩
  ·have hrx:aE P w F1 (ap (ax M u) γ) (dE t x.2) v0:=fT (i3.mono s1.hF (λ_ _=>rfl));obtain⟨f,e1,e2,e3⟩:=GR hΓ (k:=x.1) s1.bd (vs:=v0::(cargs.map a.eval).toList) (args:=dE t x.2::args') ⟨hrx,r1⟩ hv hn;obtain⟨p,hp,hpf⟩:∃ p,fs.find? (λx'=>x'.1==x.1)=some p/\p.2=f:=by
    cases hq:fs.find? (λx'=>x'.1==x.1) with
    |none=>rw[hq] at e1; simp[ie] at e1
    |some p=>rw[hq] at e1; simp[ie] at e1; exact⟨p,rfl,e1⟩
   subst hpf;obtain⟨ty',j1,j2⟩:=IN hfs hp;rw[i1] at j1;cases j1;intro K Q hK;unfold Oper.wp;have q1:(#[Value.iface ty v0]++Array.map a.eval cargs)[0]? = some (.iface ty v0):=by simp[Array.getElem?_append]
   have q2:(Array.map a.eval cargs).extract 0 cargs.size=Array.map a.eval cargs:=by
    have:cargs.size=(Array.map a.eval cargs).size:=by simp
    rw[this];exact Array.extract_size
   have hrun:(execOp a.eval o).run P w = .ok (.enter p.2 (#[v0]++cargs.map a.eval)) w:=by
    unfold execOp;rw[ho];simp only[resolve,ueo,ueq,uck,invoke,i2];rw[q1];have q3:(#[Value.iface ty v0]++Array.map a.eval cargs).extract 1 (#[Value.iface ty v0]++Array.map a.eval cargs).size=Array.map a.eval cargs:=by simp[q2]
    simp only[q3];rw[qya j2,e2]
   rw[hrun];show Calls P p.2 (#[v0]++cargs.map a.eval) w _;have du:(v0::(cargs.map a.eval).toList).toArray = #[v0]++cargs.map a.eval:=by simp
   rw[du] at e3;refine e3.mono λen w2 hp=>?_;obtain⟨v2,F2,rfl,hbel,hF2,hF2',hrep⟩:=hp;obtain⟨s2,m2⟩:=Step.below m1 hB s1.bd hbel hF2 hF2';exact hK v2 w2 F2 γ (s1.trans s2) m2 (tN hrep)
  ·obtain⟨p,hp⟩:=O9 hv hn;obtain⟨ty',j1,_⟩:=IN hfs hp;rw[i1] at j1;cases j1
 ·
  rename_i f0 cargs ts es n id args;split at hc<;>try trivial
  rename_i ety cs hid;split at hc<;>try trivial
  rename_i T z ns hu;cases hc;have hops:(Op.call ⟨.value f0,cargs,ts⟩).operands.toList.map a.eval=a.eval f0::(cargs.map a.eval).toList:=by simp[Op.operands,Call.operands]
  rw[hops] at hr
  match hca:(cargs.map a.eval).toList,hr with
  |[],hr=>exact hr.2.elim
  |vp::vs,⟨⟨_,hf⟩,⟨_,hp⟩,hvs⟩=>
   have hf:a.eval f0=ie (es.find? (λx=>x.1==n)):=hf;obtain⟨b,arr,q1,rfl,q3,q4,q5,q6,q7⟩:=lw hm (hsub _ _ hid) hp;have hone:∀ u∈arr,u.oneCell'=true:=λu hu=>by
    obtain⟨j,hj,rfl⟩:=Array.getElem_of_mem hu;obtain⟨u',z1,z2,_⟩:=q7.at_ (j:=j) (c:=cs[j]'(by omega)) (uap _);rw[uam hj] at z1;cases z1;exact z2
   obtain⟨hl,f,e1,e2,e3⟩:=Ws hΓ q3 q6 hone q7 hvs hu hn;intro K Q hK;unfold Oper.wp;have hrun:(execOp a.eval o).run P w = .ok (.enter f (cargs.map a.eval)) w:=by
    unfold execOp;rw[ho];simp[resolve,hf,e1,Deferred.ofValue,invoke,e2]
   rw[hrun];show Calls P f (cargs.map a.eval) w _;have du:(Value.pointer (some ⟨b,0,none⟩)::vs).toArray=cargs.map a.eval:=by rw[<- hca]
   rw[du] at e3;refine e3.mono λen w2 hp2=>?_;obtain⟨u,nv,rfl,r1,rfl,r2⟩:=hp2;have hrep:aN P w F (ap M γ) (enc T z) (λj u=>(cF arr 0 nv)[j]? = some u):=by
    refine(aA.enc T z r2).turn λj u hj hu=>?_;rw[fl] at hj;have:=yx (arr:=arr) (off:=0) (vs:=nv) (j:=j) (by omega) (by omega);rw[uet] at this;rw[this];exact hu
   obtain⟨s1,m1⟩:=pJ hm hb (hsub _ _ hid) q1 q3 q4 q5 (by omega) (by rw[fl]; omega) hrep;have hov:cF arr 0 nv=nv.toArray:=by
    have:nv.length=arr.size:=by omega
    simp[cF,this]
   rw[hov] at s1 m1;exact hK u _ F γ s1 m1 trivial
 ·
  rename_i f0 cargs ts fv args _;split at hc
  ·rename_i rw0 hrow;have hops:(Op.call ⟨.value f0,cargs,ts⟩).operands.toList.map a.eval=a.eval f0::(cargs.map a.eval).toList:=by simp[Op.operands,Call.operands]
   rw[hops] at hr;unfold UC at hrow;split at hrow<;>try trivial
   rename_i f1 _;obtain⟨_,arr,e1,e2,_⟩:=hr.1;have e3:arr = #[]:=Array.eq_empty_of_size_eq_zero e2;subst e3;obtain⟨hen,hcalls⟩:=qx1 (hΓ.2 _ _ hrow) hm hb hB hsub hd hc hn hr.2;intro K Q hK;unfold Oper.wp;have hrun:(execOp a.eval o).run P w = .ok (.enter f1 (cargs.map a.eval)) w:=by
    unfold execOp;rw[ho];simp[resolve,e1,Deferred.ofValue,invoke,hen]
   rw[hrun];show Calls P f1 (cargs.map a.eval) w _;rw[ubd] at hcalls;refine hcalls.mono λen w2 hp=>?_;obtain⟨u,γ',rfl,s1,m1,r1⟩:=hp;exact hK u w2 F γ' s1 m1 r1
  split at hc<;>try trivial
  rename_i args' u hrs;split at hc<;>try trivial
  rename_i v n hv;cases hc;have hops:(Op.call ⟨.value f0,cargs,ts⟩).operands.toList.map a.eval=a.eval f0::(cargs.map a.eval).toList:=by simp[Op.operands,Call.operands]
  rw[hops] at hr;obtain⟨F1,s1,m1,t1,r1⟩:=iy hm hb (cX.of hsub) hrs hr.2;obtain⟨f,caps,e1,e2,rs,y,e3,e4⟩:=qc3 hΓ hv hn s1.bd (s1.repA hr.1) r1;intro K Q hK;unfold Oper.wp;have hrun:(execOp a.eval o).run P w = .ok (.enter f (cargs.map a.eval++caps)) w:=by
   unfold execOp;rw[ho];simp[resolve,e1,Deferred.ofValue,invoke,e2]
  rw[hrun];show Calls P f (cargs.map a.eval++caps) w _;rw[ubd] at e4;refine e4.mono λe w2 hp=>?_;obtain⟨v2,F2,rfl,hbel,hF2,hF2',hrep⟩:=hp;obtain⟨s2,m2⟩:=Step.below m1 hB s1.bd hbel hF2 hF2';exact hK v2 w2 F2 γ (s1.trans s2) m2 (by rw[e3]; exact tN hrep)
 ·cases hc
end
end Go.Ab
