/-
  Parts of the proof, one behind the other: AbB.
-/
import Derived.Test.YtgieagiaagoogaaGreatMa
set_option linter.all false
abbrev ua1:=@Bool.and_eq_true
abbrev uai:=@Nat.zero_add
abbrev uas:=@List.length_append
abbrev uav:=@List.nil_append
abbrev uaw:=@Go.setRow_other
abbrev ub5:=@List.size_toArray
abbrev ubn:=@List.getElem?_cons_zero
abbrev uba:=@Go.setRow_heap
abbrev ubf:=@List.append_assoc
abbrev ubg:=@Array.getElem?_eq_getElem
abbrev ubo:=@Nat.min_eq_left
abbrev uc8:=@List.all_cons
abbrev ucs:=@Nat.add_mul
abbrev uct:=@List.length_set
abbrev ucu:=@beq_eq_false_iff_ne
abbrev ucz:=@Go.World.ownsRow_nil
abbrev ud0:=@List.map_cons
abbrev ud7:=@and_true
abbrev ud8:=@Array.ext
abbrev udk:=@Array.toList_append
abbrev udl:=@Nat.add_zero
abbrev udm:=@Nat.lt_trichotomy
abbrev udz:=@Array.size_append
abbrev ue0:=@Go.Addr.mk.injEq
abbrev ue1:=@List.getElem?_set_ne
abbrev uef:=@Go.grownCap_ge
abbrev ueg:=@Go.grownCap_le_maxLen
abbrev ueh:=@Go.size_zeroCells
abbrev ugn:=@List.getElem?_toArray
abbrev uei:=@Array.getElem?_toList
abbrev uej:=@List.cons.injEq
abbrev uex:=@Go.growslice_fits
abbrev uey:=@List.flatMap_cons
abbrev uez:=@Go.Value.slice.injEq
abbrev uf0:=@List.getElem?_set_self
abbrev uf1:=@Nat.min_self
abbrev uf2:=@List.take_take
abbrev ufu:=@Go.heap_alloc_old
abbrev ufv:=@List.all_append
abbrev ufw:=@Int.mul_comm
abbrev ufx:=@Go.World.grownBy_alloc
abbrev ufy:=@Go.World.grownBy.refl
namespace Go.Ab
open Go Go.RowKit
section
variable {P:Program} {B:Nat} {o:Oper} {a:Act} {w w':World} {F F':Nat->Prop} {γ γ':Nat->Value} {M m:Mem} {R:Nat->Value->Prop}
theorem qm7 {t:Ty} {l:List t.den} {v:Value} (hr:qs w F (.sl t) l (fun _ u=>u=v)) :
  ∃ A c xs,v = .slice A l.length c/\l.length<=c/\(A=none->l=[])/\xs.length=l.length*t.size/\yq w F t l xs/\∀ ad,A=some ad->∀ (j:Nat) u,xs[j]? = some u->w.cell? (ad.add j)=some u:=by
 obtain ⟨A,c,h1,h2,h3,h4⟩:=hr;cases A with
 |none=>
  have hl:l=[]:=by
   cases l with
   |nil=>rfl
   |cons x l=>
    obtain ⟨ad,he,_⟩:=h4 0 x rfl;cases he
  subst hl;exact ⟨none,c,[],h1.symm,h2,fun _=>rfl,by simp,fun i x hi=>by simp at hi,fun ad he=>by cases he⟩
 |some ad=>
  refine ⟨some ad,c,(List.range (l.length*t.size)).map fun k=>(w.cell? (ad.add k)).getD undef,h1.symm,h2,(fun h=>by cases h),by simp,fun i x hi=>?_,fun ad' he j u hj=>?_⟩
  ·obtain ⟨ad',he,_,h5⟩:=h4 i x hi;cases he;refine h5.mono (fun _ h=>h) (fun _ _=>rfl) fun j u hj hu=>?_;have hil:=(uaj.1 hi).1;have:i*t.size+j<l.length*t.size:=by
    have:i*t.size+t.size<=l.length*t.size:=by rw [← uay]; exact uam _ hil
    omega
   rw [udi,List.getElem?_range this];simp [hu]
  ·cases he;rw [udi] at hj;have hjl:j<l.length*t.size:=by
    rcases uar j (l.length*t.size) with h|h
    ·exact h
    ·rw [ucy (by simpa using h)] at hj;simp at hj
   rw [List.getElem?_range hjl] at hj;simp only [udj,ua0] at hj;have hpos:0<t.size:=by
    rcases uft t.size with h0|h0
    ·rw [h0] at hjl; omega
    ·exact h0
   have hi:j/t.size<l.length:=(Nat.div_lt_iff_lt_mul hpos).2 hjl;obtain ⟨ad',he,_,h5⟩:=h4 (j/t.size) _ (ua7 hi);cases he;obtain ⟨y,e1,_⟩:=qs.cell t h5 (j%t.size) (Nat.mod_lt _ hpos);rw [ud5,Nat.div_add_mod] at e1;rw [e1] at hj ⊢;simpa using hj
theorem yq.append {t:Ty} {l k:List t.den} {xs ys:List Value} (hx:yq w F t l xs) (hl:xs.length=l.length*t.size) (hy:yq w F t k ys):yq w F t (l++k) (xs++ys):=by
 intro i x hi;rcases uar i l.length with h|h
 ·rw [uc3 h] at hi;refine (hx i x hi).mono (fun _ h=>h) (fun _ _=>rfl) fun j u hj hu=>?_;have:i*t.size+t.size<=l.length*t.size:=by rw [← uay]; exact uam _ h
  rw [uc3 (by omega)];exact hu
 ·rw [ubr h] at hi;refine (hy (i-l.length) x hi).mono (fun _ h=>h) (fun _ _=>rfl) fun j u hj hu=>?_;have h2:i*t.size=l.length*t.size+(i-l.length)*t.size:=by rw [← ucs]; congr 1; omega
  rw [ubr (by omega)];rw [← hu];congr 1;omega
theorem qvb {c:AC} {t:Ty} {l:List t.den} {v:Value} (hm:MemOK P B w F γ M) (hsub:∀ i y,m i=some y->M i=some y) (h:qod m c=some ⟨t,l⟩) (hr:zn P w F (qp M γ) c v) :
  ∃ A cap xs,v = .slice A l.length cap/\l.length<=cap/\(A=none->l=[])/\xs.length=l.length*t.size/\yq w F t l xs/\∀ ad,A=some ad->∀ (j:Nat) u,xs[j]? = some u->w.cell? (ad.add j)=some u:=by
 unfold qod at h;split at h<;>try trivial
 ·cases h;simp only [zn] at hr;exact qm7 hr
 ·cases h;obtain ⟨A,_,h2⟩:=hr;exact qm7 h2
 ·rename_i id;split at h<;>try trivial
  ·rename_i ety t' l' hmid;cases h;have hv:=qen (hsub _ _ hmid) (by simp) hr;subst hv;obtain ⟨xs,hown,_,hrows,_⟩:=hm.ob id _ (hsub _ _ hmid);rcases hown.2 with ⟨h3,h4⟩|⟨g,cap,cur,h3,_,_,h4,_⟩
   ·exact ⟨none,0,xs,by rw [h3,h4],by omega,fun _=>ucr h4,hown.1,hrows,fun ad he=>by cases he⟩
   ·refine ⟨_,_,xs,h3,h4,(fun h=>by cases h),hown.1,hrows,fun ad he=>?_⟩;cases he;exact hown.cells (g:=g) (by rw [h3]; rfl)
  ·rename_i t' l' hmid;cases h;have hv:=qen (hsub _ _ hmid) (by simp) hr;subst hv;exact qm7 (hm.ob id _ (hsub _ _ hmid))
theorem qpv (t ty e:TypeId) (i:TypeInfo) (ht:P.underlying t=some (.slice e)) (hi:P.info? e=some i) (A:Option Addr) (n cap:Nat) (hnc:n<=cap) (c:Nat) :
  (Builtin.append_ #[t,t] ty #[.slice A n cap,.slice none 0 c]).run P w = .ok (.slice A n cap) w:=by
 cases A<;>simp [Builtin.append_,uah ht,sizeOf,typeInfo,hi,Builtin.lenOf,Builtin.firstCells,hnc,storeCells]
theorem qcp (t ty e:TypeId) (i:TypeInfo) (z:Value) (size:Nat) (ht:P.underlying t=some (.slice e)) (hi:P.info? e=some i) (hz:i.zero=some z) (hsize:i.size=size) (hzs:z.cells.size=size) (hsz:0<size)
  (s:Value) (n:Nat) (xs:List Value) (hown:w.ownsRow B e size s n xs) (A:Option Addr) (k c:Nat) (news:List Value) (hA:A=none->k=0) (hl:news.length=k*size)
  (hc:∀ ad,A=some ad->∀ (j:Nat) u,news[j]? = some u->w.cell? (ad.add j)=some u) (h1:∀ u∈news,u.oneCell'=true) (h63:n+k<=maxLen) (hbytes:(n+k)*i.bytes<=140737488355328) (hB:B<=w.heap.size) :
  ∃ v' w',(Builtin.append_ #[t,t] ty #[s,.slice A k c]).run P w = .ok v' w'/\w'.ownsRow B e size v' (n+k) (xs++news)/\w.grownBy w' s.ownBlock/\(v'.ownBlock=s.ownBlock∨v'.ownBlock=some w.heap.size):=by
 cases A with
 |none=>
  have hk:=hA rfl;subst hk;have hn:news=[]:=ucr (by simpa using hl);subst hn;rcases hown.2 with ⟨rfl,rfl⟩|⟨g,cap,cur,rfl,_,_,hnc,_⟩
  ·exact ⟨_,w,qpv t ty e i ht hi none 0 0 (ua3 _) c,by simpa using hown,⟨rfl,rfl,rfl,ua3 _,fun _ _ _=>rfl⟩,.inl rfl⟩
  ·exact ⟨_,w,qpv t ty e i ht hi _ n cap hnc c,by simpa using hown,⟨rfl,rfl,rfl,ua3 _,fun _ _ _=>rfl⟩,.inl rfl⟩
 |some ad=>
  obtain ⟨v',w',e1,e2,e3,_,e5⟩:=run_append_own_at (P:=P) w B t ty e i z size i.bytes ht hi hz hsize rfl hzs hsz s n xs hown ad k c news hl (hc ad rfl) h1 h63 hbytes hB;exact ⟨v',w',e1,e2,e3,e5⟩
theorem zne (t ty e:TypeId) (i:TypeInfo) (z:Value) (size:Nat) (ht:P.underlying t=some (.slice e)) (hi:P.info? e=some i) (hz:i.zero=some z) (hsize:i.size=size) (hzs:z.cells.size=size)
  (S:Option Addr) (n:Nat) (xs:List Value) (hS:S=none->n=0) (hxl:xs.length=n*size) (hxc:∀ ad,S=some ad->∀ (j:Nat) u,xs[j]? = some u->w.cell? (ad.add j)=some u)
  (A:Option Addr) (k c:Nat) (news:List Value) (hk:0<k) (hA:A=none->k=0) (hl:news.length=k*size)
  (hc:∀ ad,A=some ad->∀ (j:Nat) u,news[j]? = some u->w.cell? (ad.add j)=some u) (h63:n+k<=maxLen) (hbytes:(n+k)*i.bytes<=140737488355328) (hB:B<=w.heap.size) :
  ∃ v' w',(Builtin.append_ #[t,t] ty #[.slice S n n,.slice A k c]).run P w = .ok v' w'/\w'.ownsRow B e size v' (n+k) (xs++news)/\w.grownBy w' none/\v'.ownBlock=some w.heap.size:=by
 subst hsize;obtain ⟨ad,rfl⟩:∃ ad,A=some ad:=by
  cases A with
  |none=>have:=hA rfl; omega
  |some ad=>exact ⟨ad,rfl⟩
 have hlen:(xs++news).length=(n+k)*i.size:=by rw [uas,hxl,hl,ucs]
 have hge:=uef w (n+k) n e;have hcm:grownCap w (n+k) n e<=maxLen:=ueg w (n+k) n e h63;have hmax:((n+k:Nat):Int)<=9223372036854775807:=by simp only [maxLen] at h63; omega
 have grown:(w.drew.alloc (.cells (xs.toArray++news.toArray++Builtin.zeroCells z.cells (grownCap w (n+k) n e-(n+k))) e)).ownsRow B e i.size (.slice (some ⟨w.heap.size,0,none⟩) (n+k) (grownCap w (n+k) n e)) (n+k) (xs++news):=by
  refine ⟨hlen,.inr ⟨w.heap.size,_,_,rfl,hB,ud6 w.drew _,hge,hcm,?_,?_⟩⟩
  ·simp only [udz,ub5,ueh,hzs,hxl,hl,← ucs];congr 1;omega
  ·simp only [udk,ubf];rw [← ubf,← hlen];exact List.take_left
 have hgb:w.grownBy (w.drew.alloc (.cells (xs.toArray++news.toArray++Builtin.zeroCells z.cells (grownCap w (n+k) n e-(n+k))) e)) none:=⟨rfl,rfl,rfl,by simp,fun b hb _=>ufu w.drew _ b hb⟩;cases S with
 |none=>
  have hn:=hS rfl;subst hn;have hx:xs=[]:=ucr (by simpa using hxl);subst hx;have hr:=run_append_nil (P:=P) w t ty e i z ht hi hz ad k c news hl (hc ad rfl) hk (by simpa using hmax) (by have hb:=hbytes; simp only [uai] at hb; omega);simp only [uai,uav,Array.empty_append] at grown hgb ⊢;exact ⟨_,_,hr,grown,hgb,rfl⟩
 |some sd=>
  have hr:=run_append_grow (P:=P) w t ty e i z ht hi hz sd n n xs hxl (hxc sd rfl) ad k c news hl (hc ad rfl) (by omega) hmax (uex (by omega) hbytes);exact ⟨_,_,hr,grown,hgb,rfl⟩
theorem qnq {t:TypeId} {size n:Nat} {s:Value} {xs:List Value} (h:w.ownsRow B t size s n xs):s.oneCell'=true:=by
 rcases h.2 with ⟨rfl,_⟩|⟨g,cap,cur,rfl,_⟩<;>rfl
theorem zh8 {d:Nat} {t ty:TypeId} {s x:AV} {e:Eff} {vs vx:Value} (hm:MemOK P B w F γ M) (hb:∀ b,F b->b<w.heap.size) (hB:B<=w.heap.size) (hsub:∀ i y,m i=some y->M i=some y) (hd:m d=none->M d=none)
  (h:zck P d t s x m=some e) (hn:qr e.need) (hs:qz P w F (qp M γ) s vs) (hx:qz P w F (qp M γ) x vx) :
  ∃ u w' γ',(Builtin.append_ #[t,t] ty #[vs,vx]).run P w = .ok u w'/\Step B w F γ M w' F γ' (qx M e.wr)/\MemOK P B w' F γ' (qx M e.wr)/\qz P w' F (qp (qx M e.wr) γ') e.v u:=by
 unfold zck at h;split at h<;>try trivial
 rename_i el ht;split at h<;>try trivial
 rename_i i tt hi htt hmd;have hMd:=hd hmd;split at h<;>try trivial
 rename_i hsz;obtain ⟨hsz1,hsz2,hsz3⟩:=hsz;obtain ⟨z,hz,hzs⟩:∃ z,i.zero=some z/\z.cells.size=tt.size:=by
  cases hz:i.zero with
  |none=>simp [hz] at hsz3
  |some z=>exact ⟨z,rfl,by simpa [hz] using hsz3⟩
 split at h<;>try trivial
 rename_i new hnew;obtain ⟨A,cap,news,hvx,hlc,hA,hnl,hnr,hncell⟩:∃ A cap news,vx = .slice A new.length cap/\new.length<=cap/\(A=none->new=[])/\news.length=new.length*tt.size/\yq w F tt new news/\∀ ad,A=some ad->∀ (j:Nat) u,news[j]? = some u->w.cell? (ad.add j)=some u:=by
  split at hnew<;>try trivial
  ·cases hnew;obtain ⟨_,rfl⟩:=hx;exact ⟨none,0,[],rfl,ua3 _,fun _=>rfl,by simp,fun i x hi=>by simp at hi,fun ad he=>by cases he⟩
  ·split at hnew<;>try trivial
   rename_i u l hl;split at hnew<;>try trivial
   rename_i hu;subst hu;cases hnew;exact qvb hm hsub hl hx.2
 subst hvx;have hA':A=none->new.length=0:=fun h=>by rw [hA h]; rfl
 have hone:=qgo hnr hnl;split at h<;>try trivial
 ·
  cases h;obtain ⟨_,rfl⟩:=hs;obtain ⟨v',w',e1,e2,e3,e4⟩:=qcp (w:=w) (B:=B) t ty el i z tt.size ht hi hz hsz1 hzs hsz2 (.slice none 0 0) 0 [] (ucz w B el tt.size) A new.length cap news hA' hnl hncell hone (by have:=hn.1; omega) (by have:=hn.2; simpa using this) hB;rw [uai,uav] at e2;obtain ⟨s1,s2⟩:=qnp (v:=v') (l:=new) hm hb hB hMd e3 e2 (fun g hg=>by rcases e4 with h|h<;>rw [h] at hg<;>simp [Value.ownBlock] at hg; omega) (hnr.mono (fun _ h=>h) (fun b hb'=>e3.block b (hb b hb') (by simp [Value.ownBlock])));exact ⟨v',w',_,e1,s1,s2,qfq (qnq e2)⟩
 ·
  rename_i id;split at h<;>try trivial
  rename_i e' u l hid;split at h<;>try trivial
  rename_i hu;subst hu;split at h<;>try trivial
  rename_i he';obtain ⟨rfl,_⟩:=he';cases h;have hcast:kw (rfl:u=u) l=l:=rfl;rw [hcast] at hn ⊢;have hv:=qen (hsub _ _ hid) (by simp) hs.2;subst hv;obtain ⟨xs,q1,q2,q3,q4⟩:=hm.ob id _ (hsub _ _ hid);obtain ⟨v',w',e1,e2,e3,e4⟩:=qcp (w:=w) (B:=B) t ty e' i z u.size ht hi hz hsz1 hzs hsz2 (γ id) l.length xs q1 A new.length cap news hA' hnl hncell hone hn.1 hn.2 hB;have hFb:∀ b,F b->w'.heap[b]? = w.heap[b]? := fun b hb'=>e3.block b (hb b hb') (fun he=>q2 b he.symm hb');rw [← uas] at e2;obtain ⟨s1,s2⟩:=qpp (v:=v') (l:=l++new) hm hb hB (hsub _ _ hid) hMd e3 e2 (e4.elim .inl (fun h=>.inr (.inl h))) ((q3.append q1.1 hnr).mono (fun _ h=>h) hFb);exact ⟨v',w',_,e1,s1,s2,qfq (qnq e2)⟩
 ·
  rename_i u l;split at h<;>try trivial
  rename_i hu;subst hu;cases h;have hcast:kw (rfl:u=u) l=l:=rfl;rw [hcast] at hn ⊢;obtain ⟨_,S,hvs,hrs⟩:=hs;obtain ⟨S',c',xs,hv,_,hS,hxl,hxr,hxc⟩:=qm7 hrs;rw [hvs] at hv;cases hv;subst hvs;obtain ⟨v',w',e1,e2,e3,e4⟩:=zne (w:=w) (B:=B) t ty el i z u.size ht hi hz hsz1 hzs S l.length xs (fun h=>by rw [hS h]; rfl) hxl hxc A new.length cap news hn.1 hA' hnl hncell hn.2.1 hn.2.2 hB;rw [← uas] at e2;obtain ⟨s1,s2⟩:=qnp (v:=v') (l:=l++new) hm hb hB hMd e3 e2 (fun g hg=>by rw [e4] at hg; simp at hg; omega) ((hxr.append hxl hnr).mono (fun _ h=>h) (fun b hb'=>e3.block b (hb b hb') (by simp)));exact ⟨v',w',_,e1,s1,s2,qfq (qnq e2)⟩
end
end Go.Ab

namespace Go.Ab
open Go Go.RowKit
section
variable {P:Program} {B:Nat} {o:Oper} {a:Act} {w w':World} {F F':Nat->Prop} {γ γ':Nat->Value} {M m:Mem} {R:Nat->Value->Prop}
def ym (arr:Array Value) (off:Nat) (vs:List Value):Array Value:=(arr.toList.take off++vs++arr.toList.drop (off+vs.length)).toArray
theorem qjp {arr:Array Value} {off:Nat} {vs:List Value} (h:off+vs.length<=arr.size):(ym arr off vs).size=arr.size:=by
 simp [ym];omega
theorem qm9 {arr:Array Value} {off:Nat} {vs:List Value} (h:off+vs.length<=arr.size) {j:Nat} (hj:j<vs.length):(ym arr off vs)[off+j]? = vs[j]? := by
 simp only [ym,ugn];rw [uc3 (by simp; omega),ubr (by simp; omega)];congr 1;simp;omega
theorem qfp {arr:Array Value} {off:Nat} {vs:List Value} (h:off+vs.length<=arr.size) {j:Nat} (hj:j<off∨off+vs.length<=j):(ym arr off vs)[j]? = arr[j]? := by
 simp only [ym,ugn];rcases hj with hj|hj
 ·rw [uc3 (by simp; omega),uc3 (by simp; omega),uap,if_pos hj];simp
 ·rw [ubr (by simp; omega),ubd];simp only [uas,uae,uad];rw [show off+vs.length+(j-(min off arr.size+vs.length))=j from by omega];simp
theorem qvu {t ty:TypeId} {ti:TypeInfo} {b off:Nat} {arr:Array Value} {v:Value} (hg:w.heap[b]? = some (.cells arr ty (0,0))) (hi:P.info? t=some ti) (hn:v.cells.size=P.cellsOf t) (hl:off+v.cells.size<=arr.size)
  (h1:∀ u∈v.cells,u.oneCell'=true):(Instr.storeAt t (.pointer (some ⟨b,off,none⟩)) v).run P w = .ok () (w.setRow b (ym arr off v.cells.toList)):=by
 have:=run_storeCells_at (P:=P) b off ty v.cells.toList 0 arr w hg (by simpa using hl) (fun u hu=>h1 u (ued.1 hu));simp only [udl] at this;simp [Instr.storeAt,Instr.sureAddr,storeVar,ke hi,hn,this,ym]
theorem zms {b:Nat} {arr:Array Value} {m':Mem} (hb:∀ b,F b->b<w.heap.size) (hF:¬ F b) (hB:B<=b) (hR:∀ i v,qp M γ i v->qp m' γ i v):Step B w F γ M (w.setRow b arr) F γ m':=
 ⟨fun _ h=>h,fun c h=>uaw w b c _ (fun e=>hF (e ▸ h)),hR,fun c h=>uaw w b c _ (by omega),rfl,rfl,rfl,by simp,fun c h=>by have:=hb c h; simpa using this,fun c h=>.inl h⟩
theorem qix {id off:Nat} {e:TypeId} {cs cs':List AC} {b:Nat} {arr:Array Value} {vs:List Value} (hm:MemOK P B w F γ M) (hb:∀ b,F b->b<w.heap.size) (hM:M id=some (.box e cs)) (hγ:γ id = .pointer (some ⟨b,0,none⟩))
  (hg:w.heap[b]? = some (.cells arr e (0,0))) (hF:¬ F b) (hB:B<=b) (hl:off+vs.length<=arr.size) (hs:arr.size=cs'.length) (hr:qu P w F (qp M γ) cs' (fun j u=>(ym arr off vs)[j]? = some u)) :
  Step B w F γ M (w.setRow b (ym arr off vs)) F γ (upd M id (.box e cs'))/\MemOK P B (w.setRow b (ym arr off vs)) F γ (upd M id (.box e cs')):=by
 have hst:Step B w F γ M (w.setRow b (ym arr off vs)) F γ (upd M id (.box e cs')):=zms hb hF hB (qey hM (by simp));refine ⟨hst,hm.change hM (by simp) hst.hF hst.hw (fun c h=>by rw [hγ] at h ⊢; exact h) (fun c _ hne=>⟨uaw w b c _ (fun e'=>hne (by rw [hγ]; simp [exB,e'])),fun h=>h⟩) ?_⟩;exact ⟨b,_,hγ,uba w b arr _ e (0,0) hg,hF,hB,by rw [qjp hl]; exact hs,hst.repCL hr⟩
theorem zon {id:Nat} {v:Value} {ob:Ob} (hM:M id=some ob) (hg:ob ≠ .gone) (h:qp M γ id v):v=γ id:=by
 unfold qp at h;rw [hM] at h;cases ob<;>simp_all
theorem zfo {id:Nat}:{cs xs:List AC} -> {u:List (Nat×Ob)}->rsL m cs=some (xs,u)->(cs.flatMap qqk).all (· != id)=true->∀ M:Mem,qx M u id=M id
 |[],xs,u,h,_,M=>by
  simp only [rsL,ua0,ua9] at h;obtain ⟨rfl,rfl⟩:=h;rfl
 |c::r,xs,u,h,hn,M=>by
  simp only [rsL] at h;split at h
  ·rename_i x u1 y u2 h1 h2;cases h;have hn':(qqk c).all (· != id)=true/\(r.flatMap qqk).all (· != id)=true:=by
    simpa [uey,ufv] using hn
   rw [yz,zfo h2 hn'.2];unfold rsC at h1;split at h1
   ·rename_i i;have hi:i≠id:=by
     have:=hn'.1;simpa [qqk] using this
    split at h1<;>try trivial
    ·simp only [ua0,ua9] at h1;obtain ⟨_,rfl⟩:=h1;simp only [qx];exact yp _ _ (Ne.symm hi)
    ·simp only [ua0,ua9] at h1;obtain ⟨_,rfl⟩:=h1;rfl
   ·simp only [ua0,ua9] at h1;obtain ⟨_,rfl⟩:=h1;rfl
  ·cases h
theorem zor {t:TypeId} {x v:AV} {e:Eff} {vx vv:Value} (hm:MemOK P B w F γ M) (hb:∀ b,F b->b<w.heap.size) (hsub:∀ i y,m i=some y->M i=some y)
  (h:zmt P t x v m=some e) (hn:qr e.need) (hx:qz P w F (qp M γ) x vx) (hv:qz P w F (qp M γ) v vv) :
  e.v = .dead/\∃ w' F',(Instr.storeAt t vx vv).run P w = .ok () w'/\Step B w F γ M w' F' γ (qx M e.wr)/\MemOK P B w' F' γ (qx M e.wr):=by
 unfold zmt at h;split at h<;>try trivial
 rename_i new hnew;obtain ⟨c1,c2,c3⟩:=qgy hnew hv;split at h<;>try trivial
 rename_i hi;obtain ⟨ti,hti⟩:=ub8.1 hi.1;have hsz:vv.cells.size=P.cellsOf t:=by omega
 split at h<;>try trivial
 ·
  rename_i id off;split at h<;>try trivial
  rename_i ety cs hid;split at h<;>try trivial
  rename_i cs' hput;cases h;obtain ⟨b,arr,e1,rfl,e3,e4,e5,e6,e7⟩:=qi8 hm (hsub _ _ hid) hx.2;have hl:off+vv.cells.toList.length<=arr.size:=by
   unfold qna at hput;split at hput
   ·simp; omega
   ·cases hput
  obtain ⟨p1,p2⟩:=qpr (g':=fun j u=>(ym arr off vv.cells.toList)[j]? = some u) hput e7 (c2.turn fun j u hj hu=>by
    rw [qm9 hl (by simp; omega)]; simpa using hu) (fun j u hj hu=>by
    rw [qfp hl (by simp; omega)]; exact hu)
  obtain ⟨s1,s2⟩:=qix hm hb (hsub _ _ hid) e1 e3 e4 e5 hl (by omega) p2;exact ⟨rfl,_,F,qvu e3 hti hsz (by simpa using hl) c3,s1,s2⟩
 ·
  rename_i id sz i off;split at h<;>try trivial
  rename_i ety tt l new' u hid hrs;split at h<;>try trivial
  rename_i hc;obtain ⟨hsz',hno⟩:=hc;split at h<;>try trivial
  rename_i row hput;split at h<;>try trivial
  rename_i y hdec;cases h;have hil:i<l.length:=hn;obtain ⟨F1,s1,m1,t1,l1,r1⟩:=ql7 hm hb (qa6.of hsub) hrs c2;have hM1:qx M u id=some (.arr ety tt l):=by rw [zfo hrs hno]; exact hsub _ _ hid
  obtain ⟨b,c,arr,e1,e2,e3,e4,e5,e6⟩:=qyf m1 hM1 hil;obtain ⟨A,n0,c0,f1,rfl⟩:=hx;have f2:=zon (hsub _ _ hid) (by simp) f1;rw [e1] at f2;simp only [uez,ua0] at f2;obtain ⟨rfl,rfl,rfl⟩:=f2;subst hsz';have hlr:off+new'.length<=tt.size:=by
   unfold qna at hput;split at hput
   ·rename_i hle;rw [qcq] at hle;exact hle
   ·cases hput
  have hnl:vv.cells.toList.length=new'.length:=by rw [l1]; simpa using c1
  have hlen:i*tt.size+off+vv.cells.toList.length<=arr.size:=by
   rw [uay] at e5;omega
  obtain ⟨p1,p2⟩:=qpr (g':=fun j u=>(ym arr (i*tt.size+off) vv.cells.toList)[i*tt.size+j]? = some u) hput e6
   (r1.turn fun j u hj hu=>by rw [← uc4,qm9 hlen (by omega)]; simpa using hu)
   (fun j u hj hu=>by rw [qfp hlen (by omega)]; exact hu)
  obtain ⟨q1,_⟩:=qs.dec tt hdec p2;have hst:Step B w F1 γ (qx M u) (w.setRow b (ym arr (i*tt.size+off) vv.cells.toList)) F1 γ (upd (qx M u) id (.arr ety tt (l.set i y))):=zms s1.bd e3 e4 (qey hM1 (by simp));have hmm:MemOK P B (w.setRow b (ym arr (i*tt.size+off) vv.cells.toList)) F1 γ (upd (qx M u) id (.arr ety tt (l.set i y))):=by
   refine m1.change hM1 (by simp) hst.hF hst.hw (fun c h=>h) (fun c _ hne=>⟨uaw w b c _ (fun e'=>hne (by rw [e1]; simp [exB,Value.ownBlock,e'])),fun h=>h⟩) ?_;obtain ⟨xs,hown,hnF,hrows,hone⟩:=m1.ob id _ hM1;obtain ⟨hxl,hn'|⟨g,cap,cur,hv',hbg,hg,hnc,hcm,hcs,ht⟩⟩:=hown
   ·omega
   ·rw [e1] at hv';simp only [uez,ua0,ue0,ud7,true_and] at hv';obtain ⟨rfl,rfl⟩:=hv';rw [e2] at hg;simp only [ua0,Obj.cells.injEq,ud7] at hg;subst hg;have hrowsN:yq w F1 tt (l.set i y) ((ym arr (i*tt.size+off) vv.cells.toList).toList.take (l.length*tt.size)):=by
     intro k x hk;have hkl:k<l.length:=by simpa using (uaj.1 hk).1
     have hkb:k*tt.size+tt.size<=l.length*tt.size:=by rw [← uay]; exact uam _ hkl
     rcases udm k i with h1|h1|h1
     ·rw [ue1 (by omega)] at hk;have hki:k*tt.size+tt.size<=i*tt.size:=by rw [← uay]; exact uam _ h1
      refine (hrows k x hk).mono (fun _ h=>h) (fun _ _=>rfl) fun j u hj hu=>?_;rw [uap,if_pos (by omega),uei,qfp hlen (by omega)];rw [← ht,uap,if_pos (by omega)] at hu;simpa using hu
     ·subst h1;rw [uf0 hkl] at hk;cases hk;refine q1.mono (fun _ h=>h) (fun _ _=>rfl) fun j u hj hu=>?_;rw [uap,if_pos (by omega),uei];exact hu
     ·rw [ue1 (by omega)] at hk;have hki:i*tt.size+tt.size<=k*tt.size:=by rw [← uay]; exact uam _ h1
      refine (hrows k x hk).mono (fun _ h=>h) (fun _ _=>rfl) fun j u hj hu=>?_;rw [uap,if_pos (by omega),uei,qfp hlen (by omega)];rw [← ht,uap,if_pos (by omega)] at hu;simpa using hu
    have hlc:l.length*tt.size<=arr.size:=by rw [hcs]; exact uam _ hnc
    have hxl':((ym arr (i*tt.size+off) vv.cells.toList).toList.take (l.length*tt.size)).length=(l.set i y).length*tt.size:=by
     have h8:(ym arr (i*tt.size+off) vv.cells.toList).toList.length=arr.size:=by simpa using qjp hlen
     rw [uae,h8,uct];omega
    refine ⟨_,⟨hxl',.inr ⟨b,_,_,by rw [e1,uct],hbg,uba w b arr _ ety (0,0) e2,by rw [uct]; exact hnc,hcm,by rw [qjp hlen]; exact hcs,by rw [uct]⟩⟩,hnF,hrowsN.mono hst.hF hst.hw,qgo hrowsN hxl'⟩
  have hrun:=qvu (P:=P) (off:=i*tt.size+off) e2 hti hsz (by simpa using hlen) c3;refine ⟨rfl,_,F1,by rw [qbf,uai]; exact hrun,?_,?_⟩
  ·rw [yz];exact s1.trans hst
  ·rw [yz];exact hmm
 ·
  rename_i id off n i;split at h<;>try trivial
  rename_i ety cs k y hid;split at h<;>try trivial
  rename_i seg hseg;split at h<;>try trivial
  rename_i ns hns;split at h<;>try trivial
  rename_i cs' hput;cases h;obtain ⟨ad,a1,a2,a3,rfl⟩:=hx;obtain ⟨b,arr,e1,e2,e3,e4,e5,e6,e7⟩:=qi8 hm (hsub _ _ hid) a1;simp only [ucx,ua0] at e2;subst e2;obtain ⟨u,hcells,hu2⟩:∃ u,vv.cells = #[u]/\(u = .int k y/\inR k y):=by
   obtain ⟨⟨u,g1,_,g3⟩,_⟩:=c2;have:vv.cells.size=1:=by simpa using c1
   refine ⟨u,?_,g3⟩;apply ud8
   ·simpa using this
   ·intro j hj1 hj2;have:j=0:=by simp at hj2; exact hj2
    subst this;have:=(uaa.1 g1).2;simpa using this
  obtain ⟨hu2,hy⟩:=hu2;subst hu2;have hseq:=qpl hns;obtain ⟨g1,g2⟩:=qir hseg e7;have hsb:off+n<=cs.length:=by
   unfold qe6 at hseg;split at hseg
   ·assumption
   ·cases hseg
  have hl:off+i.toNat+vv.cells.toList.length<=arr.size:=by rw [hcells]; simp; omega
  have hnsl:ns.length=n:=by rw [hseq] at g1; simpa using g1
  have hset:∀ (ns:List Int) (j0:Nat),(qvz ns j0 i y).length=ns.length/\∀ j,(qvz ns j0 i y)[j]? = if i=((j0+j:Nat):Int)/\j<ns.length then some y else ns[j]? := by
   intro ns
   induction ns with
   |nil=>intro j0; exact ⟨rfl,fun j=>by simp [qvz]⟩
   |cons q r ih=>
    intro j0;obtain ⟨i1,i2⟩:=ih (j0+1);refine ⟨by simp [qvz,i1],fun j=>?_⟩;cases j with
    |zero=>
     simp only [qvz,ubn,udl,uaf];by_cases hq:i=(j0:Int)
     ·rw [if_pos ⟨hq,by omega⟩]; simp [hq]
     ·rw [if_neg (by omega)];have:(i==(j0:Int))=false:=by simpa using hq
      simp [this]
    |succ j=>
     simp only [qvz,udy,uaf];rw [i2];by_cases hq:i=((j0+1+j:Nat):Int)/\j<r.length
     ·rw [if_pos hq,if_pos ⟨by rw [hq.1]; congr 1; omega,by omega⟩]
     ·rw [if_neg hq,if_neg (fun hh=>hq ⟨by rw [hh.1]; congr 1; omega,by omega⟩)]
  obtain ⟨z1,z2⟩:=hset ns 0;obtain ⟨p1,p2⟩:=qpr (g':=fun j u=>(ym arr (off+i.toNat) vv.cells.toList)[j]? = some u) hput e7
   (qu.of_at _ fun j c hc=>by
    rw [udi,z2] at hc;by_cases hj:i=((0+j:Nat):Int)/\j<ns.length
    ·rw [if_pos hj] at hc;simp only [udj,ua0] at hc;subst hc;refine ⟨.int k y,?_,rfl,rfl,hy⟩;have hij:i.toNat=j:=by omega
     have:=qm9 hl (j:=0) (by rw [hcells]; simp);rw [hij,udl] at this;rw [hij,this,hcells];rfl
    ·rw [if_neg hj] at hc;have hcs:seg[j]? = some c:=by rw [hseq,udi]; exact hc
     obtain ⟨u,d1,d2⟩:=g2.at_ hcs;have hjn:j<n:=by
      have:=(uaj.1 hcs).1;omega
     refine ⟨u,?_,d2⟩;rw [qfp hl (by rw [hcells]; simp; omega)];exact d1)
   (fun j u hj hu=>by
    rw [qfp hl (by rw [hcells]; simp [z1] at hj ⊢; omega)];exact hu)
  obtain ⟨s1,s2⟩:=qix hm hb (hsub _ _ hid) e1 e3 e4 e5 hl (by omega) p2;exact ⟨rfl,_,F,by rw [qbf]; exact qvu e3 hti hsz (by simpa using hl) c3,s1,s2⟩
end
end Go.Ab

namespace Go.Ab
open Go Go.RowKit
section
variable {P:Program} {B:Nat} {o:Oper} {a:Act} {w w':World} {F F':Nat->Prop} {γ γ':Nat->Value} {M m:Mem} {R:Nat->Value->Prop} {Γ:Gm}
theorem ztu {d:Nat} {t:TypeId} {n c:Int} {kn kc:IntKind} {e:Eff} (hm:MemOK P B w F γ M) (hb:∀ b,F b->b<w.heap.size) (hB:B<=w.heap.size) (hd:m d=none->M d=none)
  (h:ztt P d t n c m=some e) (hn:qr e.need) :
  ∃ u w' γ',(Instr.makeSlice t (.int kn n) (.int kc c)).run P w = .ok u w'/\Step B w F γ M w' F γ' (qx M e.wr)/\MemOK P B w' F γ' (qx M e.wr)/\qz P w' F (qp (qx M e.wr) γ') e.v u:=by
 unfold ztt at h;split at h<;>try trivial
 rename_i el ht;split at h<;>try trivial
 rename_i i tt hi htt hmd;split at h<;>try trivial
 rename_i z hz;split at h<;>try trivial
 rename_i cs hcs;split at h<;>try trivial
 rename_i x hdec;split at h<;>try trivial
 rename_i hsz;obtain ⟨hs1,hs2,hs3⟩:=hsz;cases h;obtain ⟨n1,n2,n3,n4⟩:=hn;obtain ⟨z1,z2,_⟩:=qgy hcs (qr2 (P:=P) (w:=w) (F:=F) (R:=qp M γ) z);obtain ⟨r1,_⟩:=qs.dec tt hdec z2;have hr:=run_make (P:=P) w t el i z ht hi hz kn kc n c n1 n2 (by rw [ufw]; omega) (by simp only [maxLen] at n3; omega);have hcn:c.toNat<=maxLen:=by omega
 have hcell:∀ k,k<c.toNat*i.size->(madeCells z.cells (c.toNat*i.size))[k]? = z.cells[k%z.cells.size]? := by
  intro k hk;have hpos:0<z.cells.size:=by omega
  have hlt:=Nat.mod_lt k hpos;have hg:z.cells[k%z.cells.size]! = z.cells[k%z.cells.size]:=by simp [hlt]
  simp [madeCells,hk,ubg hlt,hg]
 have hrows:yq (w.alloc (.cells (madeCells z.cells (c.toNat*i.size)) el)) F tt (List.replicate n.toNat x) ((madeCells z.cells (c.toNat*i.size)).toList.take (n.toNat*tt.size)):=by
  intro k y hk;have hkn:k<n.toNat:=by simpa using (uaj.1 hk).1
  have hy:y=x:=by
   have:=(uaj.1 hk).2;simpa using this.symm
  subst hy;have hkb:k*tt.size+tt.size<=n.toNat*tt.size:=by rw [← uay]; exact uam _ hkn
  have hnc:n.toNat*tt.size<=c.toNat*i.size:=by rw [hs1]; exact uam _ (by omega)
  refine r1.mono (fun _ h=>h) (fun b hb'=>uaq _ _ _ (hb b hb')) fun j u hj hu=>?_;rw [uap,if_pos (by omega),uei,hcell _ (by omega),hs2];rw [show (k*tt.size+j)%tt.size=j from by rw [ud5,Nat.mul_add_mod]; exact Nat.mod_eq_of_lt hj];exact hu
 have hlen:(List.replicate n.toNat x).length=n.toNat:=by simp
 obtain ⟨s1,s2⟩:=qnp (w':=w.alloc (.cells (madeCells z.cells (c.toNat*i.size)) el)) (v:=.slice (some ⟨w.heap.size,0,none⟩) n.toNat c.toNat) (ety:=el) (l:=List.replicate n.toNat x) hm hb hB (hd hmd)
  (ufx w _ none)
  ⟨by
    rw [uae,uad,size_madeCells,hlen];have:n.toNat*tt.size<=c.toNat*i.size:=by rw [hs1]; exact uam _ (by omega)
    omega,
   .inr ⟨w.heap.size,c.toNat,_,by rw [hlen],hB,ud6 w _,by rw [hlen]; omega,hcn,by rw [size_madeCells,hs1],by rw [hlen]⟩⟩
  (fun g hg=>by simp [Value.ownBlock] at hg; omega) hrows
 exact ⟨_,_,_,hr,s1,s2,qfq rfl⟩
theorem zeo {sz:Nat} {t:Ty} (hsz:t.size=sz):{vs:List (Nat×AV)} -> {ps:List (Nat×Value)} -> {l:List t.den} -> {k:Nat} -> {arr:Array Value}->qnb t k vs=some l->ps.length=vs.length ->
  (∀ (q i:Nat) (x:AV) (v:Nat×Value),vs[q]? = some (i,x)->ps[q]? = some v->v.1=i/\qz P w F R x v.2)->(k+vs.length)*sz<=arr.size ->
  l.length=vs.length/\∃ arr',Instr.fill (fun i=>some (i*sz,sz)) arr ps=some arr'/\arr'.size=arr.size/\(∀ j,j<k*sz->arr'[j]? = arr[j]?) /\
   ∀ (i:Nat) (x:t.den),l[i]? = some x->qs w F t x (fun j u=>arr'[(k+i)*sz+j]? = some u)
 |[],[],l,k,arr,h,_,_,_=>by
  simp only [qnb,ua0] at h;subst h;exact ⟨rfl,arr,rfl,rfl,fun _ _=>rfl,fun i x hi=>by simp at hi⟩
 |(i,x)::r,(i',v)::ps,l,k,arr,h,hl,hp,hb=>by
  obtain ⟨rfl,hv⟩:=hp 0 i x (i',v) rfl rfl;simp only at hv;simp only [qnb] at h;split at h<;>try trivial
  rename_i hik;split at h<;>try trivial
  rename_i y l' hy hl';cases h;have hrep:=qsd hy hv;obtain ⟨e1,e2,e3⟩:=hrep;have hbk:k*sz+sz<=arr.size:=by
   have h1:(k+1)*sz<=(k+(r.length+1))*sz:=uam _ (by omega);rw [uay] at h1;simp only [uaf] at hb;omega
  obtain ⟨f1,f2⟩:=zj9 v.cells.toList (k*sz) 0 arr;have hz:v.cells.zipIdx.foldl (fun cs (x:Value×Nat)=>cs.setIfInBounds (k*sz+x.2) x.1) arr=(v.cells.toList.zipIdx 0).foldl (fun cs (x:Value×Nat)=>cs.setIfInBounds (k*sz+x.2) x.1) arr:=by
   rw [← Array.foldl_toList,Array.toList_zipIdx]
  obtain ⟨g1,arr',g2,g3,g4,g5⟩:=zeo hsz (k:=k+1) (arr:=(v.cells.toList.zipIdx 0).foldl (fun cs (x:Value×Nat)=>cs.setIfInBounds (k*sz+x.2) x.1) arr) (ps:=ps) hl' (by simpa using hl)
   (fun q i x v h1 h2=>hp (q+1) i x v (by simpa using h1) (by simpa using h2)) (by rw [f1]; simp only [uaf] at hb; rw [show k+1+r.length=k+(r.length+1) from by omega]; exact hb)
  refine ⟨by simp [g1],arr',?_,by rw [g3,f1],fun j hj=>?_,fun q z hq=>?_⟩
  ·subst hik;simp only [Instr.fill];rw [if_neg (by simp; omega),← g2];congr 1
  ·rw [g4 j (by rw [uay]; omega),f2,if_neg (by omega)]
  ·cases q with
   |zero=>
    simp only [ubn,ua0] at hq;subst hq;refine e3.mono (fun _ h=>h) (fun _ _=>rfl) fun j u hj hu=>?_;rw [udl,g4 _ (by rw [uay]; omega),f2,if_pos (by simp; omega)];rw [show k*sz+j-(k*sz+0)=j from by omega];simpa using hu
   |succ q=>
    have:=g5 q z (by simpa using hq);rw [show k+1+q=k+(q+1) from by omega] at this;exact this
 |[],_::_,_,_,_,_,hl,_,_=>by simp at hl
 |_::_,[],_,_,_,_,hl,_,_=>by simp at hl
theorem qyj {t el:TypeId} {n:Nat} {i:TypeInfo} {z:Value} {tt:Ty} {d:Nat} {vs:List (Nat×AV)} {ps:Array (Nat×Value)} {l:List tt.den} (hm:MemOK P B w F γ M) (hb:∀ b,F b->b<w.heap.size) (hB:B<=w.heap.size) (hd:M d=none)
  (ht:P.underlying t=some (.slice el)) (hi:P.info? el=some i) (hz:i.zero=some z) (hs:i.size=tt.size) (hzs:z.cells.size=tt.size) (hpos:0<tt.size) (hbig:n*i.size<=16777216) (h:qnb tt 0 vs=some l) (hl:l.length=n)
  (hps:ps.size=vs.length) (hp:∀ (q i:Nat) (x:AV) (v:Nat×Value),vs[q]? = some (i,x)->ps[q]? = some v->v.1=i/\qz P w F (qp M γ) x v.2) :
  ∃ u w' γ',(Instr.buildSlice t n ps).run P w = .ok u w'/\Step B w F γ M w' F γ' (upd M d (.arr el tt l))/\MemOK P B w' F γ' (upd M d (.arr el tt l))/\qz P w' F (qp (upd M d (.arr el tt l)) γ') (.c (.own d)) u:=by
 have hlen0:vs.length=n:=by
  have:∀ (vs:List (Nat×AV)) (k:Nat) (l:List tt.den),qnb tt k vs=some l->l.length=vs.length:=by
   intro vs
   induction vs with
   |nil=>intro k l h; simp only [qnb,ua0] at h; subst h; rfl
   |cons x r ih=>
    intro k l h;obtain ⟨i,x⟩:=x;simp only [qnb] at h;split at h<;>try trivial
    split at h<;>try trivial
    rename_i h2;cases h;simp [ih _ _ h2]
  rw [← this vs 0 l h,hl]
 have hnn:n<=maxLen:=by
  have:n*1<=n*i.size:=Nat.mul_le_mul_left _ (by omega);simp only [maxLen];omega
 have key:∀ arr0:Array Value,arr0.size=n*i.size->∃ arr',Instr.fill (fun j=>some (j*i.size,i.size)) arr0 ps.toList=some arr'/\arr'.size=n*i.size/\∀ (k:Nat) (x:tt.den),l[k]? = some x->qs w F tt x (fun j u=>arr'[k*i.size+j]? = some u):=by
  intro arr0 h0;obtain ⟨_,arr',g2,g3,_,g5⟩:=zeo (P:=P) (w:=w) (F:=F) (R:=qp M γ) (sz:=i.size) hs.symm (arr:=arr0) (ps:=ps.toList) h (by simpa using hps) (fun q i x v h1 h2=>hp q i x v h1 (by simpa using h2)) (by rw [h0,uai,hlen0]; exact ua3 _);exact ⟨arr',g2,by rw [g3,h0],fun k x hk=>by have:=g5 k x hk; rw [uai] at this; exact this⟩
 have hzv:(zeroValue el).run P w = .ok z w:=by simp [zeroValue,typeInfo,hi,hz]
 have hrun:∃ arr',arr'.size=n*i.size/\(∀ (k:Nat) (x:tt.den),l[k]? = some x->qs w F tt x (fun j u=>arr'[k*i.size+j]? = some u)) /\
   (Instr.buildSlice t n ps).run P w = .ok (.slice (some ⟨w.heap.size,0,none⟩) n n) (w.alloc (.cells arr' el)):=by
  have hci:P.cellsOf el=i.size:=by simp [Program.cellsOf,hi]
  have hbig':¬ (16777216<n*i.size):=by omega
  by_cases hn0:n*i.size=0
  ·obtain ⟨arr',k1,k2,k3⟩:=key ((Array.range 0).map fun _=>default) (by simp [hn0]);refine ⟨arr',k2,k3,?_⟩;simp only [Instr.buildSlice,ub4,uah ht,ubm,ke hi,hci];simp [hn0,k1,newRow,newObj,Sem.run]
  ·obtain ⟨arr',k1,k2,k3⟩:=key ((Array.range (n*i.size)).map (fun j=>z.cells[j%z.cells.size]!)) (by simp);refine ⟨arr',k2,k3,?_⟩;simp only [Instr.buildSlice,ub4,uah ht,ubm,ke hi,hci];simp [ub4,hn0,hbig',hzv,k1,newRow,newObj,Sem.run]
 obtain ⟨arr',k2,k3,hr⟩:=hrun;have hrows:yq (w.alloc (.cells arr' el)) F tt l (arr'.toList.take (l.length*tt.size)):=by
  intro k x hk;have hkl:=(uaj.1 hk).1;have hkb:k*tt.size+tt.size<=l.length*tt.size:=by rw [← uay]; exact uam _ hkl
  refine (k3 k x hk).mono (fun _ h=>h) (fun b hb'=>uaq _ _ _ (hb b hb')) fun j u hj hu=>?_;rw [uap,if_pos (by omega),uei,← hs];exact hu
 obtain ⟨s1,s2⟩:=qnp (w':=w.alloc (.cells arr' el)) (v:=.slice (some ⟨w.heap.size,0,none⟩) n n) (ety:=el) (l:=l) hm hb hB hd (ufx w _ none)
  ⟨by
    have h9:arr'.toList.length=n*tt.size:=by rw [← hs]; simpa using k2
    rw [uae,h9,hl]; exact uf1 _,.inr ⟨w.heap.size,n,_,by rw [hl],hB,ud6 w _,by rw [hl]; exact ua3 _,hnn,by rw [k2,hs],rfl⟩⟩
  (fun g hg=>by simp [Value.ownBlock] at hg; omega) hrows
 exact ⟨_,_,_,hr,s1,s2,qfq rfl⟩
theorem zfs {t:Ty} {l:List t.den} {A:Option Addr} {c lo hi mx:Nat} (hr:qs w F (.sl t) l (fun _ u=>u = .slice A l.length c)) (h1:lo<=hi) (h2:hi<=l.length) (h3:hi<=mx) (h4:mx<=c) :
  qs w F (.sl t) ((l.drop lo).take (hi-lo)) (fun _ u=>u = .slice (if mx=lo then A else A.map (·.add (lo*t.size))) (hi-lo) (mx-lo)):=by
 obtain ⟨A',c',e1,e2,e3,e4⟩:=hr;simp only [uez] at e1;obtain ⟨rfl,_,rfl⟩:=e1;have hlen:((l.drop lo).take (hi-lo)).length=hi-lo:=by simp; omega
 refine ⟨_,mx-lo,by rw [hlen],by rw [hlen]; omega,by omega,fun i x hi'=>?_⟩;have hil:i<hi-lo:=by rw [← hlen]; exact (uaj.1 hi').1
 rw [uap,if_pos hil,ubd] at hi';obtain ⟨ad,rfl,f2,f3⟩:=e4 _ _ hi';refine ⟨ad.add (lo*t.size),by rw [if_neg (by omega)]; rfl,by rw [qf6]; exact f2,f3.mono (fun _ h=>h) (fun _ _=>rfl) fun j u hj hu=>?_⟩;rw [qe2,← hu,ucs,uc4]
theorem qb1 {k:IntKind} {n:Int} {y:Nat} {code:BoundsCode} (h0:0<=n) (h1:n<=y):(Instr.sliceBound (.int k n) y code).run P w = .ok n.toNat w:=by
 simp [Instr.sliceBound,asIntOf,h0,h1]
theorem ydr {bb:Bool} {r r':List AV} {x:Option Int} {vs:List Value} (h:zdn bb r=some (x,r')) (hr:zr P w F R r vs) :
  (bb=false/\x=none/\r'=r)∨(bb=true/\∃ k n v vs',x=some n/\vs=v::vs'/\v = .int k n/\zr P w F R r' vs'):=by
 unfold zdn at h;split at h
 ·simp only [ua0,ua9] at h;exact .inl ⟨rfl,h.1.symm,h.2.symm⟩
 ·cases h;cases vs with
  |nil=>exact hr.elim
  |cons v vs=>exact .inr ⟨rfl,_,_,v,vs,rfl,rfl,hr.1.2.1,hr.2⟩
 ·cases h
theorem zgm {t e:TypeId} {ti:TypeInfo} {tt:Ty} {y:List tt.den} {l h k:Option Int} {kl kh kk:IntKind} {c:AC} {n:List Prop} {A:Option Addr} {cap:Nat} (ht:P.underlying t=some (.slice e)) (he:P.info? e=some ti) (hs:P.cellsOf e=tt.size)
  (hsl:zml tt y l h k=some (c,n)) (hn:qr n) (hr:qs w F (.sl tt) y (fun _ u=>u = .slice A y.length cap)) :
  ∃ u,(Instr.sliceAt t (.slice A y.length cap) (l.map (.int kl)) (h.map (.int kh)) (k.map (.int kk))).run P w = .ok u w/\u.oneCell'=true/\zn P w F R c u:=by
 have hcap:y.length<=cap:=by
  obtain ⟨A',c',e1,e2,_⟩:=hr;simp only [uez] at e1;omega
 have hrun:∀ (lo hi mx:Nat),(Instr.sliceBounds true y.length cap (l.map (.int kl)) (h.map (.int kh)) (k.map (.int kk))).run P w = .ok (lo,hi,mx) w ->
   (Instr.sliceAt t (.slice A y.length cap) (l.map (.int kl)) (h.map (.int kh)) (k.map (.int kk))).run P w = .ok (.slice (if mx=lo then A else A.map (·.add (lo*tt.size))) (hi-lo) (mx-lo)) w:=by
  intro lo hi mx hb;simp [Instr.sliceAt,Instr.slice,uah ht,hb,ke he,hs]
 unfold zml at hsl;split at hsl
 ·cases hsl;obtain ⟨n1,n2,n3⟩:=hn;have hb:(Instr.sliceBounds true y.length cap (l.map (.int kl)) (h.map (.int kh)) ((none:Option Int).map (.int kk))).run P w = .ok ((l.getD 0).toNat,(h.getD y.length).toNat,cap) w:=by
   cases h with
   |none=>
    cases l with
    |none=>simp [Instr.sliceBounds]
    |some lo=>simp at n1 n2 n3; simp [Instr.sliceBounds,qb1 (P:=P) (w:=w) (k:=kl) n1 n2]
   |some hi=>
    have h3:hi<=(cap:Int):=by simp at n3; omega
    have h4:0<=hi:=by simp at n2; omega
    cases l with
    |none=>simp [Instr.sliceBounds,qb1 (P:=P) (w:=w) (k:=kh) (y:=cap) h4 h3]
    |some lo=>
     simp at n1 n2 n3;simp [Instr.sliceBounds,qb1 (P:=P) (w:=w) (k:=kh) (y:=cap) h4 h3,qb1 (P:=P) (w:=w) (k:=kl) (y:=hi.toNat) n1 (by omega)]
  have hrr:=zfs (lo:=(l.getD 0).toNat) (hi:=(h.getD y.length).toNat) (mx:=cap) hr (by omega) (by omega) (by omega) (ua3 _);refine ⟨_,hrun _ _ _ hb,rfl,?_⟩;simp only [zn];rw [show ((h.getD y.length)-(l.getD 0)).toNat=(h.getD y.length).toNat-(l.getD 0).toNat from by omega];exact hrr
 ·rename_i q;split at hsl<;>try trivial
  rename_i hi;cases hsl;obtain ⟨n1,n2,n3,rfl⟩:=hn;have hb:(Instr.sliceBounds true y.length cap (l.map (.int kl)) ((some q).map (.int kh)) ((some q).map (.int kk))).run P w = .ok ((l.getD 0).toNat,q.toNat,q.toNat) w:=by
   have h3:q<=(cap:Int):=by omega
   have h4:0<=q:=by omega
   cases l with
   |none=>simp [Instr.sliceBounds,qb1 (P:=P) (w:=w) (k:=kk) (y:=cap) h4 h3,qb1 (P:=P) (w:=w) (k:=kh) (y:=q.toNat) h4 (by omega)]
   |some lo=>
    simp at n1 n2;simp [Instr.sliceBounds,qb1 (P:=P) (w:=w) (k:=kk) (y:=cap) h4 h3,qb1 (P:=P) (w:=w) (k:=kh) (y:=q.toNat) h4 (by omega),qb1 (P:=P) (w:=w) (k:=kl) (y:=q.toNat) n1 (by omega)]
  have hrr:=zfs (lo:=(l.getD 0).toNat) (hi:=q.toNat) (mx:=q.toNat) hr (by omega) (by omega) (ua3 _) (by omega);refine ⟨_,hrun _ _ _ hb,rfl,?_⟩;have hlen:((y.drop (l.getD 0).toNat).take (q-(l.getD 0)).toNat).length=q.toNat-(l.getD 0).toNat:=by simp; omega
  refine ⟨_,by rw [hlen],?_⟩;rw [show (q-(l.getD 0)).toNat=q.toNat-(l.getD 0).toNat from by omega];exact hrr
theorem qho:{ps:List PT} -> {cs:List AC} -> {x:qn ps} -> {vs:List Value}->qbh ps cs=some x->zr P w F R (cs.map .c) vs->wt P w F ps x vs
 |[],[],_,[],_,_=>rfl
 |.d t::r,a::s,x,v::vs,h,hr=>by
  simp only [qbh] at h;split at h
  ·rename_i y z h1 h2;cases h;exact ⟨v,vs,rfl,qsd h1 hr.1,qho h2 hr.2⟩
  ·cases h
 |.ptr t::r,.sptr cs::s,x,v::vs,h,hr=>by
  simp only [qbh] at h;split at h
  ·rename_i y q z h1 h2;cases h;obtain ⟨_,ad,e1,e2,e3⟩:=hr.1;exact ⟨v,vs,rfl,⟨ad,e1,e2,(qs.dec t h1 e3).1⟩,qho h2 hr.2⟩
  ·cases h
 |.pfn ps rs::r,.sptr [.fv ps' rs' g]::s,x,v::vs,h,hr=>by
  simp only [qbh] at h;split at h<;>try trivial
  rename_i hp;split at h<;>try trivial
  rename_i hk;split at h<;>try trivial
  rename_i y h2;cases h;subst hp;subst hk;obtain ⟨_,ad,e1,e2,⟨⟨u,e3,_,e4⟩,_⟩⟩:=hr.1;simp only [zn] at e4;exact ⟨v,vs,rfl,⟨ad,u,e1,e2,e3,e4⟩,qho h2 hr.2⟩
 |.pfn _ _::_,.sptr [.fv _ _ _]::_,_,[],_,hr=>hr.elim
 |.pk f::r,.sptr [.fn f' []]::s,x,v::vs,h,hr=>by
  simp only [qbh] at h;split at h<;>try trivial
  rename_i hf;split at h<;>try trivial
  rename_i y h2;cases h;subst hf;obtain ⟨_,ad,e1,e2,⟨⟨u,e3,_,e4⟩,_⟩⟩:=hr.1;simp only [zn] at e4;obtain ⟨vs0,rfl,h3,_⟩:=e4;have h4:vs0 = #[]:=Array.size_eq_zero_iff.mp h3;subst h4;exact ⟨v,vs,rfl,⟨ad,e1,e2,e3⟩,qho h2 hr.2⟩
 |.pk _::_,.sptr [.fn _ []]::_,_,[],_,hr=>hr.elim
 |[],[],_,_::_,_,hr=>hr.elim
 |[],_::_,_,_,h,_=>by simp [qbh] at h
 |_::_,[],_,_,h,_=>by simp [qbh] at h
 |.d _::_,_::_,_,[],_,hr=>hr.elim
 |.ptr _::_,.sptr _::_,_,[],_,hr=>hr.elim
 |.fn _ _::_,_::_,_,_,h,_=>by simp [qbh] at h
 |.pf _ _::_,_::_,_,_,h,_=>by simp [qbh] at h
 |.ptr _::_,.dead::_,_,_,h,_ | .ptr _::_,.int _ _::_,_,_,h,_ | .ptr _::_,.bool _::_,_,_,h,_ | .ptr _::_,.str _::_,_,_,h,_ | .ptr _::_,.nil::_,_,_,h,_
 |.ptr _::_,.sl _ _::_,_,_,h,_ | .ptr _::_,.slx _ _::_,_,_,h,_ | .ptr _::_,.own _::_,_,_,h,_ | .ptr _::_,.ptr _ _::_,_,_,h,_ | .ptr _::_,.fn _ _::_,_,_,h,_ | .ptr _::_,.fv _ _ _::_,_,_,h,_ | .ptr _::_,.pv _ _ _ _::_,_,_,h,_ | .ptr _::_,.mp _::_,_,_,h,_ | .ptr _::_,.fs _ _::_,_,_,h,_=>by simp [qbh] at h
theorem zv6 {t u:Ty} (h:t=u) {x:t.den} {v:Value} (hr:zv w F t x v):zv w F u (zru h x) v:=by subst h; exact hr
theorem qys:{ps:List Ty} -> {cps:List PT} -> {caps:List AC} -> {f:qi ps->qn cps}->qmf ps cps caps=some f->(x:qi ps) -> {vs cvs:List Value}->qad w F ps x vs->zr P w F R (caps.map .c) cvs->wt P w F cps (f x) (vs++cvs)
 |[],cps,caps,f,h,x,vs,cvs,hx,hr=>by
  simp only [qmf] at h;split at h
  ·rename_i ys h1;cases h;cases hx;exact qho h1 hr
  ·cases h
 |t::r,.d t'::cps,caps,f,h,x,vs,cvs,hx,hr=>by
  simp only [qmf] at h;split at h
  ·rename_i ht;split at h
   ·rename_i g hg;cases h;obtain ⟨v,vs',rfl,h1,h2⟩:=hx;exact ⟨v,vs'++cvs,rfl,zv6 ht h1,qys hg x.2 h2 hr⟩
   ·cases h
  ·cases h
 |_::_,[],_,_,h,_,_,_,_,_=>by simp [qmf] at h
 |_::_,.ptr _::_,_,_,h,_,_,_,_,_=>by simp [qmf] at h
 |_::_,.fn _ _::_,_,_,h,_,_,_,_,_=>by simp [qmf] at h
 |_::_,.pf _ _::_,_,_,h,_,_,_,_,_=>by simp [qmf] at h
 |_::_,.pfn _ _::_,_,_,h,_,_,_,_,_=>by simp [qmf] at h
 |_::_,.pk _::_,_,_,h,_,_,_,_,_=>by simp [qmf] at h
theorem quh {caps:List AC} {vs:List Value} (hl:vs.length=caps.length) (h:qu P w F R caps (fun j u=>vs[j]? = some u)):zr P w F R (caps.map .c) vs:=by
 induction caps generalizing vs with
 |nil=>cases vs with
  |nil=>trivial
  |cons _ _=>simp at hl
 |cons c r ih=>cases vs with
  |nil=>simp at hl
  |cons v vs=>
   obtain ⟨⟨u,e1,e2,e3⟩,e4⟩:=h;simp at e1;subst e1;exact ⟨⟨e2,e3⟩,ih (by simpa using hl) (by simpa using e4)⟩
theorem zfe {rs rs':List Ty} (k:rs=rs') {y:qi rs} {e:Ending} {w1 w2:World} {F1:Nat->Prop} (h:qd1 w1 F1 rs y e w2):qd1 w1 F1 rs' (zg6 k y) e w2:=by subst k; exact h
theorem zue {ps ps' rs rs':List Ty} (h:ps=ps') (k:rs=rs') {g:qi ps->qi rs} {v:Value} (hr:qgv P w F ps rs g v):qgv P w F ps' rs' (qz1 h k g) v:=by subst h; subst k; exact hr
theorem wt.mono {w w':World} {F F':Nat->Prop} (hF:∀ b,F b->F' b) (hw:∀ b,F b->w'.heap[b]? = w.heap[b]?):{ps:List PT} -> {x:qn ps} -> {vs:List Value}->wt P w F ps x vs->wt P w' F' ps x vs
 |[],_,_,h=>h
 |p::_,_,_,⟨v,vs',h1,h2,h3⟩=>by
  refine ⟨v,vs',h1,?_,wt.mono hF hw h3⟩;cases p with
  |d t=>exact zv.mono hF hw h2
  |ptr t=>
   obtain ⟨ad,e1,e2,e3⟩:=h2;refine ⟨ad,e1,hF _ e2,e3.mono hF hw fun j u _ hu=>?_⟩;rw [← hu];exact ucf (by rw [qf6]; exact hw _ e2)
  |fn ps rs=>exact qgv.mono hF hw h2
  |pf ps rs=>exact qi5.mono hF hw h2
  |pfn ps rs=>
   obtain ⟨ad,u,e1,e2,e3,e4⟩:=h2;refine ⟨ad,u,e1,hF _ e2,?_,qgv.mono hF hw e4⟩;rw [← e3];exact ucf (by rw [qf6]; exact hw _ e2)
  |pk f=>
   obtain ⟨ad,e1,e2,e3⟩:=h2;refine ⟨ad,e1,hF _ e2,?_⟩;rw [← e3];exact ucf (by rw [qf6]; exact hw _ e2)
theorem zwp (hΓ:qhd P Γ) {ps rs:List Ty} {c:AC} {g:qi ps->qi rs} {n:List Prop} {v:Value} (h:zsa Γ ps rs c=some (g,n)) (hn:qr n) (hr:zn P w F R c v) (_hR:∀ id u,R id u->True):qgv P w F ps rs g v:=by
 unfold zsa at h;split at h<;>try trivial
 ·split at h<;>try trivial
  rename_i hp;split at h<;>try trivial
  rename_i hk;simp only [ua0,ua9] at h;obtain ⟨rfl,_⟩:=h;simp only [zn] at hr;exact zue hp hk hr
 ·rename_i f caps;split at h<;>try trivial
  rename_i ct hct;split at h<;>try trivial
  rename_i hk;split at h<;>try trivial
  rename_i mm hmm;cases h;obtain ⟨vs,rfl,e1,e2⟩:=hr;obtain ⟨s1,s2⟩:=hΓ.1 f ct hct;refine ⟨f,vs,rfl,s1,fun w1 F1 hf hb xs us hx=>?_⟩;have hwf:=hx.wf;have hc:=qu.mono (P:=P) (R':=fun _ _=>True) (fun b hb'=>(hf b hb').1) (fun b hb'=>(hf b hb').2) (fun _ _ _=>trivial) caps (g':=fun j u=>vs.toList[j]? = some u) (fun j u hu=>by simpa using hu) e2;have hps:=qys (R:=fun _ _=>True) hmm xs hx (quh (by simpa using e1) hc);have:=s2 w1 F1 (mm xs) (us++vs.toList) hb hps (hn xs hwf);have he:(us++vs.toList).toArray=us.toArray++vs:=by simp
  rw [he] at this;exact this.mono fun e w2 hp=>zfe hk hp
theorem zuf {ps ps' rs rs':List Ty} (h:ps=ps') (k:rs=rs') {g:qi ps->qi rs} {D:qi ps->Prop} {v:Value} (hr:qi5 P w F ps rs g D v):qi5 P w F ps' rs' (qz1 h k g) (ygj h D) v:=by subst h; subst k; exact hr
theorem zwq (hΓ:qhd P Γ) {ps rs:List Ty} {c:AC} {x:(qi ps->qi rs)×(qi ps->Prop)} {v:Value} (h:zsb Γ ps rs c=some x) (hr:zn P w F R c v):qi5 P w F ps rs x.1 x.2 v:=by
 unfold zsb at h;split at h<;>try trivial
 ·split at h<;>try trivial
  rename_i hp;split at h<;>try trivial
  rename_i hk;cases h;simp only [zn] at hr;exact zuf hp hk hr
 ·rename_i f caps;split at h<;>try trivial
  rename_i ct hct;split at h<;>try trivial
  rename_i hk;split at h<;>try trivial
  rename_i mm hmm;cases h;obtain ⟨vs,rfl,e1,e2⟩:=hr;obtain ⟨s1,s2⟩:=hΓ.1 f ct hct;refine ⟨f,vs,rfl,s1,fun w1 F1 hf hb xs us hd hx=>?_⟩;have hc:=qu.mono (P:=P) (R':=fun _ _=>True) (fun b hb'=>(hf b hb').1) (fun b hb'=>(hf b hb').2) (fun _ _ _=>trivial) caps (g':=fun j u=>vs.toList[j]? = some u) (fun j u hu=>by simpa using hu) e2;have hps:=qys (R:=fun _ _=>True) hmm xs hx (quh (by simpa using e1) hc);have:=s2 w1 F1 (mm xs) (us++vs.toList) hb hps hd;have he:(us++vs.toList).toArray=us.toArray++vs:=by simp
  rw [he] at this;exact this.mono fun e w2 hp=>zfe hk hp
theorem qf9 (hΓ:qhd P Γ):{ps:List PT} -> {xs:List AV} -> {x:qn ps} -> {n:List Prop} -> {vs:List Value}->qjd Γ ps xs=some (x,n)->qr n->zr P w F R xs vs->wt P w F ps x vs
 |[],[],_,_,[],_,_,_=>rfl
 |p::r,a::s,x,n,v::vs,h,hn,hr=>by
  simp only [qjd] at h;split at h
  ·rename_i y n1 z n2 h1 h2;cases h;refine ⟨v,vs,rfl,?_,qf9 hΓ h2 (xl.1 hn).2 hr.2⟩;unfold ynk at h1;split at h1
   ·split at h1<;>try trivial
    rename_i h3;simp only [ua0,ua9] at h1;obtain ⟨rfl,_⟩:=h1;exact qsd h3 hr.1
   ·split at h1<;>try trivial
    rename_i h3;simp only [ua0,ua9] at h1;obtain ⟨rfl,_⟩:=h1;obtain ⟨_,ad,e1,e2,e3⟩:=hr.1;exact ⟨ad,e1,e2,(qs.dec _ h3 e3).1⟩
   ·exact zwp hΓ h1 (xl.1 hn).1 hr.1.2 (fun _ _ _=>trivial)
   ·split at h1<;>try trivial
    rename_i h3;simp only [ua0,ua9] at h1;obtain ⟨rfl,_⟩:=h1;exact zwq hΓ h3 hr.1.2
   ·cases h1
  ·cases h
 |[],[],_,_,_::_,_,_,hr=>hr.elim
 |_::_,_::_,_,_,[],_,_,hr=>hr.elim
 |[],_::_,_,_,_,h,_,_=>by simp [qjd] at h
 |_::_,[],_,_,_,h,_,_=>by simp [qjd] at h
theorem zr.append {xs ys:List AV} {us vs:List Value} (h:zr P w F R xs us) (k:zr P w F R ys vs):zr P w F R (xs++ys) (us++vs):=by
 induction xs generalizing us with
 |nil=>cases us with
  |nil=>exact k
  |cons _ _=>exact h.elim
 |cons x xs ih=>cases us with
  |nil=>exact h.elim
  |cons u us=>exact ⟨h.1,ih h.2⟩
theorem qp6 (hΓ:qhd P Γ) {k:Int} {args:List AV} {vs:List Value} (hbd:∀ b,F b->b<w.heap.size) (ha:zr P w F R args vs):{es:List (Int×Nat)} -> {rs:List Ty} -> {y:qi rs} -> {n:List Prop} ->
  qmw Γ k args es=some ⟨rs,y,n⟩->qr n->∃ f,fsV (es.find? (fun x=>x.1==k)) = .func (.func f) #[] #[]/\(∀ args w2,(callFunc f args).run P w2 = .ok (.enter f args) w2)/\Calls P f vs.toArray w (qd1 w F rs y)
 |[],_,_,_,h,_=>by simp [qmw] at h
 |(i,f)::es,rs,y,n,h,hn=>by
  simp only [qmw] at h;split at h<;>try trivial
  rename_i ct hct;split at h<;>try trivial
  rename_i x ns hd;obtain ⟨s1,s2⟩:=hΓ.1 f ct hct;have hthis:k=i->qr (ns++ct.ok x)->∃ f',fsV (((i,f)::es).find? (fun x=>x.1==k)) = .func (.func f') #[] #[]/\(∀ args w2,(callFunc f' args).run P w2 = .ok (.enter f' args) w2)/\Calls P f' vs.toArray w (qd1 w F ct.rs (ct.f x)):=fun hk hc=>by
   obtain ⟨c1,c2⟩:=xl.1 hc;refine ⟨f,by simp [hk,fsV],s1,s2 w F x vs hbd (qf9 hΓ hd c1 ha) c2⟩
  split at h
  ·injection h with h
   cases h;obtain ⟨c1,c2⟩:=xz.1 hn;exact hthis c1 c2
  ·split at h<;>try trivial
   rename_i es' _ rs' y' ms hr;split at h<;>try trivial
   rename_i hrs;injection h with h
   cases h;subst hrs;obtain ⟨c1,c2⟩:=xz.1 hn;by_cases hk:k=i
   ·obtain ⟨f',e1,e2,e3⟩:=hthis hk (c1 hk);refine ⟨f',e1,e2,?_⟩;have:(k==i)=true:=by simp [hk]
    rw [this];exact e3
   ·obtain ⟨f',e1,e2,e3⟩:=qp6 hΓ hbd ha hr (c2 hk);refine ⟨f',?_,e2,?_⟩
    ·rw [← e1];have:(i==k)=false:=by rw [ucu]; omega
     simp [List.find?,this]
    ·have:(k==i)=false:=by rw [ucu]; exact hk
     rw [this];exact e3
theorem zb8 (hΓ:qhd P Γ) {k:Int} {cs:List AC} {args:List AV} {vs:List Value} {b:Nat} {ety:TypeId} {arr:Array Value} (hg:w.heap[b]? = some (.cells arr ety (0,0))) (hs:arr.size=cs.length)
  (ho:∀ u∈arr,u.oneCell'=true) (hc:qu P w F R cs (fun j u=>arr[j]? = some u)) (ha:zr P w F R args vs):{es:List (Int×Nat)} -> {T:Ty} -> {z:T.den} -> {n:List Prop} ->
  zm1 Γ k cs args es=some ⟨T,z,n⟩->qr n->cs.length=T.size/\∃ f,fsV (es.find? (fun x=>x.1==k)) = .func (.func f) #[] #[]/\(∀ args w2,(callFunc f args).run P w2 = .ok (.enter f args) w2) /\
   Calls P f (Value.pointer (some ⟨b,0,none⟩)::vs).toArray w fun en w'=>∃ (u:Value) (ns:List Value),en = .returned u/\ns.length=T.size/\w'=w.setRow b ns.toArray/\qs w F T z (fun j u=>ns[j]? = some u)
 |[],_,_,_,h,_=>by simp [zm1] at h
 |(i,f)::es,T,z,n,h,hn=>by
  simp only [zm1] at h;split at h<;>try trivial
  rename_i T1 ps g hct;have s1:UpdOK P f T1 ps g:=hΓ.2 f _ hct;split at h<;>try trivial
  rename_i x y hd hv;have hlen:cs.length=T1.size:=by have:=qg1 T1 hd; simp at this; omega
  have hx:=(qs.dec T1 hd hc).1;have hy:=qdv hv ha;have hcall:=s1.calls w F b ety arr x y vs hg (by omega) ho hx hy;split at h
  ·injection h with h
   cases h;have hk:k=i:=hn;exact ⟨hlen,f,by simp [hk,fsV],s1.enters,hcall⟩
  ·split at h<;>try trivial
   rename_i es' _ T' z' ms hr;split at h<;>try trivial
   rename_i hT;subst hT;injection h with h
   cases h;by_cases hk:k=i
   ·refine ⟨hlen,f,by simp [hk,fsV],s1.enters,?_⟩;have:(k==i)=true:=by simp [hk]
    rw [this];exact hcall
   ·obtain ⟨_,f',e1,e2,e3⟩:=zb8 hΓ hg hs ho hc ha hr (hn hk);refine ⟨hlen,f',?_,e2,?_⟩
    ·rw [← e1];have:(i==k)=false:=by rw [ucu]; omega
     simp [List.find?,this]
    ·have:(k==i)=false:=by rw [ucu]; exact hk
     rw [this];exact e3
theorem zng (hΓ:qhd P Γ) {x:AV} {args:List AV} {r:AV} {n:List Prop} {vx:Value} {vs:List Value} (h:zrt Γ x args=some (r,n)) (hn:qr n) (hbd:∀ b,F b->b<w.heap.size)
  (hx:qz P w F R x vx) (ha:zr P w F R args vs):∃ f caps,vx = .func (.func f) #[] caps/\(∀ args w2,(callFunc f args).run P w2 = .ok (.enter f args) w2) /\
   ∃ rs y,r=qqc rs y/\Calls P f (vs.toArray++caps) w (qd1 w F rs y):=by
 unfold zrt at h;split at h<;>try trivial
 ·rename_i f caps;obtain ⟨_,cv,rfl,e1,e2⟩:=hx;unfold ygh at h;split at h<;>try trivial
  rename_i ct hct;split at h<;>try trivial
  rename_i y n1 hd;cases h;obtain ⟨s1,s2⟩:=hΓ.1 f ct hct;refine ⟨f,cv,rfl,s1,ct.rs,ct.f y,rfl,?_⟩;have hps:=qf9 hΓ hd (xl.1 hn).1 (ha.append (quh (vs:=cv.toList) (by simpa using e1) (by simpa using e2)));have:=s2 w F y (vs++cv.toList) hbd hps (xl.1 hn).2;have he:(vs++cv.toList).toArray=vs.toArray++cv:=by simp
  rw [he] at this;exact this
 ·rename_i ps rs g;split at h<;>try trivial
  rename_i y hd;cases h;have hf:=hx.2;simp only [zn] at hf;obtain ⟨f,caps,rfl,s1,s2⟩:=hf;exact ⟨f,caps,rfl,s1,rs,g y,rfl,s2 w F (fun b hb=>⟨hb,rfl⟩) hbd y vs (qdv hd ha)⟩
 ·rename_i ps rs g D;split at h<;>try trivial
  rename_i y hd;cases h;have hf:=hx.2;simp only [zn] at hf;obtain ⟨f,caps,rfl,s1,s2⟩:=hf;exact ⟨f,caps,rfl,s1,rs,g y,rfl,s2 w F (fun b hb=>⟨hb,rfl⟩) hbd y vs hn (qdv hd ha)⟩
 ·rename_i es k;split at h<;>try trivial
  rename_i rs y ns hd;cases h;have hv:=hx.2;simp only [zn] at hv;obtain ⟨f,e1,e2,e3⟩:=qp6 hΓ hbd ha hd hn;rw [e1] at hv;exact ⟨f,#[],hv,e2,rs,y,rfl,by simpa using e3⟩
end
end Go.Ab

namespace Go.Ab
open Go Go.RowKit
section
variable {P:Program} {B:Nat} {o:Oper} {a:Act} {w w':World} {F F':Nat->Prop} {γ γ':Nat->Value} {M m:Mem} {R:Nat->Value->Prop} {Γ:Gm}
theorem kv {S:Sem Value} {u:Value} (he:execOp a.eval o=(do pure (.value (← S)):Sem Next)) (hr:S.run P w = .ok u w'):(execOp a.eval o).run P w = .ok (.value u) w':=by
 rw [he];simp [hr]
theorem zt8 {p:Bool} {x y r:AV} {u v:Value} (h:zbg p x y=some r) (hx:p=true->qz P w F R x u) (hy:p=false->qz P w F R y v):qz P w F R r (if p then u else v):=by
 unfold zbg at h;split at h<;>try trivial
 ·cases h;cases p
  ·exact ⟨(hy rfl).1,(hy rfl).2⟩
  ·exact ⟨(hx rfl).1,(hx rfl).2⟩
 ·split at h<;>try trivial
  rename_i hk;subst hk;cases h;cases p
  ·exact ⟨(hy rfl).1,(hy rfl).2⟩
  ·exact ⟨(hx rfl).1,(hx rfl).2⟩
theorem zfb {k:IntKind}:{r:List AV} -> {x y:Int} -> {vs:List Value}->qzb k x r=some y->inR k x->zr P w F R r vs->(vs.foldlM (m:=Sem) Builtin.min2 (.int k x)).run P w = .ok (.int k y) w/\inR k y
 |[],x,y,[],h,hx,_=>by
  simp only [qzb,ua0] at h;subst h;exact ⟨by simp,hx⟩
 |.c (.int k' z)::r,x,y,v::vs,h,hx,hr=>by
  simp only [qzb] at h;split at h<;>try trivial
  rename_i hk;subst hk;obtain ⟨⟨_,rfl,hz⟩,hr⟩:=hr;have hx':inR k (if z<x then z else x):=by split<;>assumption
  obtain ⟨h1,h2⟩:=zfb h hx' hr;refine ⟨?_,h2⟩;rw [List.foldlM_cons];simp [Builtin.min2,h1]
 |[],_,_,_::_,_,_,hr=>hr.elim
 |_::_,_,_,[],_,_,hr=>hr.elim
 |.dead::_,_,_,_::_,h,_,_ | .agg _::_,_,_,_::_,h,_,_ | .tup _::_,_,_,_::_,h,_,_ | .optr _ _ _ _::_,_,_,_::_,h,_,_ | .aptr _ _ _::_,_,_,_::_,h,_,_ | .maybe _ _ _::_,_,_,_::_,h,_,_=>by simp [qzb] at h
 |.c .dead::_,_,_,_::_,h,_,_ | .c (.bool _)::_,_,_,_::_,h,_,_ | .c (.str _)::_,_,_,_::_,h,_,_ | .c .nil::_,_,_,_::_,h,_,_ | .c (.sl _ _)::_,_,_,_::_,h,_,_
 |.c (.slx _ _)::_,_,_,_::_,h,_,_ | .c (.own _)::_,_,_,_::_,h,_,_ | .c (.ptr _ _)::_,_,_,_::_,h,_,_ | .c (.sptr _)::_,_,_,_::_,h,_,_ | .c (.fn _ _)::_,_,_,_::_,h,_,_ | .c (.fv _ _ _)::_,_,_,_::_,h,_,_ | .c (.pv _ _ _ _)::_,_,_,_::_,h,_,_ | .c (.mp _)::_,_,_,_::_,h,_,_ | .c (.fs _ _)::_,_,_,_::_,h,_,_=>by simp [qzb] at h
theorem ze9 {k:IntKind}:{r:List AV} -> {x y:Int} -> {vs:List Value}->qza k x r=some y->inR k x->zr P w F R r vs->(vs.foldlM (m:=Sem) Builtin.max2 (.int k x)).run P w = .ok (.int k y) w/\inR k y
 |[],x,y,[],h,hx,_=>by
  simp only [qza,ua0] at h;subst h;exact ⟨by simp,hx⟩
 |.c (.int k' z)::r,x,y,v::vs,h,hx,hr=>by
  simp only [qza] at h;split at h<;>try trivial
  rename_i hk;subst hk;obtain ⟨⟨_,rfl,hz⟩,hr⟩:=hr;have hx':inR k (if x<z then z else x):=by split<;>assumption
  obtain ⟨h1,h2⟩:=ze9 h hx' hr;refine ⟨?_,h2⟩;rw [List.foldlM_cons];simp [Builtin.max2,h1]
 |[],_,_,_::_,_,_,hr=>hr.elim
 |_::_,_,_,[],_,_,hr=>hr.elim
 |.dead::_,_,_,_::_,h,_,_ | .agg _::_,_,_,_::_,h,_,_ | .tup _::_,_,_,_::_,h,_,_ | .optr _ _ _ _::_,_,_,_::_,h,_,_ | .aptr _ _ _::_,_,_,_::_,h,_,_ | .maybe _ _ _::_,_,_,_::_,h,_,_=>by simp [qza] at h
 |.c .dead::_,_,_,_::_,h,_,_ | .c (.bool _)::_,_,_,_::_,h,_,_ | .c (.str _)::_,_,_,_::_,h,_,_ | .c .nil::_,_,_,_::_,h,_,_ | .c (.sl _ _)::_,_,_,_::_,h,_,_
 |.c (.slx _ _)::_,_,_,_::_,h,_,_ | .c (.own _)::_,_,_,_::_,h,_,_ | .c (.ptr _ _)::_,_,_,_::_,h,_,_ | .c (.sptr _)::_,_,_,_::_,h,_,_ | .c (.fn _ _)::_,_,_,_::_,h,_,_ | .c (.fv _ _ _)::_,_,_,_::_,h,_,_ | .c (.pv _ _ _ _)::_,_,_,_::_,h,_,_ | .c (.mp _)::_,_,_,_::_,h,_,_ | .c (.fs _ _)::_,_,_,_::_,h,_,_=>by simp [qza] at h
theorem qtu:{u:List (Nat×Ob)} -> {m M:Mem}->(∀ i y,m i=some y->M i=some y)->∀ i y,qx m u i=some y->qx M u i=some y
 |[],_,_,h=>h
 |(id,ob)::r,m,M,h=>qtu (u:=r) (m:=upd m id ob) (M:=upd M id ob) fun i y hy=>by
  by_cases hi:i=id
  ·subst hi;rw [xd] at hy ⊢;exact hy
  ·rw [yp _ _ hi] at hy ⊢;exact h i y hy
theorem zau {id:Nat} {e e2:TypeId} {cs cs' cs2:List AC} {u:List (Nat×Ob)} (hm:MemOK P B w F γ M) (hb:∀ b,F b->b<w.heap.size) (hsub:∀ i y,m i=some y->M i=some y) (hid:m id=some (.box e cs)) (h:rsL m cs=some (cs',u)) (hid2:qx m u id=some (.box e2 cs2)) :
  ∃ F' b,γ id = .pointer (some ⟨b,0,none⟩)/\F' b/\Step B w F γ M w F' γ (qx M (u++[(id,.fbox cs')]))/\MemOK P B w F' γ (qx M (u++[(id,.fbox cs')])) /\
   qu P w F' (qp (qx M (u++[(id,.fbox cs')])) γ) cs' (fun j u=>w.cell? ⟨b,j,none⟩=some u):=by
 obtain ⟨b,arr,e1,e2',e3,e4,e5,e6⟩:=hm.ob id _ (hsub _ _ hid);obtain ⟨F1,s1,m1,t1,l1,r1⟩:=ql7 hm hb (qa6.of hsub) h e6;have hM1:qx M u id=some (.box e2 cs2):=qtu hsub _ _ hid2;obtain ⟨b',arr',f1,f2,f3,f4,f5,f6⟩:=m1.ob id _ hM1;rw [e1] at f1;simp only [ucx,ua0,ue0,ud7] at f1;subst f1;have hst:Step B w F1 γ (qx M u) w (fun c=>F1 c∨c=b) γ (upd (qx M u) id (.fbox cs')):=
  ⟨fun c h=>.inl h,fun _ _=>rfl,qey hM1 (by simp),fun _ _=>rfl,rfl,rfl,rfl,ua3 _,fun c h=>h.elim (s1.bd c) (fun h=>by subst h; exact (uaa.1 e2').1),fun c h=>h.elim .inl (fun h=>.inr (by omega))⟩
 have hcells:qu P w (fun c=>F1 c∨c=b) (qp (upd (qx M u) id (.fbox cs')) γ) cs' (fun j u=>w.cell? ⟨b,j,none⟩=some u):=
  (hst.repCL r1).turn fun j v _ hv=>by rw [qn3 e2']; exact hv
 have hmm:MemOK P B w (fun c=>F1 c∨c=b) γ (upd (qx M u) id (.fbox cs')):=by
  refine m1.change hM1 (by simp) hst.hF hst.hw (fun c h=>by simp [exB] at h) (fun c _ hne=>⟨rfl,fun h=>h.elim (fun h=>h) (fun h=>absurd (by rw [e1,h]; rfl) hne)⟩) ?_;exact ⟨b,e1,Or.inr rfl,hcells⟩
 refine ⟨fun c=>F1 c∨c=b,b,e1,Or.inr rfl,?_,?_,?_⟩
 ·rw [yz]; exact s1.trans hst
 ·rw [yz]; exact hmm
 ·rw [yz]; exact hcells
theorem qpu:{xs:List AV} -> {cs:List AC} -> {u:List (Nat×Ob)} -> {m M:Mem} -> {F:Nat->Prop} -> {vs:List Value}->MemOK P B w F γ M->(∀ b,F b->b<w.heap.size)->(∀ i y,m i=some y->M i=some y)->rsK m xs=some (cs,u)->zr P w F (qp M γ) xs vs ->
  ∃ F',Step B w F γ M w F' γ (qx M u)/\MemOK P B w F' γ (qx M u)/\zr P w F' (qp (qx M u) γ) (cs.map .c) vs
 |[],cs,u,m,M,F,[],hm,hb,hs,h,hr=>by
  simp only [rsK,ua0,ua9] at h;obtain ⟨rfl,rfl⟩:=h;exact ⟨F,Step.refl hb,hm,trivial⟩
 |x::r,cs,u,m,M,F,v::vs,hm,hb,hs,h,hr=>by
  unfold rsK at h;split at h
  ·rename_i heq; cases heq
  ·rename_i id r' heq;cases heq;split at h<;>try trivial
   ·rename_i e cs0 hid;split at h<;>try trivial
    rename_i cs' u1 hrs;split at h<;>try trivial
    rename_i e2 cs2 hid2;split at h<;>try trivial
    rename_i y v2 hk;cases h;obtain ⟨F1,b,g1,g2,s1,m1,r1⟩:=zau hm hb hs hid hrs hid2;obtain ⟨F2,s2,m2,r2⟩:=qpu m1 s1.bd (qtu hs) hk (zr.mono_ s1.hF s1.hw s1.hR hr.2);obtain ⟨_,b',q1,rfl⟩:=hr.1;have hb':b'=b:=by
     unfold qp at q1;rw [hs _ _ hid] at q1;simp only [g1,Value.pointer.injEq,Option.some.injEq,Addr.mk.injEq,and_true] at q1;exact q1
    subst hb';rw [yz];refine ⟨F2,s1.trans s2,m2,⟨rfl,⟨b',0,none⟩,rfl,s2.hF _ g2,s2.repCL (r1.turn fun j u _ hu=>?_)⟩,r2⟩;rw [qbf,uai];exact hu
   ·rename_i cs0 hid;split at h<;>try trivial
    rename_i y v2 hk;cases h;obtain ⟨b,g1,g2,r1⟩:=zcx hm (hs _ _ hid) hr.1.2;obtain ⟨F2,s2,m2,r2⟩:=qpu hm hb hs hk hr.2;subst g1;refine ⟨F2,s2,m2,⟨rfl,⟨b,0,none⟩,rfl,s2.hF _ g2,s2.repCL (r1.turn fun j u _ hu=>?_)⟩,r2⟩;rw [qbf,uai];exact hu
  ·rename_i c r' _ heq;cases heq;split at h<;>try trivial
   rename_i y u1 hrs;split at h<;>try trivial
   rename_i z v2 hk;cases h;obtain ⟨F1,s1,m1,t1,r1⟩:=qpt hm hb (qa6.of hs) hrs hr.1.2;obtain ⟨F2,s2,m2,r2⟩:=qpu m1 s1.bd (qtu hs) hk (zr.mono_ s1.hF s1.hw s1.hR hr.2);rw [yz];exact ⟨F2,s1.trans s2,m2,⟨hr.1.1,zn.mono s2.hF s2.hw s2.hR _ r1⟩,r2⟩
  ·cases h
 |[],_,_,_,_,_,_::_,_,_,_,_,hr=>hr.elim
 |_::_,_,_,_,_,_,[],_,_,_,_,hr=>hr.elim
theorem zi0 {cs:List AC} {vs:List Value} (h:zr P w F R (cs.map .c) vs):vs.length=cs.length/\qu P w F R cs (fun j u=>vs[j]? = some u):=by
 induction cs generalizing vs with
 |nil=>cases vs with
  |nil=>exact ⟨rfl,trivial⟩
  |cons _ _=>exact h.elim
 |cons c r ih=>cases vs with
  |nil=>exact h.elim
  |cons v vs=>
   obtain ⟨h1,h2⟩:=ih h.2;exact ⟨by simp [h1],⟨v,rfl,h.1.1,h.1.2⟩,by simpa using h2⟩
theorem yq.take {t:Ty} {l:List t.den} {xs:List Value} (h:yq w F t l xs) (i:Nat):yq w F t (l.take i) (xs.take (i*t.size)):=by
 intro j x hj;rw [uap] at hj;split at hj
 ·rename_i hji;refine (h j x hj).mono (fun _ h=>h) (fun _ _=>rfl) fun m u hm hu=>?_;have:j*t.size+t.size<=i*t.size:=by rw [← uay]; exact uam _ hji
  show (xs.take (i*t.size))[j*t.size+m]? = some u;rw [uap,if_pos (by omega)];exact hu
 ·cases hj
theorem yq.drop {t:Ty} {l:List t.den} {xs:List Value} (h:yq w F t l xs) (i:Nat):yq w F t (l.drop i) (xs.drop (i*t.size)):=by
 intro j x hj;rw [ubd] at hj;refine (h (i+j) x hj).mono (fun _ h=>h) (fun _ _=>rfl) fun m u hm hu=>?_;show (xs.drop (i*t.size))[j*t.size+m]? = some u;rw [ubd,← hu,ucs,uc4]
theorem yep {ty:TypeId} {name:String} {f:FuncId} (h:zba P name ty=some f) (u:Value) (as:Array Value):(callMethod (.iface ty u) name as).run P w=(callFunc f (#[u]++as)).run P w:=by
 unfold zba at h
 split at h<;>try (cases h; done)
 rename_i i fs hi hu
 split at h<;>try (cases h; done)
 rename_i mm hmm
 split at h<;>try (cases h; done)
 rename_i f' hf
 split at h<;>try (cases h; done)
 rename_i hp
 simp only [ua0] at h
 subst h
 have hp':mm.path = #[]:=by simpa using hp
 have hm:(method (P.types.size+Made.depth-1+1) ty u name).run P w = .ok (f',u) w:=by
  simp [method,typeInfo,hi,hmm,hp',hf,follow,receiverAt,uah hu,Place.get]
 have hd:P.types.size+Made.depth-1+1=P.types.size+Made.depth:=by unfold Made.depth; omega
 rw [hd] at hm
 simp only [callMethod,ub4,run_program,ubm]
 rw [hm]
 simp
theorem qss {name:String} {k:Int}:{es fs:List (Int×Nat)} -> {p:Int×Nat}->zay P name es=some fs->fs.find? (fun x=>x.1==k)=some p->∃ ty,yy es k=some ty/\zba P name ty=some p.2
 |[],fs,p,h,hf=>by
  simp only [zay,ua0] at h;subst h;cases hf
 |(k',ty)::es,fs,p,h,hf=>by
  simp only [zay] at h;split at h<;>try trivial
  rename_i f fs' h1 h2;cases h;cases hk:(k'==k)
  ·have hf':fs'.find? (fun x=>x.1==k)=some p:=by simpa [List.find?,hk] using hf
   obtain ⟨ty',e1,e2⟩:=qss h2 hf';refine ⟨ty',?_,e2⟩;unfold yy at e1 ⊢;simpa [List.find?,hk] using e1
  ·have hp:(k',f)=p:=by simpa [List.find?,hk] using hf
   subst hp;exact ⟨ty,by simp [yy,List.find?,hk],h1⟩
theorem zd8 {k:Int} {args:List AV}:{es:List (Int×Nat)} -> {rs:List Ty} -> {y:qi rs} -> {n:List Prop}->qmw Γ k args es=some ⟨rs,y,n⟩->qr n->∃ p,es.find? (fun x=>x.1==k)=some p
 |[],_,_,_,h,_=>by simp [qmw] at h
 |(i,f)::es,rs,y,n,h,hn=>by
  by_cases hk:k=i
  ·exact ⟨(i,f),by simp [hk]⟩
  ·have hne:(i==k)=false:=by rw [ucu]; omega
   simp only [qmw] at h;split at h<;>try trivial
   split at h<;>try trivial
   split at h
   ·injection h with h
    cases h;exact absurd (xz.1 hn).1 hk
   ·split at h<;>try trivial
    rename_i es' _ rs' y' ms hr;split at h<;>try trivial
    injection h with h
    cases h;obtain ⟨c1,c2⟩:=xz.1 hn;obtain ⟨p,hp⟩:=zd8 hr (c2 hk);exact ⟨p,by simpa [List.find?,hne] using hp⟩
theorem yje {t:TypeId} (h:zlc P t=true):∃ ms,P.underlying t=some (.interface ms):=by
 unfold zlc at h;split at h
 ·rename_i ms hms;exact ⟨ms,hms⟩
 ·cases h
theorem ycz {d:Nat} {t ty:TypeId} {u:Value} {ms:Array (String×TypeId)} (hu:P.underlying t=some (.interface ms)):(Op.equalIn (d+1) t (.iface ty u) .nilIface).run P w = .ok false w:=by
 simp [Op.equalIn,uah hu]
theorem zk3 {d:Nat} {t:TypeId} {ms:Array (String×TypeId)} (hu:P.underlying t=some (.interface ms)):(Op.equalIn (d+1) t .nilIface .nilIface).run P w = .ok true w:=by
 simp [Op.equalIn,uah hu]
theorem zk1 {es:List (Int×Nat)} {t:Ty} {x:Int×t.den} {v:Value} (h:zn P w F R (.ic es t x) v):(∃ ty u,yy es x.1=some ty/\v = .iface ty u/\zv w F t x.2 u)∨(yy es x.1=none/\v = .nilIface):=by
 simp only [zn] at h;rcases h with ⟨ty,u,h1,h2,h3,h4,h5⟩|⟨h1,h2⟩
 ·exact .inl ⟨ty,u,h1,h2.symm,h3,h4,h5⟩
 ·exact .inr ⟨h1,h2.symm⟩
theorem qjq {B B':Nat} {e:TypeId} {size n:Nat} {v:Value} {xs:List Value} (h:w.ownsRow B e size v n xs) (hb:∀ g,v.ownBlock=some g->B'<=g):w.ownsRow B' e size v n xs:=by
 refine ⟨h.1,h.2.imp id ?_⟩;rintro ⟨g,cap,cur,rfl,_,rest⟩;exact ⟨g,cap,cur,rfl,hb g rfl,rest⟩
theorem zyl {a b:Nat} {e1 e2:TypeId} {t1 t2:Ty} {l:List t1.den} {x:List t2.den} (hm:MemOK P B w F γ M) (hab:a≠b) (h1:M a=some (.arr e1 t1 l)) (h2:M b=some (.arr e2 t2 x)) :
  ∀ g,(γ b).ownBlock=some g->(γ a).ownBlock≠some g:=fun g hg=>hm.apart b a _ _ g (fun e=>hab e.symm) h2 h1 (by simpa [exB] using hg)
theorem zy4 {f:FuncId} {r:Row} {d:Nat} {args:List AV} {vs:List Value} {e:Eff} (hr0:zgr P f r) (hm:MemOK P B w F γ M) (hb:∀ b,F b->b<w.heap.size) (hB:B<=w.heap.size) (hsub:∀ i y,m i=some y->M i=some y) (hd:m d=none->M d=none)
  (h:yek r d args m=some e) (hn:qr e.need) (hr:zr P w F (qp M γ) args vs) :
  (∀ as w,(callFunc f as).run P w = .ok (.enter f as) w)/\Calls P f vs.toArray w fun en w'=>∃ u γ',en = .returned u/\Step B w F γ M w' F γ' (qx M e.wr)/\MemOK P B w' F γ' (qx M e.wr)/\qz P w' F (qp (qx M e.wr) γ') e.v u:=by
 unfold yek at h;split at h<;>try trivial
 ·rename_i e0 T bytes a hmd;split at h<;>try trivial
  rename_i t1 l hl;split at h<;>try trivial
  rename_i h1;subst h1;cases h;have hr0:CloneOK P f e0 t1 bytes:=hr0
  match vs,hr with
  |[v1],⟨⟨_,hv1⟩,_⟩=>
   obtain ⟨A,c,xs,rfl,hc,hA,hxl,hxr,hxc⟩:=qvb hm hsub hl hv1;refine ⟨hr0.enters,(hr0.calls w l.length c A xs hc (fun e=>by rw [hA e]; rfl) hxl hxc (qgo hxr hxl) hn.1 hn.2).mono fun en w2 hp=>?_⟩;obtain ⟨v',rfl,hgr,hown⟩:=hp;have hFb:∀ b,F b->w2.heap[b]? = w.heap[b]? := fun b hb'=>hgr.block b (hb b hb') (by simp);have hlow:w2.ownsRow B e0 t1.size v' (kw (rfl:t1=t1) l).length xs:=qjq hown fun g hg=>ual hB (hown.lt g hg).1;obtain ⟨s1,m1⟩:=qnp (v:=v') (l:=kw (rfl:t1=t1) l) hm hb hB (hd hmd) hgr hlow (fun g hg=>(hown.lt g hg).1) (yq.mono (fun _ h=>h) hFb hxr);exact ⟨v',_,rfl,s1,m1,qfq (qnq hown)⟩
 ·rename_i e0 T bytes a i b hmd;split at h<;>try trivial
  rename_i e1 t1 l e2 t2 x hma hmb;split at h<;>try trivial
  rename_i h1;subst h1;split at h<;>try trivial
  rename_i h2;subst h2;split at h<;>try trivial
  rename_i he;obtain ⟨rfl,rfl,hab⟩:=he;cases h;have hr0:InsOK P f e2 t2 bytes:=hr0;obtain ⟨⟨h0,h0'⟩,hm1,h63,hby⟩:=hn
  match vs,hr with
  |[v1,v2,v3],⟨⟨_,hv1⟩,⟨_,hv2⟩,⟨_,hv3⟩,_⟩=>
   have hMa:=hsub _ _ hma;have hMb:=hsub _ _ hmb;have g1:v1=γ a:=qen hMa (by simp) hv1;have g3:v3=γ b:=qen hMb (by simp) hv3;have g2:v2 = .int .i64 i:=hv2.1;subst g1 g3 g2;obtain ⟨j,rfl⟩:∃ j:Nat,i=j:=⟨i.toNat,by omega⟩;obtain ⟨xs,q1,q2,q3,q4⟩:=hm.ob a _ hMa;obtain ⟨ns,r1,r2,r3,r4⟩:=hm.ob b _ hMb;have r1':=r1;rw [hm1] at r1';refine ⟨hr0.enters,(hr0.calls w B l.length j (γ a) (γ b) xs ns hB q1 r1' (zyl hm hab hMa hMb) (by omega) q4 r4 h63 hby).mono fun en w2 hp=>?_⟩;obtain ⟨v',rfl,hgr,hown,hbl⟩:=hp;have hFb:∀ b,F b->w2.heap[b]? = w.heap[b]? := fun b hb'=>hgr.block b (hb b hb') (fun he=>q2 b he.symm hb');have hrows:yq w2 F t2 (qkk (j:Int) (kw rfl l) (kw rfl x)) (xs.take (j*t2.size)++ns++xs.drop (j*t2.size)):=by
    have hc:qkk (j:Int) (kw (rfl:t2=t2) l) (kw (rfl:t2=t2) x)=l.take j++x++l.drop j:=rfl;rw [hc];have hlt:(xs.take (j*t2.size)).length=(l.take j).length*t2.size:=by
     rw [uae,uae,q1.1,ubo (show j<=l.length by omega),ubo (uam _ (show j<=l.length by omega))]
    refine yq.mono (fun _ h=>h) hFb (yq.append (yq.append (q3.take j) hlt r3) ?_ (q3.drop j));rw [uas,uas,hlt,r1.1,ucs]
   have hlen:(qkk (j:Int) (kw (rfl:t2=t2) l) (kw (rfl:t2=t2) x)).length=l.length+1:=by
    show (l.take j++x++l.drop j).length=_;simp only [uas,uae,ubl,hm1];omega
   rw [← hlen] at hown;obtain ⟨s1,m1⟩:=qpp (v:=v') hm hb hB hMa (hd hmd) hgr hown (hbl.elim .inl (fun h=>.inr (.inl h))) hrows;exact ⟨v',_,rfl,s1,m1,qfq (qnq hown)⟩
end
end Go.Ab

namespace Go.Ab
open Go Go.RowKit
section
variable {P:Program} {B:Nat} {o:Oper} {a:Act} {w w':World} {F F':Nat->Prop} {γ γ':Nat->Value} {M m:Mem} {R:Nat->Value->Prop} {Γ:Gm}
theorem znb {idx:List Nat}:{xs:List AV} -> {vs:List Value}->zr P w F R xs vs->∀ (q i:Nat) (x:AV) (v:Nat×Value),(idx.zip xs)[q]? = some (i,x)->(idx.zip vs)[q]? = some v->v.1=i/\qz P w F R x v.2:=by
 induction idx with
 |nil=>intro xs vs _ q i x v h; simp at h
 |cons k idx ih=>
  intro xs vs hr q i x v h1 h2;cases xs with
  |nil=>simp at h1
  |cons y xs=>cases vs with
   |nil=>exact hr.elim
   |cons u vs=>cases q with
    |zero=>
     simp at h1 h2;obtain ⟨rfl,rfl⟩:=h1;subst h2;exact ⟨rfl,hr.1⟩
    |succ q=>exact ih hr.2 q i x v (by simpa using h1) (by simpa using h2)
def qh8 (P:Program) (w:World) (F:Nat->Prop) (R:Nat->Value->Prop) (tm:Tmp->Value):AV->Value->Prop
 |.maybe g want v,u=>tm g = .bool want->qz P w F R v u
 |v,u=>qz P w F R v u
def qox (P:Program) (w:World) (F:Nat->Prop) (R:Nat->Value->Prop) (tm:Tmp->Value):List AV->List Value->Prop
 |[],[]=>True
 |a::r,v::s=>qh8 P w F R tm a v/\qox P w F R tm r s
 |_,_=>False
theorem qh8.plain {tm:Tmp->Value} {x:AV} {v:Value} (h:qh8 P w F R tm x v) (hn:nmA x=true):qz P w F R x v:=by
 cases x<;>first|exact h|simp [nmA] at hn
theorem qox.plain {tm:Tmp->Value}:{xs:List AV} -> {vs:List Value}->qox P w F R tm xs vs->xs.all nmA=true->zr P w F R xs vs
 |[],[],_,_=>trivial
 |x::r,v::s,h,hn=>by
  simp only [uc8,ua1] at hn;exact ⟨h.1.plain hn.1,qox.plain h.2 hn.2⟩
 |[],_::_,h,_=>h.elim
 |_::_,[],h,_=>h.elim
theorem zmb {d:Nat} {c x:AC} {u:List (Nat×Ob)} (hd:m d=none) (h:rsC m c=some (x,u)) (M:Mem):qx M u d=M d:=by
 unfold rsC at h;split at h
 ·rename_i id;split at h<;>try trivial
  ·rename_i hid;simp only [ua0,ua9] at h;obtain ⟨_,rfl⟩:=h;simp only [qx];exact yp _ _ (fun e=>by subst e; rw [hd] at hid; cases hid)
  ·simp only [ua0,ua9] at h;obtain ⟨_,rfl⟩:=h;rfl
 ·simp only [ua0,ua9] at h;obtain ⟨_,rfl⟩:=h;rfl
theorem zmc {d:Nat} (hd:m d=none):{cs xs:List AC} -> {u:List (Nat×Ob)}->rsL m cs=some (xs,u)->∀ M:Mem,qx M u d=M d
 |[],xs,u,h,M=>by
  simp only [rsL,ua0,ua9] at h;obtain ⟨_,rfl⟩:=h;rfl
 |c::r,xs,u,h,M=>by
  simp only [rsL] at h;split at h
  ·rename_i h1 h2;simp only [ua0,ua9] at h;obtain ⟨_,rfl⟩:=h;rw [yz,zmc hd h2,zmb hd h1]
  ·cases h
theorem yem {d:Nat} {x y:AV} {u:List (Nat×Ob)} (hd:m d=none) (h:rsA m x=some (y,u)) (M:Mem):qx M u d=M d:=by
 unfold rsA at h;split at h<;>try trivial
 ·split at h<;>try trivial
  rename_i h1;simp only [ua0,ua9] at h;obtain ⟨_,rfl⟩:=h;exact zmb hd h1 M
 ·split at h<;>try trivial
  rename_i h1;simp only [ua0,ua9] at h;obtain ⟨_,rfl⟩:=h;exact zmc hd h1 M
theorem zfn {d:Nat} (hd:m d=none):{cs xs:List AV} -> {u:List (Nat×Ob)}->qcj m cs=some (xs,u)->∀ M:Mem,qx M u d=M d
 |[],xs,u,h,M=>by
  simp only [qcj,ua0,ua9] at h;obtain ⟨_,rfl⟩:=h;rfl
 |c::r,xs,u,h,M=>by
  simp only [qcj] at h;split at h
  ·rename_i h1 h2;simp only [ua0,ua9] at h;obtain ⟨_,rfl⟩:=h;rw [yz,zfn hd h2,yem hd h1]
  ·cases h
theorem zx2 {c:AC} {tt:Ty} {l:List tt.den} {v:Value} (h:ztm c=some ⟨tt,l⟩) (hr:zn P w F R c v):∃ A cap,v = .slice A l.length cap/\qs w F (.sl tt) l (fun _ u=>u=v):=by
 unfold ztm at h;split at h<;>try trivial
 ·cases h;simp only [zn] at hr;obtain ⟨A,c,h1,_⟩:=id hr;exact ⟨A,c,h1.symm,hr⟩
 ·cases h;obtain ⟨A,h1,hr⟩:=hr;exact ⟨A,_,h1,hr⟩
theorem qqq {x:Option Operand} {l:Option Int} {r r':List AV} {us:List Value} (h:zdn x.isSome r=some (l,r')) (hr:zr P w F R r (x.toList.map a.eval++us)) :
  (∃ k:IntKind,x.map a.eval=l.map (.int k))/\zr P w F R r' us:=by
 rcases ydr h hr with ⟨h1,rfl,rfl⟩|⟨h1,k,n,v,vs',rfl,h2,h3,h4⟩
 ·cases x with
  |none=>exact ⟨⟨.i64,rfl⟩,by simpa using hr⟩
  |some x=>simp at h1
 ·cases x with
  |none=>simp at h1
  |some x=>
   simp at h2;obtain ⟨rfl,rfl⟩:=h2;exact ⟨⟨k,by simp [h3]⟩,h4⟩
theorem zwm {B d:Nat} {γ:Nat->Value} {m M:Mem} {t:TypeId} {lo hi mx:Bool} {x:AV} {r:List AV} {e:Eff} {vx:Value} {vs:List Value} (hm:MemOK P B w F γ M) (hb:∀ b,F b->b<w.heap.size) (hB:B<=w.heap.size)
  (hsub:∀ i y,m i=some y->M i=some y) (hd:m d=none->M d=none) (h:ybs P d t lo hi mx x r m=some e) (hn:qr e.need) (hx:qz P w F (qp M γ) x vx) (hr:zr P w F (qp M γ) r vs) :
  lo=false/\hi=true/\mx=false/\∃ vh u γ',vs=[vh]/\(Instr.sliceAt t vx none (some vh) none).run P w = .ok u w/\Step B w F γ M w F γ' (qx M e.wr)/\MemOK P B w F γ' (qx M e.wr)/\qz P w F (qp (qx M e.wr) γ') e.v u:=by
 unfold ybs at h;split at h<;>try trivial
 rename_i id k q;split at h<;>try trivial
 rename_i el ety tt l ht hid hmd;split at h<;>try trivial
 rename_i hc;cases h;obtain ⟨n1,n2⟩:0<=q/\q<=l.length:=hn;obtain ⟨ti,hti⟩:=ub8.1 hc.1;cases vs with
 |nil=>exact hr.elim
 |cons vh vs=>
  cases vs with
  |cons _ _=>exact hr.2.elim
  |nil=>
   obtain ⟨⟨_,rfl,_⟩,_⟩:=hr;have hM:=hsub _ _ hid;have hMd:=hd hmd;have hv:=qen hM (by simp) hx.2;subst hv;obtain ⟨xs,q1,q2,q3,q4⟩:=hm.ob id _ hM;have hlen:(l.take q.toNat).length=q.toNat:=by simp; omega
   have hrowl:xs.length=l.length*tt.size:=q1.1;have hle:q.toNat*tt.size<=l.length*tt.size:=uam _ (by omega);have hrows:yq w F tt (l.take q.toNat) (xs.take (q.toNat*tt.size)):=fun i y hi=>by
    have hi':l[i]? = some y:=by
     rw [uap] at hi;split at hi
     ·exact hi
     ·cases hi
    have hiq:i<q.toNat:=by
     rw [uap] at hi;split at hi
     ·assumption
     ·cases hi
    refine (q3 i y hi').mono (fun _ h=>h) (fun _ _=>rfl) (fun j u hj hu=>?_);have:i*tt.size+j<q.toNat*tt.size:=by
     have:(i+1)*tt.size<=q.toNat*tt.size:=uam _ hiq;rw [ucs] at this;omega
    rw [uap,if_pos this];exact hu
   refine ⟨rfl,rfl,rfl,.int k q,?_⟩;rcases q1.2 with ⟨hnil,hz⟩|⟨g,cap,cur,hsl,hg,hcur,hcap,hmax,hsz,htake⟩
   ·
    have hq0:q.toNat=0:=by omega
    have hrun:(Instr.sliceAt t (γ id) none (some (.int k q)) none).run P w = .ok (.slice none 0 0) w:=by
     rw [hnil];have hb':(Instr.sliceBounds true 0 0 none (some (.int k q)) none).run P w = .ok (0,0,0) w:=by
      simp [Instr.sliceBounds,qb1 (P:=P) (w:=w) (k:=k) (n:=q) (y:=0) n1 (by omega),hq0]
     simp [Instr.sliceAt,Instr.slice,uah ht,hb',ke hti,hc.2]
    obtain ⟨s1,s2⟩:=qpp (w':=w) (v:=.slice none 0 0) (l:=l.take q.toNat) (xs:=[]) (ety:=ety) hm hb hB hM hMd (ufy _ _) (by rw [hlen,hq0]; exact ucz w B ety tt.size) (.inr (.inr rfl))
     (fun i y hi=>by
      rw [hq0] at hi;simp at hi)
    exact ⟨_,_,rfl,hrun,s1,s2,qfq rfl⟩
   ·have hrun:(Instr.sliceAt t (γ id) none (some (.int k q)) none).run P w = .ok (.slice (some ⟨g,0,none⟩) q.toNat cap) w:=by
     rw [hsl];have hb':(Instr.sliceBounds true l.length cap none (some (.int k q)) none).run P w = .ok (0,q.toNat,cap) w:=by
      simp [Instr.sliceBounds,qb1 (P:=P) (w:=w) (k:=k) (n:=q) (y:=cap) n1 (by omega)]
     simp only [Instr.sliceAt,Instr.slice,uah ht,hb',ke hti,hc.2,ub4,Result.andThen];simp [Addr.add]
    obtain ⟨s1,s2⟩:=qpp (w':=w) (v:=.slice (some ⟨g,0,none⟩) q.toNat cap) (l:=l.take q.toNat) (xs:=xs.take (q.toNat*tt.size)) (ety:=ety) hm hb hB hM hMd (ufy _ _)
     (by
      rw [hlen];refine ⟨by rw [uae,hrowl]; omega,.inr ⟨g,cap,cur,rfl,hg,hcur,by omega,hmax,hsz,?_⟩⟩;rw [← htake,uf2];congr 1;omega)
     (.inl (by rw [hsl]; rfl)) hrows
    exact ⟨_,_,rfl,hrun,s1,s2,qfq rfl⟩
theorem ze8 {R:Nat->Value->Prop}:{vs:List AV} -> {caps:List AC} -> {u:List (Nat×Ob)} -> {us:List Value}->qjj vs=some (caps,u)->zr P w F R vs us->u=[]/\zr P w F R (caps.map .c) us
 |[],_,_,us,h,hr=>by
  simp only [qjj,ua0,ua9] at h;obtain ⟨rfl,rfl⟩:=h;exact ⟨rfl,hr⟩
 |.c a::r,caps,u,[],h,hr=>hr.elim
 |.c a::r,caps,u,v::us,h,hr=>by
  simp only [qjj] at h;split at h<;>try trivial
  rename_i y _ hy;cases h;exact ⟨rfl,hr.1,(ze8 hy hr.2).2⟩
 |.dead::_,_,_,_,h,_=>by simp [qjj] at h
 |.agg _::_,_,_,_,h,_=>by simp [qjj] at h
 |.tup _::_,_,_,_,h,_=>by simp [qjj] at h
 |.optr _ _ _ _::_,_,_,_,h,_=>by simp [qjj] at h
 |.aptr _ _ _::_,_,_,_,h,_=>by simp [qjj] at h
 |.maybe _ _ _::_,_,_,_,h,_=>by simp [qjj] at h
theorem zb0 {tt:Ty}:(n:Nat) -> {cs:List AC} -> {l:List tt.den} -> {g:Nat->Value->Prop}->qoo.splitN tt n cs=some l->qu P w F R cs g ->
  l.length=n/\∀ (i:Nat) (x:tt.den),l[i]? = some x->qs w F tt x (fun j u=>g (i*tt.size+j) u)
 |0,cs,l,g,h,_=>by
  cases cs with
  |nil=>
   simp only [qoo.splitN,ua0] at h;subst h;exact ⟨rfl,fun i x hx=>by simp at hx⟩
  |cons _ _=>simp [qoo.splitN] at h
 |n+1,cs,l,g,h,hr=>by
  simp only [qoo.splitN] at h;split at h<;>try trivial
  rename_i x hx;split at h<;>try trivial
  rename_i l' hl;cases h;obtain ⟨h1,h2⟩:=zb0 n hl (hr.drop_ tt.size);refine ⟨by simp [h1],fun i y hy=>?_⟩;cases i with
  |zero=>
   simp only [ubn,ua0] at hy;subst hy;have:=(qs.dec tt hx (hr.take_ tt.size)).1;simpa using this
  |succ i=>
   have:=h2 i y (by simpa using hy);have e:∀ j,tt.size+(i*tt.size+j)=(i+1)*tt.size+j:=fun j=>by rw [ucs]; omega
   simpa only [e] using this
theorem zmm {t:TypeId} {x:AV} {e:Eff} {v:Value} (hm:MemOK P B w F γ M) (hb:∀ b,F b->b<w.heap.size) (hsub:∀ i y,m i=some y->M i=some y) (h:qoo P t x m=some e) (hr:qz P w F (qp M γ) x v) :
  ∃ u F',(Instr.sliceAt t v none none none).run P w = .ok u w/\Step B w F γ M w F' γ (qx M e.wr)/\MemOK P B w F' γ (qx M e.wr)/\qz P w F' (qp (qx M e.wr) γ) e.v u:=by
 unfold qoo at h;split at h<;>try trivial
 rename_i n el id off ht;split at h<;>try trivial
 rename_i i tt bt cs hi htt hid;split at h<;>try trivial
 rename_i cs' hrs;split at h<;>try trivial
 rename_i seg hseg;split at h<;>try trivial
 rename_i l hl;split at h<;>try trivial
 rename_i hc;obtain ⟨c1,c2,c3⟩:=hc;cases h;obtain ⟨F1,b,g1,g2,s1,m1,r1⟩:=zau hm hb hsub hid hrs hid;obtain ⟨b',arr,q1,hv,q3,_,_,_,_⟩:=qi8 hm (hsub _ _ hid) hr.2;have hbb:b'=b:=by rw [g1] at q1; cases q1; rfl
 subst hbb;subst hv;obtain ⟨d1,d2⟩:=zb0 n hl (qir hseg r1).2;have hsz:=ke (w:=w) hi;refine ⟨.slice (some ⟨b',off,none⟩) n n,F1,?_,s1,m1,rfl,?_⟩
 ·simp only [Instr.sliceAt,ub4,uah ht,ubm,Instr.sureAddr,ud4,Instr.sliceBounds,hsz,Nat.sub_zero,Nat.zero_mul];have:(⟨b',off,none⟩:Addr).add 0=⟨b',off,none⟩:=by simp [Addr.add]
  simp [this]
 ·refine ⟨some ⟨b',off,none⟩,n,by rw [d1],by rw [d1]; exact Nat.le_refl _,by unfold maxLen; omega,fun k x hx=>⟨⟨b',off,none⟩,rfl,g2,?_⟩⟩;have:=d2 k x hx;refine this.mono (fun _ h=>h) (fun _ _=>rfl) fun j u _ hu=>?_;rw [qbf];exact hu
theorem qqi {n:Int}:(arr:List MapEntry)->(es:List (Int×Nat))->(i:Nat)->arr.map (fun e=>(e.key,e.val))=es.map (fun x=>(Value.int .i64 x.1,Value.func (.func x.2) #[] #[])) ->
  ∃ j,Instr.findNow (.int .i64) (.int .i64 n) arr i=some ((es.find? (fun x=>x.1==n)).map fun x=>(j,Value.func (.func x.2) #[] #[]))
 |[],[],_,_=>⟨0,rfl⟩
 |[],_::_,_,h=>by simp at h
 |_::_,[],_,h=>by simp at h
 |e::arr,(k,f)::es,i,h=>by
  simp only [ud0,uej,ua9] at h;obtain ⟨⟨h1,h2⟩,h3⟩:=h;simp only [Instr.findNow,h1,Instr.sameNow,if_true];by_cases hk:n=k
  ·subst hk;exact ⟨i,by simp [h2]⟩
  ·obtain ⟨j,hj⟩:=qqi (n:=n) arr es (i+1) h3;refine ⟨j,?_⟩;have e1:(n==k)=false:=by rw [ucu]; exact hk
   have e2:(k==n)=false:=by rw [ucu]; omega
   simp [e1,e2,List.find?,hj]
theorem qui {kt:TypeId} (hk:P.underlying kt=some (.int .i64)) (b:Bool) (d:Nat) (n:Int):(Instr.checkKey b (d+1) kt (.int .i64 n)).run P w = .ok () w:=by
 simp [Instr.checkKey,uah hk]
theorem ztn {t kt et:TypeId} {arr:Array MapEntry} {ck r:Nat} {es:List (Int×Nat)} (ht:P.underlying t=some (.map kt et)) (hk:P.underlying kt=some (.int .i64)) (hz:(zeroValue et).run P w = .ok .nilFunc w)
  (hr:w.heap[r]? = some (.map arr ck)) (he:arr.toList.map (fun e=>(e.key,e.val))=es.map (fun x=>(Value.int .i64 x.1,Value.func (.func x.2) #[] #[]))) (n:Int) :
  (Instr.lookup t (.map (some r)) (.int .i64 n) true).run P w = .ok (.tuple #[fsV (es.find? (fun x=>x.1==n)),.bool (es.find? (fun x=>x.1==n)).isSome]) w:=by
 obtain ⟨j,hj⟩:=qqi (n:=n) arr.toList es 0 he;have hck:(Instr.checkKey arr.isEmpty 10000 kt (.int .i64 n)).run P w = .ok () w:=qui hk arr.isEmpty 9999 n;have hob:(getObj r).run P w = .ok (.map arr ck) w:=by simp [getObj,Sem.run,hr]
 cases hf:es.find? (fun x=>x.1==n) with
 |none=>
  rw [hf] at hj;simp [Instr.lookup,uah ht,hob,hck,Instr.findKey,uah hk,hj,hz,fsV]
 |some x=>
  rw [hf] at hj;simp [Instr.lookup,uah ht,hob,hck,Instr.findKey,uah hk,hj,fsV]
set_option maxHeartbeats 4000000 in
theorem zni (hΓ:qhd P Γ) {d:Nat} {op:Op} {vs:List AV} {e:Eff} (ho:o.op=op) (hm:MemOK P B w F γ M) (hb:∀ b,F b->b<w.heap.size) (hB:B<=w.heap.size)
  (hsub:∀ i y,m i=some y->M i=some y) (hd:m d=none->M d=none) (hc:zr9 P Γ d op vs m=some e) (hn:qr e.need)
  (hr:zr P w F (qp M γ) vs (op.operands.toList.map a.eval)):zq5 P B o a w F γ M e.v e.wr:=by
 unfold zr9 at hc;split at hc
 ·
  rename_i x0 x;cases hc;exact yg hm hb (by unfold execOp; rw [ho]; rfl) hr.1
 ·
  rename_i x0 x;cases hc;exact yg hm hb (by unfold execOp; rw [ho]; rfl) hr.1
 ·
  rename_i el;split at hc<;>try trivial
  rename_i z hz hmd;split at hc<;>try trivial
  rename_i cs hcs;cases hc;obtain ⟨z1,z2,_⟩:=qgy hcs (qr2 (P:=P) (w:=w) (F:=F) (R:=qp M γ) z);obtain ⟨s1,s2⟩:=zp3 (ty:=el) hm hb hB (hd hmd) z1 z2;have hzv:(zeroValue el).run P w = .ok z w:=by
   cases hi:P.info? el with
   |none=>simp [hi] at hz
   |some i=>simp [hi] at hz; simp [zeroValue,typeInfo,hi,hz]
  refine qbs (kv (S:=Instr.alloc el true (.tuple #[])) (u:=.pointer (some ⟨w.heap.size,0,none⟩)) (w':=w.alloc (.cells z.cells el)) (by unfold execOp; rw [ho]) ?_) s1 s2 zqb;simp [Instr.alloc,hzv,newVar,newRow,newObj,Sem.run]
 ·
  rename_i el x0 x;split at hc<;>try trivial
  rename_i cs hcs hmd;cases hc;obtain ⟨z1,z2,_⟩:=qgy hcs hr.1;obtain ⟨s1,s2⟩:=zp3 (ty:=el) hm hb hB (hd hmd) z1 z2;refine qbs (kv (S:=Instr.box el (a.eval x0)) (u:=.pointer (some ⟨w.heap.size,0,none⟩)) (w':=w.alloc (.cells (a.eval x0).cells el)) (by unfold execOp; rw [ho]) ?_) s1 s2 zqb;simp [Instr.box,newVar,newRow,newObj,Sem.run]
 ·
  rename_i xs t ps;split at hc<;>try trivial
  rename_i v hv;cases hc;have hops:(Op.build t ps).operands.toList.map a.eval=ps.toList.map (fun p=>a.eval p.2):=by simp [Op.operands]
  rw [hops] at hr;have hz:=znb (idx:=ps.toList.map (·.1)) hr;have he:((ps.toList.map (·.1)).zip (ps.toList.map fun p=>a.eval p.2))=ps.toList.map fun p=>(p.1,a.eval p.2):=by
   rw [List.zip_map']
  rw [he] at hz;have hlen:=hr.length;obtain ⟨u,h1,h2⟩:=znf (ps:=ps.map fun p=>(p.1,a.eval p.2)) hv (by simp at hlen ⊢; omega) (fun k i x v h1 h2=>hz k i x v h1 (by simpa using h2));refine yg hm hb (kv (S:=Instr.build t (ps.map fun p=>(p.1,a.eval p.2))) ?_ h1) h2;unfold execOp; rw [ho]
 ·
  rename_i xs t n ps;split at hc<;>try trivial
  rename_i el ht hmd;split at hc<;>try trivial
  rename_i i tt xs' u hi htt hrs;split at hc<;>try trivial
  rename_i hcond;obtain ⟨c1,c2,c3,c4,c5⟩:=hcond;obtain ⟨z,hz,hzs⟩:∃ z,i.zero=some z/\z.cells.size=tt.size:=by
   cases hz:i.zero with
   |none=>simp [hz] at c5
   |some z=>exact ⟨z,rfl,by simpa [hz] using c5⟩
  split at hc<;>try trivial
  rename_i l hl;split at hc<;>try trivial
  rename_i hln;cases hc;have hops:(Op.buildSlice t n ps).operands.toList.map a.eval=ps.toList.map (fun p=>a.eval p.2):=by simp [Op.operands]
  rw [hops] at hr;obtain ⟨F1,s1,m1,t1,r1⟩:=wv hm hb (qa6.of hsub) hrs hr;have hz':=znb (idx:=ps.toList.map (·.1)) r1;have he:((ps.toList.map (·.1)).zip (ps.toList.map fun p=>a.eval p.2))=ps.toList.map fun p=>(p.1,a.eval p.2):=by
   rw [List.zip_map']
  rw [he] at hz';have hlen:=r1.length;have hMd:qx M u d=none:=by rw [zfn hmd hrs]; exact hd hmd
  obtain ⟨v,w',γ',h1,s2,m2,r2⟩:=qyj (ps:=ps.map fun p=>(p.1,a.eval p.2)) m1 s1.bd hB hMd ht hi hz c1 hzs c2 c3 hl hln (by simp at hlen ⊢; omega) (fun k i x v h1 h2=>hz' k i x v h1 (by simpa using h2));refine qbs (kv (S:=Instr.buildSlice t n (ps.map fun p=>(p.1,a.eval p.2))) (w':=w') ?_ h1) (F':=F1) (γ':=γ') ?_ ?_ ?_
  ·unfold execOp; rw [ho]
  ·rw [yz]; exact s1.trans s2
  ·rw [yz]; exact m2
  ·rw [yz]; exact r2
 ·
  rename_i t x0 x;obtain ⟨h1,u,h2,h3⟩:=za5 hm hsub hc hn hr.1;rw [h1];exact yg hm hb (kv (S:=Instr.loadAt t (a.eval x0)) (by unfold execOp; rw [ho]) h2) h3
 ·
  rename_i t x0 v0 x v;obtain ⟨h1,w',F1,h2,h3,h4⟩:=zor hm hb hsub hc hn hr.1 hr.2.1;rw [h1];intro K Q hK;unfold Oper.wp;have:(execOp a.eval o).run P w = .ok .skip w':=by
   unfold execOp;rw [ho];simp [h2]
  rw [this];exact hK undef w' F1 γ h3 h4 trivial
 ·
  rename_i x0 x;split at hc<;>try trivial
  ·rename_i id off;cases hc;obtain ⟨⟨h1,b,h2,h3⟩,_⟩:=hr;refine yg hm hb (u:=a.eval x0) ?_ ⟨h1,b,h2,h3⟩;unfold execOp;rw [ho];simp only [h3];rfl
  ·rename_i cs;cases hc;obtain ⟨⟨h1,ad,h2,h3⟩,_⟩:=hr;refine yg hm hb (u:=a.eval x0) ?_ ⟨h1,ad,h2,h3⟩;unfold execOp;rw [ho];simp only [h2];rfl
 ·
  rename_i bo t x0 y0 yt x y;split at hc
  ·rename_i v hv;cases hc;have key:zlc P t=true->∀ es (t0:Ty) (z:Int×t0.den) (vx:Value),zn P w F (qp M γ) (.ic es t0 z) vx->∀ q:BinOp,q = .eql∨q = .neq->(do eqGuard q t x0 (.const .nilIface) vx .nilIface; binOp q t vx .nilIface:Sem Value).run P w = .ok (.bool (if q = .eql then (yy es z.1).isNone else !(yy es z.1).isNone)) w:=fun hu es t0 z vx hx q hq=>by
    obtain ⟨ms,hms⟩:=yje hu;rcases zk1 hx with ⟨ty,u,i1,i2,_⟩|⟨i1,i2⟩
    ·subst i2;have he:(Op.equalIn (9999+1) t (.iface ty u) .nilIface).run P w = .ok false w:=ycz hms;have he2:Op.equal t (.iface ty u) .nilIface=Op.equalIn (9999+1) t (.iface ty u) .nilIface:=rfl;rcases hq with rfl|rfl
     ·have h1:binOp .eql t (.iface ty u) .nilIface=(do pure (.bool (← Op.equal t (.iface ty u) .nilIface))):=rfl;rw [h1,he2];simp [eqGuard,he,i1]
     ·have h1:binOp .neq t (.iface ty u) .nilIface=(do pure (.bool (!(← Op.equal t (.iface ty u) .nilIface)))):=rfl;rw [h1,he2];simp [eqGuard,he,i1]
    ·subst i2;have he:(Op.equalIn (9999+1) t .nilIface .nilIface).run P w = .ok true w:=zk3 hms;have he2:Op.equal t .nilIface .nilIface=Op.equalIn (9999+1) t .nilIface .nilIface:=rfl;rcases hq with rfl|rfl
     ·have h1:binOp .eql t .nilIface .nilIface=(do pure (.bool (← Op.equal t .nilIface .nilIface))):=rfl;rw [h1,he2];simp [eqGuard,he,i1]
     ·have h1:binOp .neq t .nilIface .nilIface=(do pure (.bool (!(← Op.equal t .nilIface .nilIface)))):=rfl;rw [h1,he2];simp [eqGuard,he,i1]
   unfold zyc at hv;split at hv<;>try trivial
   ·rename_i es t0 z;split at hv<;>try trivial
    rename_i hui;cases hv;refine yg hm hb (kv (S:=do eqGuard .eql t x0 (.const .nilIface) (a.eval x0) .nilIface; binOp .eql t (a.eval x0) .nilIface) (by unfold execOp; rw [ho]; rfl) (key hui es t0 z _ hr.1.2 .eql (.inl rfl))) ⟨rfl,rfl⟩
   ·rename_i es t0 z;split at hv<;>try trivial
    rename_i hui;cases hv;refine yg hm hb (kv (S:=do eqGuard .neq t x0 (.const .nilIface) (a.eval x0) .nilIface; binOp .neq t (a.eval x0) .nilIface) (by unfold execOp; rw [ho]; rfl) (key hui es t0 z _ hr.1.2 .neq (.inr rfl))) ⟨rfl,rfl⟩
  split at hc<;>try trivial
  rename_i c n hcb;cases hc;obtain ⟨u,h1,h2,h3⟩:=zrc hcb hn hr.1 hr.2.1 x0 y0;exact yg hm hb (kv (S:=do eqGuard bo t x0 y0 (a.eval x0) (a.eval y0); binOp bo t (a.eval x0) (a.eval y0)) (by unfold execOp; rw [ho]) h1) ⟨h2,h3⟩
 ·
  rename_i uo t x0 k n;split at hc<;>try trivial
  cases hc;obtain ⟨⟨_,h1,h2⟩,_⟩:=hr;refine yg hm hb (kv (S:=Op.unary .neg (a.eval x0)) (u:=.int k (k.wrap (0-n))) (by unfold execOp; rw [ho]) ?_) ⟨rfl,rfl,wq _ _⟩;rw [h1];simp [Op.unary,Op.intArith]
 ·
  rename_i uo t x0 bb;split at hc<;>try trivial
  cases hc;obtain ⟨⟨_,h1⟩,_⟩:=hr;simp only [zn] at h1;refine yg hm hb (kv (S:=Op.unary .not (a.eval x0)) (u:=.bool (!bb)) (by unfold execOp; rw [ho]) ?_) ⟨rfl,rfl⟩;rw [h1];simp [Op.unary]
 ·
  rename_i s t x0 k0 n;split at hc<;>try trivial
  rename_i ds k hs ht;cases hc;obtain ⟨⟨_,h1,h2⟩,_⟩:=hr;refine yg hm hb (kv (S:=convert s t (a.eval x0)) (u:=.int k (k.wrap n)) (by unfold execOp; rw [ho]) ?_) ⟨rfl,rfl,wq _ _⟩;rw [h1];simp [convert,run_underlying hs,run_underlying ht,Conv.intToInt]
 ·
  rename_i t n0 c0 k n k' c;obtain ⟨⟨_,h1,_⟩,⟨_,h2,_⟩,_⟩:=hr;obtain ⟨u,w',γ',e1,e2,e3,e4⟩:=ztu (kn:=k) (kc:=k') hm hb hB hd hc hn;refine qbs (kv (S:=Instr.makeSlice t (a.eval n0) (a.eval c0)) (by unfold execOp; rw [ho]) ?_) e2 e3 e4;rw [h1,h2];exact e1
 ·
  rename_i t x0 lo hi mx x r;split at hc
  ·rename_i e' hcut;cases hc;have hops:(Op.slice t x0 lo hi mx).operands.toList.map a.eval=a.eval x0::(lo.toList.map a.eval++(hi.toList.map a.eval++(mx.toList.map a.eval++[]))):=by simp [Op.operands]
   rw [hops] at hr;obtain ⟨h1,h2,h3,vh,u,γ',h4,h5,h6,h7,h8⟩:=zwm hm hb hB hsub hd hcut hn hr.1 hr.2;cases lo with
   |some _=>cases h1
   |none=>
    cases mx with
    |some _=>cases h3
    |none=>
     cases hi with
     |none=>cases h2
     |some hh=>
      simp only [Option.toList,List.map_nil,List.map_cons,List.nil_append,List.append_nil,List.cons.injEq,and_true] at h4;refine qbs (kv (S:=Instr.sliceAt t (a.eval x0) none (some (a.eval hh)) none) (w':=w) (by unfold execOp; rw [ho]; rfl) ?_) h6 h7 h8;rw [h4];exact h5
  split at hc
  ·rename_i e' hsp;cases hc;split at hsp<;>try trivial
   rename_i hno;cases lo with
   |some _=>cases hno.1
   |none=>
    cases hi with
    |some _=>cases hno.2.1
    |none=>
     cases mx with
     |some _=>cases hno.2.2
     |none=>
      obtain ⟨u,F1,e1,e2,e3,e4⟩:=zmm hm hb hsub hsp hr.1;exact qbs (kv (S:=Instr.sliceAt t (a.eval x0) none none none) (w':=w) (by unfold execOp; rw [ho]; rfl) e1) e2 e3 e4
  split at hc<;>try trivial
  rename_i el x' u l r1 ht hrs hlo;split at hc<;>try trivial
  rename_i h r2 hhi;split at hc<;>try trivial
  rename_i k hmx;split at hc<;>try trivial
  rename_i cc hne;split at hc<;>try trivial
  rename_i tt y hly;split at hc<;>try trivial
  rename_i hcond;obtain ⟨ti,hti⟩:=ub8.1 hcond.1;split at hc<;>try trivial
  rename_i z n hsl;cases hc;have hops:(Op.slice t x0 lo hi mx).operands.toList.map a.eval=a.eval x0::(lo.toList.map a.eval++(hi.toList.map a.eval++(mx.toList.map a.eval++[]))):=by simp [Op.operands]
  rw [hops] at hr;obtain ⟨F1,s1,m1,t1,r1⟩:=zfm hm hb (qa6.of hsub) hrs hr.1;obtain ⟨⟨kl,q1⟩,hr2⟩:=qqq hlo hr.2;obtain ⟨⟨kh,q2⟩,hr3⟩:=qqq hhi hr2;obtain ⟨⟨kk,q3⟩,hr4⟩:=qqq hmx hr3;obtain ⟨A,cap,hv,hrep⟩:=zx2 hly r1.2;rw [hv] at hrep;obtain ⟨v,e1,e2,e3⟩:=zgm (P:=P) (w:=w) (F:=F1) (R:=qp (qx M u) γ) (kl:=kl) (kh:=kh) (kk:=kk) ht hti hcond.2 hsl hn hrep;refine qbs (kv (S:=Instr.sliceAt t (a.eval x0) (lo.map a.eval) (hi.map a.eval) (mx.map a.eval)) (w':=w) (by unfold execOp; rw [ho]) ?_) s1 m1 ⟨e2,e3⟩;rw [hv,q1,q2,q3];exact e1
 ·
  rename_i s x0 f x;split at hc<;>try trivial
  rename_i v hv;cases hc;obtain ⟨u,h1,h2⟩:=zae hv hr.1;exact yg hm hb (kv (S:=Instr.fieldAt s (a.eval x0) f) (by unfold execOp; rw [ho]) h1) h2
 ·
  rename_i s x0 f cs;split at hc<;>try trivial
  rename_i fd hfd;split at hc<;>try trivial
  rename_i hcond;split at hc<;>try trivial
  rename_i l hl;split at hc<;>try trivial
  rename_i v hv;cases hc;obtain ⟨u,h1,h2⟩:=zny hfd hcond hl hv hr.1;exact yg hm hb (kv (S:=Instr.field s (a.eval x0) f) (by unfold execOp; rw [ho]) h1) h2
 ·
  rename_i t x0 i0 x k i;obtain ⟨hx,⟨_,h2,_⟩,_⟩:=hr;obtain ⟨h1,u,h3,h4⟩:=zn3 (k:=k) hm hsub hc hn hx;rw [h1];refine yg hm hb (kv (S:=Instr.indexAt t (a.eval x0) (a.eval i0)) (by unfold execOp; rw [ho]) ?_) h4;rw [h2];exact h3
 ·
  rename_i t x0 i0 x k i;obtain ⟨hx,⟨_,h2,_⟩,_⟩:=hr;obtain ⟨h1,u,h3,h4⟩:=zk6 (k:=k) hc hn hx;rw [h1];refine yg hm hb (kv (S:=Instr.index t (a.eval x0) (a.eval i0)) (by unfold execOp; rw [ho]) ?_) h4;rw [h2];exact h3
 ·
  rename_i t x0 y0 es n;split at hc<;>try trivial
  rename_i kt et ht;split at hc<;>try trivial
  rename_i hk hz;cases hc;obtain ⟨⟨_,hx⟩,⟨_,hy,_⟩,_⟩:=hr;simp only [zn] at hx hy;obtain ⟨r,arr,ck,e1,e2,e3,e4⟩:=hx;have hzv:(zeroValue et).run P w = .ok .nilFunc w:=by
   cases hi:P.info? et with
   |none=>simp [hi] at hz
   |some i=>simp [hi] at hz; simp [zeroValue,typeInfo,hi,hz]
  have hrun:=ztn (w:=w) ht hk hzv e3 e4 n;refine yg hm hb (kv (S:=Instr.lookup t (a.eval x0) (a.eval y0) true) (by unfold execOp; rw [ho]) (by rw [e1,hy]; exact hrun)) ?_;refine ⟨_,rfl,rfl,⟨fsV (es.find? (fun x=>x.1==n)),by simp,?_,?_⟩,⟨_,rfl,rfl,rfl⟩,trivial⟩
  ·cases es.find? (fun x=>x.1==n)<;>rfl
  ·simp only [zn]
 ·
  rename_i x0 i xs;split at hc<;>try trivial
  rename_i v hv;cases hc;obtain ⟨⟨arr,h1,h2,h3⟩,_⟩:=hr;have hat:∀ (xs:List AV) (g:Nat->Value->Prop) (i:Nat) (v:AV),qky P w F (qp M γ) xs g->xs[i]? = some v->∃ u,g i u/\qz P w F (qp M γ) v u:=by
   intro xs
   induction xs with
   |nil=>intro g i v _ h; simp at h
   |cons y ys ih=>
    intro g i v h hi;cases i with
    |zero=>simp at hi; subst hi; exact h.1
    |succ i=>exact ih _ i v h.2 (by simpa using hi)
  obtain ⟨u,h4,h5⟩:=hat xs _ i v h3 hv;refine yg hm hb (kv (S:=Instr.extract (a.eval x0) i) (by unfold execOp; rw [ho]) ?_) h5;rw [h1];simp [Instr.extract,h4]
 ·
  rename_i x0 xt ty es t x;split at hc<;>try trivial
  rename_i fs hu;split at hc<;>try trivial
  rename_i hz;cases hc;obtain ⟨z,hzv⟩:∃ z,(zeroValue ty).run P w = .ok z w:=by
   cases hi:P.info? ty with
   |none=>simp [hi] at hz
   |some i=>
    cases hz2:i.zero with
    |none=>simp [hi,hz2] at hz
    |some z=>exact ⟨z,by simp [zeroValue,typeInfo,hi,hz2]⟩
  have hx:=hr.1.2;rcases zk1 hx with ⟨ty',u,i1,i2,_⟩|⟨i1,i2⟩
  ·by_cases he:ty'=ty
   ·subst he;refine yg hm hb (kv (S:=Instr.typeAssert (a.eval x0) xt ty' true) (u:=.tuple #[u,.bool true]) (by unfold execOp; rw [ho]) ?_) ?_
    ·rw [i2];simp [Instr.typeAssert,uah hu]
    ·refine ⟨_,rfl,rfl,⟨u,rfl,trivial⟩,⟨_,rfl,rfl,?_⟩,trivial⟩;simp [zn,i1]
   ·refine yg hm hb (kv (S:=Instr.typeAssert (a.eval x0) xt ty true) (u:=.tuple #[z,.bool false]) (by unfold execOp; rw [ho]) ?_) ?_
    ·rw [i2];simp [Instr.typeAssert,uah hu,he,hzv]
    ·refine ⟨_,rfl,rfl,⟨z,rfl,trivial⟩,⟨_,rfl,rfl,?_⟩,trivial⟩;simp [zn,i1,he]
  ·refine yg hm hb (kv (S:=Instr.typeAssert (a.eval x0) xt ty true) (u:=.tuple #[z,.bool false]) (by unfold execOp; rw [ho]) ?_) ?_
   ·rw [i2];simp [Instr.typeAssert,uah hu,hzv]
   ·refine ⟨_,rfl,rfl,⟨z,rfl,trivial⟩,⟨_,rfl,rfl,?_⟩,trivial⟩;simp [zn,i1]
 ·
  rename_i xs f first cap
  split at hc<;>try trivial
  rename_i hf;split at hc<;>try trivial
  rename_i caps u hk;cases hc;have hfirst:first = #[]:=Array.eq_empty_of_size_eq_zero hf
  subst hfirst;have hops:(Op.makeFunc (.func f) #[] cap).operands.toList.map a.eval=(cap.map a.eval).toList:=by simp [Op.operands]
  rw [hops] at hr;obtain ⟨F1,s1,m1,r1⟩:∃ F1,Step B w F γ M w F1 γ (qx M u)/\MemOK P B w F1 γ (qx M u)/\zr P w F1 (qp (qx M u) γ) (caps.map .c) (cap.map a.eval).toList:=by
   split at hk
   ·exact qpu hm hb hsub hk hr
   ·obtain ⟨rfl,h2⟩:=ze8 hk hr;exact ⟨F,Step.refl hb,hm,h2⟩
  obtain ⟨l1,l2⟩:=zi0 r1;refine qbs (kv (S:=Instr.makeFunc (.func f) ((#[]:Array Operand).map a.eval) (cap.map a.eval)) (u:=.func (.func f) #[] (cap.map a.eval)) (w':=w) (by unfold execOp; rw [ho]) ?_) s1 m1 ?_
  ·simp [Instr.makeFunc]
  ·exact ⟨rfl,cap.map a.eval,rfl,by simpa using l1,by simpa using l2⟩
 ·
  rename_i xs bb cargs ts;have hops:(Op.call ⟨.builtin bb,cargs,ts⟩).operands.toList.map a.eval=(cargs.map a.eval).toList:=by simp [Op.operands,Call.operands]
  rw [hops] at hr;have hex:∀ (S:Sem Value) (u:Value) (w':World),(∀ (ty:TypeId) (cs:Array Bool),builtin bb ts ty cs (cargs.map a.eval)=(do pure (.value (← S)):Sem Next))->S.run P w = .ok u w'->(execOp a.eval o).run P w = .ok (.value u) w':=by
   intro S u w' h1 h2;unfold execOp;rw [ho];simp [resolve,invoke,h1,h2]
  unfold ygi at hc;split at hc<;>try trivial
  ·rename_i t x hts;have hargs:∃ v,cargs.map a.eval = #[v]/\qz P w F (qp M γ) x v:=by
    cases hl:(cargs.map a.eval).toList with
    |nil=>rw [hl] at hr; exact hr.elim
    |cons v r=>cases r with
     |nil=>rw [hl] at hr; exact ⟨v,by rw [← udx,hl],hr.1⟩
     |cons _ _=>rw [hl] at hr; exact hr.2.elim
   obtain ⟨v,hv,hx⟩:=hargs;have hts':ts = #[t]:=by rw [← udx,hts]
   obtain ⟨h1,u,h2,h3⟩:=zx1 hm hsub hc hx o.type;rw [h1];refine yg hm hb (hex (Builtin.len_ #[t] 0 #[v]) u w (fun ty cs=>?_) ?_) h3
   ·rw [hv,hts']; rfl
   ·exact h2
  ·rename_i t t' s x hts;split at hc<;>try trivial
   rename_i htt;subst htt;have hargs:∃ v1 v2,cargs.map a.eval = #[v1,v2]/\qz P w F (qp M γ) s v1/\qz P w F (qp M γ) x v2:=by
    cases hl:(cargs.map a.eval).toList with
    |nil=>rw [hl] at hr; exact hr.elim
    |cons v r=>cases r with
     |nil=>rw [hl] at hr; exact hr.2.elim
     |cons v2 r=>cases r with
      |nil=>rw [hl] at hr; exact ⟨v,v2,by rw [← udx,hl],hr.1,hr.2.1⟩
      |cons _ _=>rw [hl] at hr; exact hr.2.2.elim
   obtain ⟨v1,v2,hv,hs,hx⟩:=hargs;have hts':ts = #[t,t]:=by rw [← udx,hts]
   obtain ⟨u,w',γ',h2,h3,h4,h5⟩:=zh8 (ty:=0) hm hb hB hsub hd hc hn hs hx;refine qbs (hex (Builtin.append_ #[t,t] 0 #[v1,v2]) u w' (fun ty cs=>?_) h2) h3 h4 h5;rw [hv,hts']; rfl
  ·rename_i k n r;split at hc<;>try trivial
   rename_i y hy;cases hc;cases hl:(cargs.map a.eval).toList with
   |nil=>rw [hl] at hr; exact hr.elim
   |cons v r0=>
    rw [hl] at hr;obtain ⟨⟨_,rfl,hk⟩,hr⟩:=hr;obtain ⟨h1,h2⟩:=zfb hy hk hr;refine yg hm hb (hex (Builtin.min_ ts 0 (cargs.map a.eval)) (.int k y) w (fun ty cs=>rfl) ?_) ⟨rfl,rfl,h2⟩;simp only [Builtin.min_,hl];exact h1
  ·rename_i k n r;split at hc<;>try trivial
   rename_i y hy;cases hc;cases hl:(cargs.map a.eval).toList with
   |nil=>rw [hl] at hr; exact hr.elim
   |cons v r0=>
    rw [hl] at hr;obtain ⟨⟨_,rfl,hk⟩,hr⟩:=hr;obtain ⟨h1,h2⟩:=ze9 hy hk hr;refine yg hm hb (hex (Builtin.max_ ts 0 (cargs.map a.eval)) (.int k y) w (fun ty cs=>rfl) ?_) ⟨rfl,rfl,h2⟩;simp only [Builtin.max_,hl];exact h1
 ·
  rename_i recv name cargs ts es t x args;split at hc<;>try trivial
  rename_i args' u fs hrs hfs;split at hc<;>try trivial
  rename_i rs y n hv;cases hc;have hops:(Op.call ⟨.invoke recv name,cargs,ts⟩).operands.toList.map a.eval=a.eval recv::(cargs.map a.eval).toList:=by simp [Op.operands,Call.operands]
  rw [hops] at hr;obtain ⟨F1,s1,m1,t1,r1⟩:=wv hm hb (qa6.of hsub) hrs hr.2;have hx:=hr.1.2;rcases zk1 hx with ⟨ty,v0,i1,i2,i3⟩|⟨i1,i2⟩
  ·have hrx:qz P w F1 (qp (qx M u) γ) (qga t x.2) v0:=qbi (i3.mono s1.hF (fun _ _=>rfl));obtain ⟨f,e1,e2,e3⟩:=qp6 hΓ (k:=x.1) s1.bd (vs:=v0::(cargs.map a.eval).toList) (args:=qga t x.2::args') ⟨hrx,r1⟩ hv hn;obtain ⟨p,hp,hpf⟩:∃ p,fs.find? (fun x'=>x'.1==x.1)=some p/\p.2=f:=by
    cases hq:fs.find? (fun x'=>x'.1==x.1) with
    |none=>rw [hq] at e1; simp [fsV] at e1
    |some p=>rw [hq] at e1; simp [fsV] at e1; exact ⟨p,rfl,e1⟩
   subst hpf;obtain ⟨ty',j1,j2⟩:=qss hfs hp;rw [i1] at j1;cases j1;intro K Q hK;unfold Oper.wp;have q1:(#[Value.iface ty v0]++Array.map a.eval cargs)[0]? = some (.iface ty v0):=by simp [Array.getElem?_append]
   have q2:(Array.map a.eval cargs).extract 0 cargs.size=Array.map a.eval cargs:=by
    have:cargs.size=(Array.map a.eval cargs).size:=by simp
    rw [this];exact Array.extract_size
   have hrun:(execOp a.eval o).run P w = .ok (.enter p.2 (#[v0]++cargs.map a.eval)) w:=by
    unfold execOp;rw [ho];simp only [resolve,Sem.run_bind,Sem.run_pure,Result.andThen_ok,invoke,i2];rw [q1];have q3:(#[Value.iface ty v0]++Array.map a.eval cargs).extract 1 (#[Value.iface ty v0]++Array.map a.eval cargs).size=Array.map a.eval cargs:=by simp [q2]
    simp only [q3];rw [yep j2,e2]
   rw [hrun];show Calls P p.2 (#[v0]++cargs.map a.eval) w _;have harr:(v0::(cargs.map a.eval).toList).toArray = #[v0]++cargs.map a.eval:=by simp
   rw [harr] at e3;refine e3.mono fun en w2 hp=>?_;obtain ⟨v2,F2,rfl,hbel,hF2,hF2',hrep⟩:=hp;obtain ⟨s2,m2⟩:=Step.below m1 hB s1.bd hbel hF2 hF2';exact hK v2 w2 F2 γ (s1.trans s2) m2 (qsg hrep)
  ·obtain ⟨p,hp⟩:=zd8 hv hn;obtain ⟨ty',j1,_⟩:=qss hfs hp;rw [i1] at j1;cases j1
 ·
  rename_i f0 cargs ts es n id args;split at hc<;>try trivial
  rename_i ety cs hid;split at hc<;>try trivial
  rename_i T z ns hu;cases hc;have hops:(Op.call ⟨.value f0,cargs,ts⟩).operands.toList.map a.eval=a.eval f0::(cargs.map a.eval).toList:=by simp [Op.operands,Call.operands]
  rw [hops] at hr
  match hca:(cargs.map a.eval).toList,hr with
  |[],hr=>exact hr.2.elim
  |vp::vs,⟨⟨_,hf⟩,⟨_,hp⟩,hvs⟩=>
   have hf:a.eval f0=fsV (es.find? (fun x=>x.1==n)):=hf;obtain ⟨b,arr,q1,rfl,q3,q4,q5,q6,q7⟩:=qi8 hm (hsub _ _ hid) hp;have hone:∀ u∈arr,u.oneCell'=true:=fun u hu=>by
    obtain ⟨j,hj,rfl⟩:=Array.getElem_of_mem hu;obtain ⟨u',z1,z2,_⟩:=q7.at_ (j:=j) (c:=cs[j]'(by omega)) (ua7 _);rw [ubg hj] at z1;cases z1;exact z2
   obtain ⟨hl,f,e1,e2,e3⟩:=zb8 hΓ q3 q6 hone q7 hvs hu hn;intro K Q hK;unfold Oper.wp;have hrun:(execOp a.eval o).run P w = .ok (.enter f (cargs.map a.eval)) w:=by
    unfold execOp;rw [ho];simp [resolve,hf,e1,Deferred.ofValue,invoke,e2]
   rw [hrun];show Calls P f (cargs.map a.eval) w _;have harr:(Value.pointer (some ⟨b,0,none⟩)::vs).toArray=cargs.map a.eval:=by rw [← hca]
   rw [harr] at e3;refine e3.mono fun en w2 hp2=>?_;obtain ⟨u,nv,rfl,r1,rfl,r2⟩:=hp2;have hrep:qu P w F (qp M γ) (enc T z) (fun j u=>(ym arr 0 nv)[j]? = some u):=by
    refine (qs.enc T z r2).turn fun j u hj hu=>?_;rw [qcq] at hj;have:=qm9 (arr:=arr) (off:=0) (vs:=nv) (j:=j) (by omega) (by omega);rw [uai] at this;rw [this];exact hu
   obtain ⟨s1,m1⟩:=qix hm hb (hsub _ _ hid) q1 q3 q4 q5 (by omega) (by rw [qcq]; omega) hrep;have hov:ym arr 0 nv=nv.toArray:=by
    have:nv.length=arr.size:=by omega
    simp [ym,this]
   rw [hov] at s1 m1;exact hK u _ F γ s1 m1 trivial
 ·
  rename_i f0 cargs ts fv args _;split at hc
  ·rename_i rw0 hrow;have hops:(Op.call ⟨.value f0,cargs,ts⟩).operands.toList.map a.eval=a.eval f0::(cargs.map a.eval).toList:=by simp [Op.operands,Call.operands]
   rw [hops] at hr;unfold yg3 at hrow;split at hrow<;>try trivial
   rename_i f1 _;obtain ⟨_,arr,e1,e2,_⟩:=hr.1;have e3:arr = #[]:=Array.eq_empty_of_size_eq_zero e2;subst e3;obtain ⟨hen,hcalls⟩:=zy4 (hΓ.2 _ _ hrow) hm hb hB hsub hd hc hn hr.2;intro K Q hK;unfold Oper.wp;have hrun:(execOp a.eval o).run P w = .ok (.enter f1 (cargs.map a.eval)) w:=by
    unfold execOp;rw [ho];simp [resolve,e1,Deferred.ofValue,invoke,hen]
   rw [hrun];show Calls P f1 (cargs.map a.eval) w _;rw [uev] at hcalls;refine hcalls.mono fun en w2 hp=>?_;obtain ⟨u,γ',rfl,s1,m1,r1⟩:=hp;exact hK u w2 F γ' s1 m1 r1
  split at hc<;>try trivial
  rename_i args' u hrs;split at hc<;>try trivial
  rename_i v n hv;cases hc;have hops:(Op.call ⟨.value f0,cargs,ts⟩).operands.toList.map a.eval=a.eval f0::(cargs.map a.eval).toList:=by simp [Op.operands,Call.operands]
  rw [hops] at hr;obtain ⟨F1,s1,m1,t1,r1⟩:=wv hm hb (qa6.of hsub) hrs hr.2;obtain ⟨f,caps,e1,e2,rs,y,e3,e4⟩:=zng hΓ hv hn s1.bd (s1.repA hr.1) r1;intro K Q hK;unfold Oper.wp;have hrun:(execOp a.eval o).run P w = .ok (.enter f (cargs.map a.eval++caps)) w:=by
   unfold execOp;rw [ho];simp [resolve,e1,Deferred.ofValue,invoke,e2]
  rw [hrun];show Calls P f (cargs.map a.eval++caps) w _;rw [uev] at e4;refine e4.mono fun e w2 hp=>?_;obtain ⟨v2,F2,rfl,hbel,hF2,hF2',hrep⟩:=hp;obtain ⟨s2,m2⟩:=Step.below m1 hB s1.bd hbel hF2 hF2';exact hK v2 w2 F2 γ (s1.trans s2) m2 (by rw [e3]; exact qsg hrep)
 ·cases hc
end
end Go.Ab
