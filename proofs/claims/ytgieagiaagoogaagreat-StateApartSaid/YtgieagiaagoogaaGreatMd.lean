/-
  Parts of the proof, one behind the other: B3, B4, B5, D1, D2, D3, D4, D5, C1, C4, C5, C2, C3, D6, D7, D8, E1, E2, AbE, H1, AbF, I1, I2.
-/
import Derived.Test.YtgieagiaagoogaaGreatMc
import Derived.RangeFuncNested
import Derived.RangeFuncBound
import Derived.RangeFuncCalls
import Derived.RangeFuncLeaves
import Derived.Shelf.Abstract
import Derived.Shelf.RegionOpen
import Derived.WalkKit
import Derived.OwnWalkIn
import Derived.TacticsInMore
import Derived.LoopNIn
import Derived.LoopIn
import Derived.Lib.Hide
import Derived.IntWalk
import Derived.Tactics2
import Derived.Laws.Pointers
import Derived.ScopeJumps
set_option linter.all false
abbrev uac:=@of_decide_eq_false
abbrev uan:=@decide_eq_true
abbrev uao:=@decide_eq_false
abbrev uat:=@Go.RowKit.Below.refl
abbrev uau:=@Bool.eq_iff_iff
abbrev uax:=@Go.World.alloc_heap_new
abbrev ub1:=@Go.World.size_alloc
abbrev ub6:=@Int.le_trans
abbrev ubv:=@Array.replicate_succ
abbrev ubw:=@Array.replicate_zero
abbrev ubx:=@List.push_toArray
abbrev uby:=@List.append_toArray
abbrev ubz:=@Go.Proofs.enters_of
abbrev uc0:=@List.pairwise_append
abbrev uc5:=@List.drop_eq_nil_of_le
abbrev uc6:=@Go.KeepsOthers.setCell
abbrev ucb:=@Go.callsIn_wide
abbrev ucc:=@Go.World.putObj_heap_other
abbrev ucl:=@Nat.zero_le
abbrev ucm:=@List.mem_of_mem_drop
abbrev ucn:=@Int.toNat_natCast
abbrev ucw:=@List.length_eq_zero_iff
abbrev ud2:=@List.mem_singleton
abbrev ud9:=@Bool.true_and
abbrev uda:=@List.map_append
abbrev udb:=@Go.callsIn_of_wp
abbrev udq:=@Go.results_none
abbrev udr:=@List.take_left'
abbrev ue4:=@cond_true
abbrev ue5:=@Go.belowK_b
abbrev ue6:=@Bool.and_true
abbrev ue7:=@List.length_zip
abbrev ue8:=@List.pairwise_singleton
abbrev ue9:=@List.take_append_drop
abbrev ueo:=@Bool.eq_false_iff
abbrev uep:=@List.mem_of_mem_take
abbrev ueq:=@Nat.mul_assoc
abbrev uf7:=@Go.bodyPost_ret
abbrev uf8:=@Int.mul_nonneg
abbrev uf9:=@Go.Proofs.Tryz.results151
abbrev ufa:=@Go.IntWalk.wrap64_in
abbrev ufb:=@Go.KeepsOthers.alloc
abbrev ufc:=@Go.grownBy_putObj'
abbrev ufd:=@Go.run_takeDeferred
abbrev ufe:=@Go.callsD_of_wpS
abbrev uff:=@Go.wpS_region
abbrev ufg:=@Int.le_of_eq
abbrev ufh:=@List.length_pos_iff
abbrev ug7:=@Go.World.size_setCell
abbrev ug8:=@Go.callsIn_of_wp_marks
abbrev ug9:=@BitVec.toNat_ofInt
abbrev uga:=@List.filter_append
abbrev ugb:=@List.Perm.refl
abbrev ugc:=@List.drop_left'
abbrev ugd:=@Int.add_zero
abbrev ugo:=@List.getLast?_eq_getElem?
abbrev ugp:=@List.mem_or_eq_of_mem_set
namespace Go.Proofs.YtgieagiaagoogaaGreat
open Go Go.Ab Go.RowKit Go.Proofs
theorem zi4 {x:Int}:{l:List Int}->l.Pairwise (· < ·)->(∀ k y,k<cnt l x->l[k]? = some y->y<x)/\∀ k y,cnt l x<=k->l[k]? = some y->¬ y<x
 |[],_=>⟨fun k y _ h=>by simp at h,fun k y _ h=>by simp at h⟩
 |a::r,h=>by
  obtain ⟨h1,h2⟩:=ub2.1 h;obtain ⟨i1,i2⟩:=zi4 (x:=x) h2;by_cases ha:a<x
  ·have hc:cnt (a::r) x=cnt r x+1:=by simp [cnt,List.countP_cons,ha]
   rw [hc];refine ⟨fun k y hk hy=>?_,fun k y hk hy=>?_⟩
   ·cases k with
    |zero=>simp at hy; omega
    |succ k=>exact i1 k y (by omega) (by simpa using hy)
   ·cases k with
    |zero=>omega
    |succ k=>exact i2 k y (by omega) (by simpa using hy)
  ·have hz:cnt (a::r) x=0:=by
    unfold cnt;rw [List.countP_eq_zero];intro y hy;rcases List.mem_cons.1 hy with rfl|hy
    ·simpa using ha
    ·have:=h1 y hy;simp;omega
   rw [hz];refine ⟨fun k y hk _=>by omega,fun k y _ hy=>?_⟩;cases k with
   |zero=>simp at hy; omega
   |succ k=>
    have hm:y∈r:=ube (by simpa using hy);have:=h1 y hm;omega
theorem zpe {l:List Int} {x:Int} (h:l.Pairwise (· < ·)):x∈l↔l[cnt l x]? = some x:=by
 obtain ⟨h1,h2⟩:=zi4 (x:=x) h;constructor
 ·intro hm;obtain ⟨k,hk⟩:=uf5.1 hm;by_cases hlt:k<cnt l x
  ·have:=h1 k x hlt hk;omega
  ·by_cases he:k=cnt l x
   ·rw [← he]; exact hk
   ·have hkl:=(uaj.1 hk).1;have hy:l[cnt l x]? = some (l[cnt l x]'(by omega)):=ua7 (by omega);have a1:=zm0 h (by omega) hy hk;have a2:=h2 _ _ (ua3 _) hy;omega
 ·exact fun hk=>ube hk
theorem zwf (l:List Int) (x:Int):cnt l x<=l.length:=List.countP_le_length
theorem ztk {l:List Int} {x:Int} (h:l.Pairwise (· < ·)) (hl:(l.length:Int)<=9223372036854775807):InvB l x 0 l.length:=
 ⟨ua4 _,by omega,ua4 _,hl,h,fun k y hk _=>by omega,fun k y hk hy=>by
  have:=(uaj.1 hy).1;omega⟩
theorem yi1 {l:List Int} {x:Int} (h:l.Pairwise (· < ·)) (hl:(l.length:Int)<=9223372036854775807):(frS (l,x,())).ok/\(frS (l,x,())).get=((cnt l x:Int),l.contains x,()):=by
 have hle:=zwf l x;refine ⟨⟨ztk h hl,fun hd=>?_,fun _ hd=>?_,trivial⟩,?_⟩
 ·have hd':(cnt l x:Int)<l.length:=by simpa using hd
  exact ⟨by omega,hd'⟩
 ·have hd':(cnt l x:Int)<l.length:=by simpa using hd
  exact ⟨by omega,hd'⟩
 ·show ((cnt l x:Int),(bif decide ((cnt l x:Int)<l.length) then bif l.getD (cnt l x) i64.dflt==x then true else (bif false then false else false) else false),())=_;have hb:(bif decide ((cnt l x:Int)<l.length) then bif l.getD (cnt l x) i64.dflt==x then true else (bif false then false else false) else false)=l.contains x:=by
   have hm:=zpe (x:=x) h;by_cases hlt:cnt l x<l.length
   ·have h1:decide ((cnt l x:Int)<l.length)=true:=by simpa using hlt
    have hg:l[cnt l x]? = some (l[cnt l x]'hlt):=ua7 hlt;have hd:l.getD (cnt l x) i64.dflt=l[cnt l x]'hlt:=by rw [ua6,hg]; rfl
    rw [h1,hd];simp only [ue4];by_cases he:l[cnt l x]'hlt=x
    ·have:x∈l:=hm.2 (by rw [hg,he]);simp [he,this]
    ·have:¬ x∈l:=fun hx=>he (by have:=hm.1 hx; rw [hg] at this; simpa using this);simp [he,this]
   ·have h1:decide ((cnt l x:Int)<l.length)=false:=by simpa using hlt
    have:¬ x∈l:=fun hx=>by
     have:=hm.1 hx;rw [ucy (by omega)] at this;cases this
    rw [h1];simp [this]
  rw [hb]
def zco:Ct:=⟨[.d jg,.d i64],[i64,.bool],fun x=>((cnt x.1 x.2.1:Int),x.1.contains x.2.1,()),fun x=>[x.1.Pairwise (· < ·)]⟩
theorem zze:qa Tryz.prog 223 zco:=
 conv zzd _ _ fun w F xs vs hr hok=>by
  obtain ⟨l,x,_⟩:=xs;obtain ⟨v,vs',rfl,hv,_⟩:=hr;have hwf:=qs.wf hv.2.2;have hlen:(l.length:Int)<=9223372036854775807:=by
   have:=hwf.1;simp only [maxLen] at this;omega
  exact yi1 hok hlen
def qwq (l:List Int) (x:Int):Nat:=l.countP fun y=>decide (y<=x)
theorem zi3 {x:Int}:{l:List Int}->l.Pairwise (· < ·)->qwq l x=cnt l x+(if l.contains x then 1 else 0)
 |[],_=>rfl
 |a::r,h=>by
  obtain ⟨h1,h2⟩:=ub2.1 h;have ih:=zi3 (x:=x) h2;have hnot:a=x->¬ x∈r:=fun he hm=>by have:=h1 x hm; omega
  unfold qwq cnt at *;rw [List.countP_cons,List.countP_cons,ih];rcases Int.lt_trichotomy a x with hlt|heq|hgt
  ·have:¬ x=a:=by omega
   simp [hlt,ubs hlt,this];omega
  ·subst heq;have:=hnot rfl;simp [this]
  ·have h3:¬ a<=x:=by omega
   have h4:¬ a<x:=by omega
   have h5:¬ x=a:=by omega
   simp [h3,h4,h5]
def wd (f:zg.den) (d:Int):Int:=match qwq f.1 d with
 |0=>0
 |k+1=>f.2.1.getD k 0
def Γ3:FuncId->Option Ct:=fun f=>if f=223 then some zco else if f=204 then some zis else none
def C3:Cx:=⟨Γ3,fun _=>none,fun _ _ _ _=>none⟩
theorem zgo:CxOK Tryz.prog C3:=zlq fun f ct h=>by
 simp only [Γ3] at h;split at h
 ·rename_i hf; subst hf; cases h; exact zze
 ·split at h
  ·rename_i hf; subst hf; cases h; exact ydn
  ·cases h
def frV (x:qn [.d zg,.d i64]):Fr (qi [i64]):=
 let r:=zco.f (x.1.1,x.2.1,())
 Fr.need (x.1.1.Pairwise (· < ·))
  (Fr.br (!r.2.1)
   (Fr.br (decide (IntKind.i64.wrap (r.1-1)<0)) (Fr.val (0,()))
    (Fr.need (0<=IntKind.i64.wrap (r.1-1)/\IntKind.i64.wrap (r.1-1)<x.1.2.1.length) (Fr.val (x.1.2.1.getD (IntKind.i64.wrap (r.1-1)).toNat i64.dflt,()))))
   (Fr.br (decide (r.1<0)) (Fr.val (0,()))
    (Fr.need (0<=r.1/\r.1<x.1.2.1.length) (Fr.val (x.1.2.1.getD r.1.toNat i64.dflt,())))))
theorem yfr:qa Tryz.prog 206 ⟨[.d zg,.d i64],[i64],fun xs=>(frV xs).get,fun xs=>[(frV xs).ok]⟩:=
 qg zgo (Λ:=zyf) (fn:=Tryz.f206) (([],[],()),0,()) (by kernel_rfl) (fun c E _=>qhu c 0) (fun xs=>by kernel_rfl)
theorem yi3 {at_ val:List Int} {d:Int} (h:at_.Pairwise (· < ·)) (hl:(at_.length:Int)<=9223372036854775807) (hlen:at_.length=val.length) :
  (frV ((at_,val,()),d,())).ok/\(frV ((at_,val,()),d,())).get=(wd (at_,val,()) d,()):=by
 have hle:=zwf at_ d;have hcl:=zi3 (x:=d) h;have hmem:=zpe (x:=d) h;by_cases hc:d∈at_
 ·have hcb:at_.contains d=true:=by simpa using hc
  have hlt:cnt at_ d<at_.length:=(uaj.1 (hmem.1 hc)).1;have hv:wd (at_,val,()) d=val.getD (cnt at_ d) 0:=by
   unfold wd;simp only [hcl,hcb,if_true]
  refine ⟨⟨h,fun hb=>?_,fun _=>⟨fun hb=>?_,fun _=>⟨⟨by show (0:Int)<=(cnt at_ d:Int); omega,by show (cnt at_ d:Int)<val.length; omega⟩,trivial⟩⟩⟩,?_⟩
  ·have hb':(!at_.contains d)=true:=hb;rw [hcb] at hb';cases hb'
  ·trivial
  ·show (if (!at_.contains d)=true then _ else if decide ((cnt at_ d:Int)<0)=true then ((0:Int),()) else (val.getD (Int.toNat (cnt at_ d:Int)) i64.dflt,()))=_;have h0:decide ((cnt at_ d:Int)<0)=false:=by simp
   rw [hcb,h0,hv];rfl
 ·have hcb:at_.contains d=false:=by simpa using hc
  have hw:IntKind.i64.wrap ((cnt at_ d:Int)-1)=(cnt at_ d:Int)-1:=uag _ (by omega);have hv:wd (at_,val,()) d=(match cnt at_ d with|0=>0|k+1=>val.getD k 0):=by
   unfold wd;simp only [hcl,hcb,Bool.false_eq_true,if_false,Nat.add_zero]
  refine ⟨⟨h,fun _=>⟨fun _=>trivial,fun hb=>?_⟩,fun hb=>?_⟩,?_⟩
  ·have hb':decide (IntKind.i64.wrap ((cnt at_ d:Int)-1)<0)=false:=hb;rw [hw] at hb';have hb2:¬ ((cnt at_ d:Int)-1<0):=by simpa using hb'
   refine ⟨?_,trivial⟩;show 0<=IntKind.i64.wrap ((cnt at_ d:Int)-1)/\IntKind.i64.wrap ((cnt at_ d:Int)-1)<val.length;rw [hw];omega
  ·have hb':(!at_.contains d)=false:=hb;rw [hcb] at hb';cases hb'
  ·show (if (!at_.contains d)=true then (if decide (IntKind.i64.wrap ((cnt at_ d:Int)-1)<0)=true then ((0:Int),()) else (val.getD (IntKind.i64.wrap ((cnt at_ d:Int)-1)).toNat i64.dflt,())) else _)=_;rw [hcb,hw,hv];cases hk:cnt at_ d with
   |zero=>rfl
   |succ k=>
    have h0:decide (((k+1:Nat):Int)-1<0)=false:=by simp
    have h1:(((k+1:Nat):Int)-1).toNat=k:=by omega
    rw [h0,h1];rfl
def ym6:Ct:=⟨[.d zg,.d i64],[i64],fun x=>(wd x.1 x.2.1,()),fun x=>[x.1.1.Pairwise (· < ·),x.1.1.length=x.1.2.1.length]⟩
theorem yfs:qa Tryz.prog 206 ym6:=
 conv yfr _ _ fun w F xs vs hr hok=>by
  obtain ⟨⟨at_,val,_⟩,d,_⟩:=xs;obtain ⟨v,vs',rfl,hv,_⟩:=hr;have hwf:=qs.wf hv.2.2;have hlen:(at_.length:Int)<=9223372036854775807:=by
   have:=hwf.1.1;simp only [maxLen] at this;omega
  exact yi3 hok.1 hlen hok.2
def qcr:List Int->List Int->Int->Int->Bool
 |d::l,v::r,day,last=>(decide (day<d)&&(decide (d<=292194)&&(!(v==last)&&qea v)))&&qcr l r d v
 |_,_,_,_=>true
abbrev ptR:Pt:=⟨48,0,⟨[(18,.d i64),(17,.d i64),(16,.d jg),(3,.d i64),(4,.d i64)],[.x 1 190 zg,.r 1 1 0]⟩,⟨[],[]⟩,⟨[(2,.d .bool)],[]⟩⟩
def frR (x:ptR.M.X):Fr ptR.Out:=
 Fr.br (decide (x.1.1<x.1.2.1))
  (Fr.need (0<=x.1.1/\x.1.1<x.1.2.2.1.length)
   (Fr.need (0<=x.1.1/\x.1.1<x.2.1.2.1.length)
    (Fr.br
     (bif bif bif decide (x.1.2.2.1.getD x.1.1.toNat i64.dflt<=x.1.2.2.2.1) then true else decide (x.1.2.2.1.getD x.1.1.toNat i64.dflt>292194) then true
       else x.2.1.2.1.getD x.1.1.toNat i64.dflt==x.1.2.2.2.2.1 then true
      else !(zis.f (x.2.1.2.1.getD x.1.1.toNat i64.dflt,())).1)
     (Fr.val (Rd.back ((false,()),())))
     (Fr.val (Rd.next ((IntKind.i64.wrap (x.1.1+1),x.1.2.1,x.1.2.2.1,x.1.2.2.1.getD x.1.1.toNat i64.dflt,x.2.1.2.1.getD x.1.1.toNat i64.dflt,()),(x.2.1.1,x.2.1.2.1,()),()))))))
  (Fr.val (Rd.out ((),())))
theorem ys7:qf Tryz.prog (qrm Tryz.f185 0) ptR.M ptR frR:=
 qf.of_run zgo (bs:=0) (Λ:=zyf) rfl rfl rfl (fun E=>qhu _ 0) (fun x=>by kernel_rfl)
theorem zof {b:Bool} (h:(!b)=true):b=false:=by cases b<;>first|rfl|cases h
theorem zlm {b:Bool} (h:(!b)=false):b=true:=by cases b<;>first|rfl|cases h
structure InvR (i n:Int) (l at_ val:List Int):Prop where
 same:l=at_
 len:n=l.length
 both:at_.length=val.length
 lo:0<=i
 hi:i<=n
 big:(l.length:Int)<=9223372036854775807
def FR (x:ptR.M.X):Fr ptR.Out:=
 Fr.need (InvR x.1.1 x.1.2.1 x.1.2.2.1 x.2.1.1 x.2.1.2.1)
  (Fr.br (qcr (x.1.2.2.1.drop x.1.1.toNat) (x.2.1.2.1.drop x.1.1.toNat) x.1.2.2.2.1 x.1.2.2.2.2.1) (Fr.val (Rd.out ((),()))) (Fr.val (Rd.back ((false,()),()))))
theorem ysz (i n:Int) (l:List Int) (d v:Int) (at_ val:List Int) (hinv:InvR i n l at_ val) (Q:ptR.Out->Prop)
  (hq:(Fr.br (qcr (l.drop i.toNat) (val.drop i.toNat) d v) (Fr.val (Rd.out ((),()))) (Fr.val (Rd.back ((false,()),()))):Fr ptR.Out).satP Q) :
  (frR ((i,n,l,d,v,()),(at_,val,()),())).satP fun
   |.next x'=>InvR x'.1.1 x'.1.2.1 x'.1.2.2.1 x'.2.1.1 x'.2.1.2.1/\(x'.1.2.1-x'.1.1).toNat<(n-i).toNat/\(FR x').satP Q
   |.out y=>Q (.out y)
   |.back z=>Q (.back z)
   |.pan p=>Q (.pan p):=by
 obtain ⟨rfl,rfl,h3,h4,h5,h6⟩:=hinv;refine ⟨fun hi=>?_,fun hi=>?_⟩
 ·have hi':i<l.length:=by simpa using hi
  have hl:i.toNat<l.length:=by omega
  have hv:i.toNat<val.length:=by omega
  have e1:l.drop i.toNat=l[i.toNat]::l.drop (i.toNat+1):=ubp hl;have e2:val.drop i.toNat=val[i.toNat]::val.drop (i.toNat+1):=ubp hv;have g1:l.getD i.toNat i64.dflt=l[i.toNat]:=by rw [ua6,ua7 hl]; rfl
  have g2:val.getD i.toNat i64.dflt=val[i.toNat]:=by rw [ua6,ua7 hv]; rfl
  rw [e1,e2] at hq;generalize hx:l[i.toNat]=x at *;generalize hy:val[i.toNat]=y at *;have hw:IntKind.i64.wrap (i+1)=i+1:=uag _ (by omega);have hn:(i+1).toNat=i.toNat+1:=by omega
  refine ⟨⟨h4,hi'⟩,⟨h4,by show i<(val.length:Int); omega⟩,?_⟩;show ((bif bif bif decide (l.getD i.toNat i64.dflt<=d) then true else decide (l.getD i.toNat i64.dflt>292194) then true else val.getD i.toNat i64.dflt==v then true else !(qea (val.getD i.toNat i64.dflt)))=true->Q (Rd.back ((false,()),()))) /\
   ((bif bif bif decide (l.getD i.toNat i64.dflt<=d) then true else decide (l.getD i.toNat i64.dflt>292194) then true else val.getD i.toNat i64.dflt==v then true else !(qea (val.getD i.toNat i64.dflt)))=false ->
    InvR (IntKind.i64.wrap (i+1)) l.length l l val/\((l.length:Int)-IntKind.i64.wrap (i+1)).toNat<((l.length:Int)-i).toNat /\
     (FR ((IntKind.i64.wrap (i+1),(l.length:Int),l,l.getD i.toNat i64.dflt,val.getD i.toNat i64.dflt,()),(l,val,()),())).satP Q)
  rw [g1,g2,hw];have hcond:(bif bif bif decide (x<=d) then true else decide (x>292194) then true else y==v then true else !(qea y)) = !(decide (d<x)&&(decide (x<=292194)&&(!(y==v)&&qea y))):=by
   have a1:decide (x<=d) = !decide (d<x):=by by_cases h:x<=d<;>simp [h]<;>omega
   have a2:decide (x>292194) = !decide (x<=292194):=by by_cases h:x<=292194<;>simp [h]<;>omega
   rw [a1,a2];cases decide (d<x)<;>cases decide (x<=292194)<;>cases (y==v)<;>cases qea y<;>rfl
  rw [hcond];have hri:qcr (x::l.drop (i.toNat+1)) (y::val.drop (i.toNat+1)) d v=((decide (d<x)&&(decide (x<=292194)&&(!(y==v)&&qea y)))&&qcr (l.drop (i.toNat+1)) (val.drop (i.toNat+1)) x y):=rfl;rw [hri] at hq;refine ⟨fun hb=>?_,fun hb=>?_⟩
  ·have hb':(decide (d<x)&&(decide (x<=292194)&&(!(y==v)&&qea y)))=false:=zof hb;rw [hb'] at hq;exact hq.2 rfl
  ·have hb':(decide (d<x)&&(decide (x<=292194)&&(!(y==v)&&qea y)))=true:=zlm hb;rw [hb',ud9] at hq;have hI:InvR (i+1) l.length l l val:=⟨rfl,rfl,h3,by omega,by omega,h6⟩;refine ⟨hI,by omega,hI,?_⟩;show (Fr.br (qcr (l.drop (i+1).toNat) (val.drop (i+1).toNat) x y) (Fr.val (Rd.out ((),()))) (Fr.val (Rd.back ((false,()),()))):Fr ptR.Out).satP Q;rw [hn];exact hq
 ·have hi':¬ i<l.length:=by simpa using hi
  have hl:l.drop i.toNat=[]:=uc5 (by omega);rw [hl] at hq;exact hq.1 rfl
theorem yre:qf Tryz.prog (.loop (qrm Tryz.f185 0)) ptR.M ptR FR:=by
 refine qf.loop (n:=48) (id:=0) ys7 (inv:=fun x=>InvR x.1.1 x.1.2.1 x.1.2.2.1 x.2.1.1 x.2.1.2.1) (μ:=fun x=>(x.1.2.1-x.1.1).toNat) ?_ (fun x Q h=>h.1);rintro ⟨⟨i,n,l,d,v,_⟩,⟨at_,val,_⟩,_⟩ hinv Q hq;exact ysz i n l d v at_ val hinv Q hq.2
def ΛR:Nat->St->Option Tr:=fun _=>ptR.han Γ3 ptR.M FR
def ynx (x:qn [.d zg]):Fr (qi [.bool]):=
 Fr.br ((x.1.1.length:Int) != (x.1.2.1.length:Int)) (Fr.val (false,()))
  (Fr.need (InvR 0 x.1.1.length x.1.1 x.1.1 x.1.2.1)
   (Fr.br (qcr (x.1.1.drop (Int.toNat 0)) (x.1.2.1.drop (Int.toNat 0)) 0 0) (Fr.val (true,())) (Fr.val (false,()))))
theorem yef:qa Tryz.prog 185 ⟨[.d zg],[.bool],fun xs=>(ynx xs).get,fun xs=>[(ynx xs).ok]⟩:=
 qg zgo (Λ:=ΛR) (fn:=Tryz.f185) (([],[],()),()) (by kernel_rfl) (fun c E hc=>zpx hc (by kernel_rfl) (b:=qrm Tryz.f185 0) (by kernel_rfl) (qf.han zgo rfl yre)) (fun xs=>by kernel_rfl)
def qdr (f:zg.den):Bool:=decide (f.1.length=f.2.1.length)&&qcr f.1 f.2.1 0 0
def ym4:Ct:=⟨[.d zg],[.bool],fun x=>(qdr x.1,()),fun _=>[]⟩
theorem yeg:qa Tryz.prog 185 ym4:=
 conv yef _ _ fun w F xs vs hr _=>by
  obtain ⟨⟨at_,val,_⟩,_⟩:=xs;obtain ⟨v,vs',rfl,hv,_⟩:=hr;have hwf:=qs.wf hv.2.2;have hlen:(at_.length:Int)<=9223372036854775807:=by
   have:=hwf.1.1;simp only [maxLen] at this;omega
  by_cases hl:at_.length=val.length
  ·have hne:((at_.length:Int) != (val.length:Int))=false:=by simp [hl]
   refine ⟨⟨fun hb=>?_,fun _=>⟨⟨rfl,rfl,hl,ua4 _,by omega,hlen⟩,⟨fun _=>trivial,fun _=>trivial⟩⟩⟩,?_⟩
   ·trivial
   ·show (if ((at_.length:Int) != (val.length:Int))=true then (false,()) else if qcr at_ val 0 0=true then (true,()) else (false,()))=(decide (at_.length=val.length)&&qcr at_ val 0 0,());rw [hne,uan hl];cases qcr at_ val 0 0<;>rfl
  ·have hne:((at_.length:Int) != (val.length:Int))=true:=by simp; omega
   refine ⟨⟨fun _=>trivial,fun hb=>?_⟩,?_⟩
   ·have hb':((at_.length:Int) != (val.length:Int))=false:=hb;rw [hne] at hb';cases hb'
   ·show (if ((at_.length:Int) != (val.length:Int))=true then (false,()) else _)=(decide (at_.length=val.length)&&qcr at_ val 0 0,());rw [hne,uao hl];rfl
end Go.Proofs.YtgieagiaagoogaaGreat
namespace Go.Proofs.YtgieagiaagoogaaGreat
open Go Go.Ab Go.RowKit Go.Proofs Go.Shelf
attribute [local go_sem] Oper.semAt_some
theorem zmk {w:World} {F:Nat->Prop} {l:List Int} {v:Value} (h:qs w F jg l (fun _ u=>u=v)) :
  ∃ A c,v = .slice A l.length c/\l.length<=c/\c<=maxLen/\(0<l.length->∃ b off,A=some ⟨b,off,none⟩/\F b/\∀ (i:Nat) (x:Int),l[i]? = some x->w.cell? ⟨b,off+i,none⟩=some (.int .i64 x) /\ -9223372036854775808<=x/\x<=9223372036854775807):=by
 obtain ⟨A,c,rfl,h1,h2,h3⟩:=h;refine ⟨A,c,rfl,h1,h2,fun hp=>?_⟩;obtain ⟨ad,rfl,hF,hc,_⟩:=h3 0 l[0] (ua7 hp);have hs:ad.spot=none:=by
  have hc':w.cell? (ad.add (0*i64.size+0))=some (.int .i64 l[0]):=hc;have he:ad.add (0*i64.size+0)=ad:=by simp [Addr.add]
  rw [he] at hc';unfold World.cell? at hc';split at hc'
  ·split at hc'
   ·cases hc'
   ·rename_i hsp;cases hsp2:ad.spot with
    |none=>rfl
    |some _=>rw [hsp2] at hsp; exact absurd rfl hsp
  ·cases hc'
 obtain ⟨b,off,sp⟩:=ad;simp only at hs;subst hs;refine ⟨b,off,rfl,hF,fun i x hx=>?_⟩;obtain ⟨ad,hA,_,hcx,hr⟩:=h3 i x hx;cases hA;have hcx':w.cell? ((⟨b,off,none⟩:Addr).add (i*1+0))=some (.int .i64 x):=hcx;have he:(⟨b,off,none⟩:Addr).add (i*1+0)=⟨b,off+i,none⟩:=by
  unfold Addr.add;split
  ·have:i=0:=by omega
   subst this;rfl
  ·simp
 rw [he] at hcx';exact ⟨hcx',hr⟩
def jv (f:zg.den) (e:Int):List Int->Int->List (Int×Int×Int)
 |[],a=>[(a,e,wd f a)]
 |d::l,a=>if d<=a∨e<=d then jv f e l a else (a,d,wd f a)::jv f e l d
def KpS (n₀ B1 B2:Nat) (W W':World):Prop:=Below n₀ W W'/\W'.heap[B1]? = W.heap[B1]? /\ W'.heap[B2]? = W.heap[B2]?
theorem KpS.refl (n₀ B1 B2:Nat) (W:World):KpS n₀ B1 B2 W W:=⟨uat _ _,rfl,rfl⟩
theorem KpS.trans {n₀ B1 B2:Nat} {A B C:World} (h:KpS n₀ B1 B2 A B) (k:KpS n₀ B1 B2 B C):KpS n₀ B1 B2 A C:=⟨h.1.trans k.1,k.2.1.trans h.2.1,k.2.2.trans h.2.2⟩
theorem KpS.below {n₀ B1 B2:Nat} {W W':World} (h:Below W.heap.size W W') (h0:n₀<=W.heap.size) (h1:B1<W.heap.size) (h2:B2<W.heap.size):KpS n₀ B1 B2 W W':=⟨h.mono h0,h.block _ h1,h.block _ h2⟩
theorem qk0 {β:Type} {B:Nat} {J:β->World->Prop} (hJ:AbidesFrom B J) {s:β} {W W':World} (h:J s W) (hb:Below W.heap.size W W'):J s W':=
 hJ s W W' none h ⟨hb.os,hb.tape,hb.output,hb.size,fun k hk _=>hb.block k hk⟩ (fun r e=>nomatch e)
abbrev zyp (x:Int×Int×Int):Array Value:=#[.agg #[.int .i64 x.1,.int .i64 x.2.1],.int .i64 x.2.2]
def qry (f:zg.den) (va:Value) (W:World):Prop:=∀ d:Int,-9223372036854775808<=d->d<=9223372036854775807->Calls Tryz.prog 206 #[va,.int .i64 d] W fun e W'=>e = .returned (.int .i64 (wd f d))/\Below W.heap.size W W'
theorem zos {f:zg.den} {va:Value} {W:World} {F:Nat->Prop} (hb:∀ b,F b->b<W.heap.size) (hr:zv W F zg f va) (h1:f.1.Pairwise (· < ·)) (h2:f.1.length=f.2.1.length):qry f va W:=fun d hd1 hd2=>by
 have hi:zv W F i64 d (.int .i64 d):=⟨rfl,⟨fun h=>(by cases h),fun ⟨cs,h⟩=>(by cases h)⟩,rfl,hd1,hd2⟩;refine (yfs.2 W F (f,d,()) [va,.int .i64 d] hb ⟨va,_,rfl,hr,_,[],rfl,hi,rfl⟩ ⟨h1,h2⟩).mono ?_;rintro e W' ⟨v,F',rfl,hbel,_,_,hv⟩;have hv':qz Tryz.prog W' F' (fun _ _=>True) (qga i64 (wd f d)) v:=qbi hv;have hv2:v = .int .i64 (wd f d):=hv'.2.1;exact ⟨by rw [hv2],hbel⟩
end Go.Proofs.YtgieagiaagoogaaGreat
namespace Go.Proofs.YtgieagiaagoogaaGreat
open Go Go.Ab Go.RowKit Go.Proofs Go.Shelf
attribute [local go_sem] Oper.semAt_some
theorem qh {W:World} {b:Nat} {cs:Array Value} {t:TypeId} {x:Nat×Nat} (h:W.heap[b]? = some (.cells cs t x)) (i:Nat):W.cell? ⟨b,i,none⟩=cs[i]? := by
 simp [World.cell?,h]
structure RoundAt (n₀ B1 B2:Nat) (A:Option Addr) (at_:List Int) (va vb:Value) (e0 e1:Int) (f:zg.den) (W:World):Prop where
 b1:W.heap[B1]? = some (.cells #[va,vb] 190 (0,0))
 b2:W.heap[B2]? = some (.cells #[.int .i64 e0,.int .i64 e1] 31 (0,0))
 cells:0<at_.length->∃ b off,A=some ⟨b,off,none⟩/\b<n₀/\∀ (i:Nat) (x:Int),at_[i]? = some x->W.cell? ⟨b,off+i,none⟩=some (.int .i64 x) /\ -9223372036854775808<=x/\x<=9223372036854775807
 vals:qry f (.agg #[va,vb]) W
section
variable {α:Type} {g:α->Int×Int×Int}
theorem zyb {β:Type} {g:α->β} {all pre:List α} {y:β} {rest:List β} (h:pre.map g++y::rest=all.map g) (hp:pre <+: all):∃ x,g x=y/\pre++[x] <+: all:=by
 obtain ⟨t,rfl⟩:=hp;rw [uda] at h;have h':=List.append_cancel_left h;cases t with
 |nil=>cases h'
 |cons x t=>
  simp only [ud0,uej] at h';exact ⟨x,h'.1.symm,t,by simp⟩
def qe0 (g:α->Int×Int×Int) (f:zg.den) (e1:Int) (at_:List Int) (all:List α) (k:Nat) (cur:Int) (pre:List α):Prop:=pre <+: all/\pre.map g++jv f e1 (at_.drop k) cur=all.map g
theorem qe0.skip {f:zg.den} {e1:Int} {at_:List Int} {all:List α} {k:Nat} {cur:Int} {pre:List α} (h:qe0 g f e1 at_ all k cur pre) {d:Int} (hd:at_[k]? = some d) (hc:d<=cur∨e1<=d):qe0 g f e1 at_ all (k+1) cur pre:=by
 obtain ⟨hk,rfl⟩:=uaj.1 hd;refine ⟨h.1,?_⟩;have h2:=h.2;rw [ubp hk] at h2;rw [← h2]
 conv=>rhs; unfold jv
 rw [if_pos hc]
theorem qe0.step {f:zg.den} {e1:Int} {at_:List Int} {all:List α} {k:Nat} {cur:Int} {pre:List α} (h:qe0 g f e1 at_ all k cur pre) {d:Int} (hd:at_[k]? = some d) (hc:¬ (d<=cur∨e1<=d)) :
  ∃ x,g x=(cur,d,wd f cur)/\qe0 g f e1 at_ all (k+1) d (pre++[x])/\pre.length<all.length:=by
 obtain ⟨hk,rfl⟩:=List.getElem?_eq_some_iff.1 hd;have h2:=h.2;rw [List.drop_eq_getElem_cons hk] at h2;unfold jv at h2;rw [if_neg hc] at h2;obtain ⟨x,hx,hp⟩:=zyb h2 h.1;refine ⟨x,hx,⟨hp,?_⟩,?_⟩
 ·rw [← h2];simp [hx]
 ·have:=hp.length_le;simp at this;omega
theorem qe0.last {f:zg.den} {e1:Int} {at_:List Int} {all:List α} {k:Nat} {cur:Int} {pre:List α} (h:qe0 g f e1 at_ all k cur pre) (hk:at_.length<=k) :
  ∃ x,g x=(cur,e1,wd f cur)/\pre++[x]=all/\pre.length<all.length:=by
 have h2:=h.2;rw [uc5 hk] at h2;obtain ⟨x,hx,hp⟩:=zyb (y:=(cur,e1,wd f cur)) (rest:=[]) h2 h.1;have hl:=ubb List.length h2;simp [jv] at hl;refine ⟨x,hx,hp.eq_of_length (by simp; omega),by omega⟩
end
set_option maxRecDepth 100000 in
set_option maxHeartbeats 2000000 in
theorem zt9 {α:Type} (g:α->Int×Int×Int) (all:List α) (n:Nat) (hn:1<=n) (l B1 B2 n₀:Nat) (A:Option Addr) (c:Nat) (at_:List Int) (vb:Value) (hvb:∃ A' n' c',vb = .slice A' n' c') (e0 e1:Int) (f:zg.den) (hlen:at_.length<=9223372036854775807) (he0 : -9223372036854775808<=e0/\e0<=9223372036854775807)
  (hall:all.map g=jv f e1 at_ e0) (J Jx:List α->World->Prop) (W:World) (hJ:AbidesFrom W.heap.size J) (hn0:n₀<=W.heap.size)
  (hY:∀ pre x W1,J pre W1->pre.length<all.length->YieldAt Fence.wide (n-1) Tryz.prog l (zyp (g x)) W1 fun e W'=>
   (e = .returned (.bool true)/\J (pre++[x]) W'/\KpS n₀ B1 B2 W1 W')∨(e = .returned (.bool false)/\Jx (pre++[x]) W'))
  (hat:∀ W',KpS n₀ B1 B2 W W'->RoundAt n₀ B1 B2 A at_ (.slice A at_.length c) vb e0 e1 f W') (h0:J [] W) :
  CallsIn Fence.wide n Tryz.prog 205 #[.func (.yield l) #[] #[],.pointer (some ⟨B2,0,none⟩),.pointer (some ⟨B1,0,none⟩)] W fun e W'=>(∃ v,e = .returned v) /\
   ((∃ xs,xs=all/\J xs W')∨(∃ pre,pre <+: all/\Jx pre W')):=by
 obtain ⟨A',n',c',rfl⟩:=hvb;have hro:Fence.wide.round=none:=rfl;refine udb Tryz.func205 rfl trivial ?_ hro;simp only [Tryz.ntmps205,ub5,uaf,ub9,Nat.reduceAdd,Nat.reduceSub,ubv,ubw,ubx,uby,uav,uaz];have r0:=hat W (KpS.refl _ _ _ _);have c10:W.cell? ⟨B1,0,none⟩=some (.slice A at_.length c):=qh r0.b1 0;have c11:W.cell? ⟨B1,1,none⟩=some (.slice A' n' c'):=qh r0.b1 1;have c20:W.cell? ⟨B2,0,none⟩=some (.int .i64 e0):=qh r0.b2 0;have c21:W.cell? ⟨B2,1,none⟩=some (.int .i64 e1):=qh r0.b2 1;have hlen':=hlen
 gi_wp2
 gi_loopw [4,12] (fun u i wr=>∃ (k:Nat) (cur:Int) (pre:List α),k<=at_.length/\i = .int .i64 k/\u = .int .i64 cur/\(-9223372036854775808<=cur/\cur<=9223372036854775807)/\qe0 g f e1 at_ all k cur pre/\J pre wr/\KpS n₀ B1 B2 W wr)
  (fun _ i _=>at_.length-(intOf i).toNat)
 case atStart=>exact ⟨0,e0,[],ucl _,rfl,rfl,he0,⟨List.nil_prefix,hall.symm⟩,h0,KpS.refl _ _ _ _⟩
 case round=>
  obtain ⟨k,cur,pre,hk,rfl,rfl,hcur,hrel,hJs,hkp⟩:=hrel;clear c10 c11 c20 c21 r0;have rr:=hat _ hkp;have c10:wr.cell? ⟨B1,0,none⟩=some (.slice A at_.length c):=qh rr.b1 0;have c11:wr.cell? ⟨B1,1,none⟩=some (.slice A' n' c'):=qh rr.b1 1;have c21:wr.cell? ⟨B2,1,none⟩=some (.int .i64 e1):=qh rr.b2 1;by_cases hlt:k<at_.length
  ·obtain ⟨b,off,rfl,hb,hcx⟩:=rr.cells (by omega);obtain ⟨d,hd⟩:∃ d,at_[k]? = some d:=⟨_,ua7 hlt⟩;obtain ⟨hcd,hdr⟩:=hcx k d hd;clear hcx;have hb1:B1<wr.heap.size:=(uaa.1 rr.b1).1;have hb2:B2<wr.heap.size:=(uaa.1 rr.b2).1;have hn1:n₀<=wr.heap.size:=ual hn0 hkp.1.size;by_cases t1:d<=cur
   ·have ht1:decide (d<=cur)=true:=by simpa using t1
    have hn:=hrel.skip hd (.inl t1)
    gi_wp2
    exact ⟨⟨k+1,cur,pre,by omega,by simp,rfl,hcur,hn,hJs,hkp⟩,by simp [intOf]; omega⟩
   ·have ht1:decide (d<=cur)=false:=by simpa using t1
    by_cases t2:e1<=d
    ·have ht2:decide (d≥e1)=true:=by simpa using t2
     have hn:=hrel.skip hd (.inr t2)
     gi_wp2
     exact ⟨⟨k+1,cur,pre,by omega,by simp,rfl,hcur,hn,hJs,hkp⟩,by simp [intOf]; omega⟩
    ·have ht2:decide (d≥e1)=false:=by simpa using t2
     obtain ⟨x,hgx,hst,hln⟩:=hrel.step hd (by omega)
     gi_wp2
     refine ⟨trivial,?_⟩;refine (ucb.2 (rr.vals cur hcur.1 hcur.2)).mono ?_;rintro e w1 ⟨rfl,hbel⟩;have hk1:=hkp.trans (KpS.below hbel hn1 hb1 hb2);obtain ⟨fn,tmps,assign,body,hy,hR⟩:=hY pre x w1 (qk0 hJ hJs hbel) hln;rw [hgx] at hy
     gi_wp2
     refine hR.mono ?_;rintro e W3 (⟨rfl,hJ3,hk3⟩|⟨rfl,hJx3⟩)
     ·gi_wp2
      go_roundw
      case rel=>exact ⟨k+1,d,pre++[x],by omega,by simp,rfl,hdr,hst,hJ3,hk1.trans hk3⟩
      case measure=>simp [intOf]; omega
     ·gi_wp2
      refine uf7 (udq rfl _ _ _) rfl ?_;exact ⟨⟨_,rfl⟩,.inr ⟨_,hst.1,hJx3⟩⟩
  ·obtain rfl:k=at_.length:=by omega
   obtain ⟨x,hgx,hl,hln⟩:=hrel.last (ua3 _);have hb1:B1<wr.heap.size:=(uaa.1 rr.b1).1;have hb2:B2<wr.heap.size:=(uaa.1 rr.b2).1;have hn1:n₀<=wr.heap.size:=ual hn0 hkp.1.size;have hmx:Tryz.prog.follows .mixedOrders=true:=by kernel_rfl
   have hkd:KpS n₀ B1 B2 W wr.drew:=hkp.trans ⟨⟨rfl,rfl,rfl,ua3 _,fun _ _=>rfl⟩,rfl,rfl⟩;have rd:=hat _ hkd;have hJd:J pre wr.drew:=qk0 hJ hJs ⟨rfl,rfl,rfl,ua3 _,fun _ _=>rfl⟩
   gi_wp2
   gi_region_with_o (first
    |(refine ⟨trivial,?_⟩; gi_at_call 206; refine (ucb.2 (rd.vals cur hcur.1 hcur.2)).mono ?_; rintro e w1 ⟨rfl,hbel⟩; have d21:w1.cell? ⟨B2,1,none⟩=some (.int .i64 e1):=qh (hat _ (hkd.trans (KpS.below hbel hn1 hb1 hb2))).b2 1; obtain ⟨fn,tmps,assign,body,hy,hR⟩:=hY pre x w1 (qk0 hJ hJd hbel) hln; rw [hgx] at hy)
    |(refine (hR.mono (R':=fun e W'=>∃ bv,e = .returned (.bool bv)/\(if bv=true then J (pre++[x]) W' else Jx (pre++[x]) W')) (fun e W' h=>h.elim (fun h=>⟨true,h.1,h.2.1⟩) (fun h=>⟨false,h.1,h.2⟩))).mono ?_; rintro e W3 ⟨bv,rfl,hJ3⟩))
   all_goals go_end0
   all_goals (refine ⟨⟨_,rfl⟩,?_⟩; cases bv; exact .inr ⟨_,⟨[],by rw [ud1]; exact hl⟩,hJ3⟩; exact .inl ⟨_,hl,hJ3⟩)
end Go.Proofs.YtgieagiaagoogaaGreat
namespace Go.Proofs.YtgieagiaagoogaaGreat
open Go Go.Ab Go.RowKit Go.Proofs Go.Shelf
attribute [local go_sem] Oper.semAt_some
theorem zfc {v:Int}:qea v=true ↔ -4000000000000000000<=v/\v<=4000000000000000000:=by simp [qea]
theorem qtj:{l r:List Int} -> {d v:Int}->qcr l r d v=true->l.length=r.length->l.Pairwise (· < ·)/\(∀ x∈l,d<x/\x<=292194)/\∀ y∈r,qea y=true
 |[],[],_,_,_,_=>⟨List.Pairwise.nil,by simp,by simp⟩
 |[],_::_,_,_,_,hl=>by simp at hl
 |_::_,[],_,_,_,hl=>by simp at hl
 |a::l,b::r,d,v,h,hl=>by
  simp only [qcr,ua1,uab] at h;obtain ⟨⟨h1,h2,h3,h4⟩,h5⟩:=h;obtain ⟨i1,i2,i3⟩:=qtj h5 (by simpa using hl);refine ⟨ub2.2 ⟨fun x hx=>(i2 x hx).1,i1⟩,fun x hx=>?_,fun y hy=>?_⟩
  ·rcases ua2.1 hx with rfl|hx
   ·exact ⟨h1,h2⟩
   ·exact ⟨ue3 h1 (i2 x hx).1,(i2 x hx).2⟩
  ·rcases ua2.1 hy with rfl|hy
   ·exact h4
   ·exact i3 y hy
theorem qok {f:zg.den} (h:qdr f=true):f.1.length=f.2.1.length/\f.1.Pairwise (· < ·)/\(∀ x∈f.1,0<x/\x<=292194)/\∀ y∈f.2.1,-4000000000000000000<=y/\y<=4000000000000000000:=by
 simp only [qdr,ua1,uab] at h;obtain ⟨h1,h2,h3⟩:=qtj h.2 h.1;exact ⟨h.1,h1,h2,fun y hy=>zfc.1 (h3 y hy)⟩
theorem zm3 {f:zg.den} (h:∀ y∈f.2.1,-4000000000000000000<=y/\y<=4000000000000000000) (d:Int) : -4000000000000000000<=wd f d/\wd f d<=4000000000000000000:=by
 unfold wd;split
 ·omega
 ·rename_i k _;rw [ua6];cases hk:f.2.1[k]? with
  |none=>simp
  |some y=>
   have:=h y (ube hk);simpa using this
def qj6 (x:Int×Int×Int):Prop:=1<=x.1/\x.1<x.2.1/\x.2.1<=292195 /\ -4000000000000000000<=x.2.2/\x.2.2<=4000000000000000000
theorem qlc {f:zg.den} (h:∀ y∈f.2.1,-4000000000000000000<=y/\y<=4000000000000000000) {e:Int} (he:e<=292195):(l:List Int)->(a:Int)->1<=a->a<e->∀ x∈jv f e l a,qj6 x
 |[],a,h1,h2,x,hx=>by
  simp only [jv,ud2] at hx;subst hx;exact ⟨h1,h2,he,zm3 h a⟩
 |d::l,a,h1,h2,x,hx=>by
  unfold jv at hx;split at hx
  ·exact qlc h he l a h1 h2 x hx
  ·rename_i hc;rcases ua2.1 hx with rfl|hx
   ·exact ⟨h1,by show a<d; omega,by show d<=292195; omega,zm3 h a⟩
   ·exact qlc h he l d (by omega) (by omega) x hx
abbrev qfc:Type:={ x:Int×Int×Int // qj6 x }
def qc2 (q:Int×Int) (x:Int×Int×Int):Option (Int×Int):=
 if max x.2.2 (-x.2.2)>(4000000000000000000-q.2)/(x.2.1-x.1) then none else some (q.1+(x.2.1-x.1)*x.2.2,q.2+(x.2.1-x.1)*max x.2.2 (-x.2.2))
def qau:List (Int×Int×Int)->Int×Int->Option (Int×Int)
 |[],q=>some q
 |x::l,q=>(qc2 q x).bind (qau l)
theorem qv5 (l m:List (Int×Int×Int)) (q:Int×Int):qau (l++m) q=(qau l q).bind (qau m):=by
 induction l generalizing q with
 |nil=>rfl
 |cons x l ih=>
  simp only [uaz,qau];cases qc2 q x with
  |none=>rfl
  |some q'=>exact ih q'
def qt8 (q:Int×Int):Prop:=0<=q.2/\q.2<=4000000000000000000 /\ -q.2<=q.1/\q.1<=q.2
theorem qx9 {q q':Int×Int} {x:Int×Int×Int} (hx:qj6 x) (h:qc2 q x=some q') (hq:qt8 q):qt8 q'/\(x.2.1-x.1)*max x.2.2 (-x.2.2)<=4000000000000000000-q.2/\0<=(x.2.1-x.1)*max x.2.2 (-x.2.2) /\ -((x.2.1-x.1)*max x.2.2 (-x.2.2))<=(x.2.1-x.1)*x.2.2/\(x.2.1-x.1)*x.2.2<=(x.2.1-x.1)*max x.2.2 (-x.2.2):=by
 obtain ⟨h1,h2,h3,h4,h5⟩:=hx;obtain ⟨a,b,v⟩:=x;obtain ⟨s,t⟩:=q;obtain ⟨g1,g2,g3,g4⟩:=hq;simp only at *;unfold qc2 at h;split at h
 ·cases h
 ·rename_i hc;cases h;simp only at *;have hn:0<b-a:=by omega
  have hle:max v (-v)<=(4000000000000000000-t)/(b-a):=by omega
  have e1:(b-a)*max v (-v)<=4000000000000000000-t:=by
   have:=(Int.le_ediv_iff_mul_le hn).1 hle;rw [ufw];exact this
  have e2:0<=(b-a)*max v (-v):=uf8 (by omega) (by omega);have e3:(b-a)*v<=(b-a)*max v (-v):=Int.mul_le_mul_of_nonneg_left (by omega) (by omega);have e4 : -((b-a)*max v (-v))<=(b-a)*v:=by
   rw [← Int.mul_neg];exact Int.mul_le_mul_of_nonneg_left (by omega) (by omega)
  generalize (b-a)*max v (-v)=m at *;generalize (b-a)*v=k at *;refine ⟨⟨?_,?_,?_,?_⟩,e1,e2,e4,e3⟩<;>simp only<;>omega
def qav (f:zg.den) (s:zy.den):Int×Int:=
 if qdr f=true/\wk s=true then match qau (jv f s.2.1 f.1 s.1) (0,0) with
  |some q=>(q.1,0)
  |none=>(0,5)
 else (0,1)
def zrq:Ct:=⟨[.d zg,.d zy],[i64,i64],fun x=>((qav x.1 x.2.1).1,(qav x.1 x.2.1).2,()),fun _=>[]⟩
set_option maxRecDepth 100000 in
set_option maxHeartbeats 1000000 in
theorem zyq (n:Nat) (A A':Option Addr) (l1 c1 l2 c2:Nat) (e0 e1:Int) (w:World) :
  CallsIn Fence.wide n Tryz.prog 187 #[.agg #[.slice A l1 c1,.slice A' l2 c2],.agg #[.int .i64 e0,.int .i64 e1]] w fun e w'=>
   e = .returned (.func (.func 205) #[] #[.pointer (some ⟨w.heap.size+1,0,none⟩),.pointer (some ⟨w.heap.size,0,none⟩)]) /\
   w'=(w.alloc (.cells #[.slice A l1 c1,.slice A' l2 c2] 190)).alloc (.cells #[.int .i64 e0,.int .i64 e1] 31):=by
 refine udb Tryz.func187 rfl trivial ?_ rfl;simp only [Tryz.ntmps187,ub5,uaf,ub9,Nat.reduceAdd,Nat.reduceSub,ubv,ubw,ubx,uby,uav,uaz]
 gi_wp2
 go_ret
 exact ⟨rfl,rfl⟩
end Go.Proofs.YtgieagiaagoogaaGreat
namespace Go.Proofs.YtgieagiaagoogaaGreat
open Go Go.Ab Go.RowKit Go.Proofs Go.Shelf
attribute [local go_sem] Oper.semAt_some
theorem zie {f:FuncId} {ps:List PT} {g:qn ps->Bool} {ok:qn ps->List Prop} (h:qa Tryz.prog f ⟨ps,[.bool],fun x=>(g x,()),ok⟩) {w:World} {F:Nat->Prop} {xs:qn ps} {vs:List Value} (hb:∀ b,F b->b<w.heap.size) (hr:wt Tryz.prog w F ps xs vs) (hok:qr (ok xs)) :
  Calls Tryz.prog f vs.toArray w fun e w'=>e = .returned (.bool (g xs))/\Below w.heap.size w w':=by
 refine (h.2 w F xs vs hb hr hok).mono ?_;rintro e w' ⟨v,F',rfl,hbel,_,_,hv⟩;have hv':qz Tryz.prog w' F' (fun _ _=>True) (qga .bool (g xs)) v:=qbi hv;have hv2:v = .bool (g xs):=hv'.2;exact ⟨by rw [hv2],hbel⟩
structure Four (W:World) (z:Nat) (va vb x0 x1 x4 x5:Value):Prop where
 b0:W.heap[z]? = some (.cells #[va,vb] 190 (0,0))
 b1:W.heap[z+1]? = some (.cells #[x0,x1] 31 (0,0))
 b2:Boxed W (z+1+1) 3 x4
 b3:Boxed W (z+1+1+1) 57 x5
theorem Four.below {W W':World} {z m:Nat} {va vb x0 x1 x4 x5:Value} (h:Four W z va vb x0 x1 x4 x5) (hb:Below m W W') (hm:z+3<m):Four W' z va vb x0 x1 x4 x5:=
 ⟨(hb.block _ (by omega)).trans h.b0,(hb.block _ (by omega)).trans h.b1,(hb.block _ (by omega)).trans h.b2,(hb.block _ (by omega)).trans h.b3⟩
theorem Four.start (w:World) (va vb x0 x1 x4 x5:Value) :
  Four ((((w.alloc (.cells #[va,vb] 190)).alloc (.cells #[x0,x1] 31)).alloc (.cells #[x4] 3)).alloc (.cells #[x5] 57)) w.heap.size va vb x0 x1 x4 x5:=by
 have h0:=uax w (.cells #[va,vb] 190);have h1:=uax (w.alloc (.cells #[va,vb] 190)) (.cells #[x0,x1] 31);have h2:=uax ((w.alloc (.cells #[va,vb] 190)).alloc (.cells #[x0,x1] 31)) (.cells #[x4] 3);have h3:=uax (((w.alloc (.cells #[va,vb] 190)).alloc (.cells #[x0,x1] 31)).alloc (.cells #[x4] 3)) (.cells #[x5] 57);simp only [ub1] at h1 h2 h3;exact ⟨(uaq _ _ _ (by simp only [ub1]; omega)).trans ((uaq _ _ _ (by simp only [ub1]; omega)).trans ((uaq _ _ _ (by simp only [ub1]; omega)).trans h0)),
  (uaq _ _ _ (by simp only [ub1]; omega)).trans ((uaq _ _ _ (by simp only [ub1]; omega)).trans h1),
  (uaq _ _ _ (by simp only [ub1]; omega)).trans h2,h3⟩
theorem Four.cells {W:World} {z:Nat} {va vb x0 x1 x4 x5:Value} (h:Four W z va vb x0 x1 x4 x5) :
  W.cell? ⟨z,0,none⟩=some va/\W.cell? ⟨z,1,none⟩=some vb/\W.cell? ⟨z+1,0,none⟩=some x0/\W.cell? ⟨z+1,1,none⟩=some x1 /\
   W.cell? ⟨z+1+1,0,none⟩=some x4/\W.frozen? ⟨z+1+1,0,none⟩=false/\W.cell? ⟨z+1+1+1,0,none⟩=some x5/\W.frozen? ⟨z+1+1+1,0,none⟩=false:=
 ⟨qh h.b0 0,qh h.b0 1,qh h.b1 0,qh h.b1 1,h.b2.cell,h.b2.frozen,h.b3.cell,h.b3.frozen⟩
set_option maxRecDepth 100000 in
set_option maxHeartbeats 4000000 in
theorem ypu (f:zg.den) (A A':Option Addr) (l1 c1 l2 c2:Nat) (e0 e1:Int) (w:World)
  (hR:∀ W,Below w.heap.size w W->Calls Tryz.prog 185 #[.agg #[.slice A l1 c1,.slice A' l2 c2]] W fun e w'=>e = .returned (.bool (qdr f))/\Below W.heap.size W w')
  (hF:∀ W,Calls Tryz.prog 186 #[.agg #[.int .i64 e0,.int .i64 e1]] W fun e w'=>e = .returned (.bool (wk (e0,e1,())))/\Below W.heap.size W w')
  (hno:¬ (qdr f=true/\wk (e0,e1,())=true)) :
  CallsIn Fence.wide 8 Tryz.prog 151 #[.agg #[.slice A l1 c1,.slice A' l2 c2],.agg #[.int .i64 e0,.int .i64 e1]] w fun e w'=>e = .returned (.tuple #[.int .i64 0,.int .i64 1])/\Below w.heap.size w w':=by
 refine udb Tryz.func151 rfl trivial ?_ rfl;simp only [Tryz.ntmps151,ub5,uaf,ub9,Nat.reduceAdd,Nat.reduceSub,ubv,ubw,ubx,uby,uav,uaz];generalize hb1:qdr f=b1 at *;generalize hb2:wk (e0,e1,())=b2 at *;have hB4:Below w.heap.size w ((((w.alloc (.cells #[.slice A l1 c1,.slice A' l2 c2] 190)).alloc (.cells #[.int .i64 e0,.int .i64 e1] 31)).alloc (.cells #[.int .i64 0] 3)).alloc (.cells #[.int .i64 0] 57)):=
  ((((uat _ w).alloc (ua3 _) _).alloc (by simp) _).alloc (by simp; omega) _).alloc (by simp; omega) _
 have hS:=Four.start w (.slice A l1 c1) (.slice A' l2 c2) (.int .i64 e0) (.int .i64 e1) (.int .i64 0) (.int .i64 0);have hz:w.heap.size+3<((((w.alloc (.cells #[.slice A l1 c1,.slice A' l2 c2] 190)).alloc (.cells #[.int .i64 e0,.int .i64 e1] 31)).alloc (.cells #[.int .i64 0] 3)).alloc (.cells #[.int .i64 0] 57)).heap.size:=by simp
 have HS:=Lib.hid hS;have HZ:=Lib.hid hz;clear hS hz;cases b1
 ·gi_wp2_with (refine ⟨trivial,?_⟩; gi_at_call 185; refine (ucb.2 (hR _ hB4)).mono ?_; rintro e w1 ⟨rfl,hb⟩; obtain ⟨k0,k1,k2,k3,k4,k5,k6,k7⟩:=(HS.out.below hb HZ.out).cells)
  refine ⟨trivial,?_⟩
  gi_wp2
  refine uf7 (v:=.tuple #[.int .i64 0,.int .i64 1]) (by simp [results,uf9,go_sem,k4,k6]) rfl ⟨rfl,?_⟩;exact (((hB4.trans (hb.mono (by simp; omega))).setCell (p:=⟨w.heap.size+1+1,0,none⟩) (by simp; omega) _).setCell (p:=⟨w.heap.size+1+1+1,0,none⟩) (by simp; omega) _)
 ·cases b2
  ·gi_wp2_with (first|(refine ⟨trivial,?_⟩; gi_at_call 185; refine (ucb.2 (hR _ hB4)).mono ?_; rintro e w1 ⟨rfl,hb⟩; obtain ⟨k0,k1,k2,k3,k4,k5,k6,k7⟩:=(HS.out.below hb HZ.out).cells)|(refine ⟨trivial,?_⟩; gi_at_call 186; refine (ucb.2 (hF _)).mono ?_; rintro e w2 ⟨rfl,hb2⟩; obtain ⟨m0,m1,m2,m3,m4,m5,m6,m7⟩:=((HS.out.below hb HZ.out).below hb2 (ubj HZ.out hb.size)).cells))
   refine uf7 (v:=.tuple #[.int .i64 0,.int .i64 1]) (by simp [results,uf9,go_sem,m4,m6]) rfl ⟨rfl,?_⟩;exact ((((hB4.trans (hb.mono (by simp; omega))).trans (hb2.mono (ual (hB4.trans (hb.mono (by simp; omega))).size (ua3 _)))).setCell (p:=⟨w.heap.size+1+1,0,none⟩) (by simp; omega) _).setCell (p:=⟨w.heap.size+1+1+1,0,none⟩) (by simp; omega) _)
  ·exact absurd ⟨rfl,rfl⟩ hno
theorem zlw (m:Nat) (hm:1<=m) (f:zg.den) (A A':Option Addr) (c1 l2 c2:Nat) (e0 e1:Int) (all:List qfc) (hall:all.map Subtype.val=jv f e1 f.1 e0) (hlen:f.1.length<=9223372036854775807) (he0 : -9223372036854775808<=e0/\e0<=9223372036854775807) (w:World) (B1 B2:Nat) (W0:World) (h0:Below w.heap.size w W0)
  (hb1:W0.heap[B1]? = some (.cells #[.slice A f.1.length c1,.slice A' l2 c2] 190 (0,0))) (hb2:W0.heap[B2]? = some (.cells #[.int .i64 e0,.int .i64 e1] 31 (0,0)))
  (hcells:∀ W,Below w.heap.size w W->0<f.1.length->∃ b off,A=some ⟨b,off,none⟩/\b<w.heap.size/\∀ (i:Nat) (x:Int),f.1[i]? = some x->W.cell? ⟨b,off+i,none⟩=some (.int .i64 x) /\ -9223372036854775808<=x/\x<=9223372036854775807)
  (hvals:∀ W,Below w.heap.size w W->qry f (.agg #[.slice A f.1.length c1,.slice A' l2 c2]) W) :
  SeqStopsK Fence.wide m Tryz.prog 205 #[.pointer (some ⟨B2,0,none⟩),.pointer (some ⟨B1,0,none⟩)] (fun x:qfc=>zyp x.1) (KpS w.heap.size B1 B2) (fun xs=>xs=all) (fun pre=>pre <+: all) all.length W0:=fun l J Jx W hW hJ hJx hY hJ0=>by
 have g1:B1<W0.heap.size:=(uaa.1 hb1).1;have g2:B2<W0.heap.size:=(uaa.1 hb2).1;have hB:Below w.heap.size w W:=h0.trans (hW.mono h0.size);refine zt9 Subtype.val all m hm l B1 B2 w.heap.size A c1 f.1 (.slice A' l2 c2) ⟨_,_,_,rfl⟩ e0 e1 f hlen he0 hall J Jx W hJ hB.size hY (fun W' hk=>?_) hJ0;have hB':=hB.trans hk.1;exact ⟨hk.2.1.trans ((hW.block _ g1).trans hb1),hk.2.2.trans ((hW.block _ g2).trans hb2),hcells W' hB',hvals W' hB'⟩
def ymk (o:Option (Int×Int)) (e:Ending):Prop:=match o with
 |some q=>e = .returned (.tuple #[.int .i64 q.1,.int .i64 0])
 |none=>e = .returned (.tuple #[.int .i64 0,.int .i64 5])
structure SumI (w:World) (z0 b4 b5 b6 b7:Nat) (pre:List qfc) (W:World) (q:Int×Int):Prop where
 sum:qau (pre.map Subtype.val) (0,0)=some q
 inv:qt8 q
 x6:Boxed W b6 3 (.int .i64 q.1)
 x7:Boxed W b7 3 (.int .i64 q.2)
 x4:Boxed W b4 3 (.int .i64 0)
 x5:Boxed W b5 57 (.int .i64 0)
 bel:Below w.heap.size w W
 sz:z0<=W.heap.size
structure SumX (w:World) (b4 b5:Nat) (c:Code) (pre:List qfc) (W:World):Prop where
 ret:c = .ret
 sum:qau (pre.map Subtype.val) (0,0)=none
 x4:Boxed W b4 3 (.int .i64 0)
 x5:Boxed W b5 57 (.int .i64 5)
 bel:Below w.heap.size w W
theorem qbr {X Y:World} {row:Option Nat} {B b:Nat} {t:TypeId} {v:Value} (h:Boxed X b t v) (hg:X.grownBy Y row) (hr:∀ r,row=some r->B<=r/\∃ o:Obj,X.heap[r]? = some o/\o.isCells=false):Boxed Y b t v:=
 boxed_own b t (fun (_:Unit)=>v) () X Y row h hg (fun r e=>(hr r e).2)
theorem ye8 {w:World} {z0 b4 b5 b6 b7 B:Nat} (hB:w.heap.size<=B):OwnFrom B (fun pre W=>∃ q,SumI w z0 b4 b5 b6 b7 pre W q):=fun pre X Y row hs hg hr=>by
 obtain ⟨q,h⟩:=hs;exact ⟨q,h.sum,h.inv,qbr h.x6 hg hr,qbr h.x7 hg hr,qbr h.x4 hg hr,qbr h.x5 hg hr,h.bel.grown hg h.bel.size (fun k e=>ual hB (hr k e).1),ual h.sz hg.size⟩
theorem yfa {w:World} {b4 b5 B:Nat} (hB:w.heap.size<=B) (c:Code):OwnFrom B (fun pre W=>SumX w b4 b5 c pre W):=fun pre X Y row h hg hr=>
 ⟨h.ret,h.sum,qbr h.x4 hg hr,qbr h.x5 hg hr,h.bel.grown hg h.bel.size (fun k e=>ual hB (hr k e).1)⟩
def ymj (w0:Nat) (a:Int×Int×Int->Nat->Act) (x:qfc) (a':Act) (W:World):Prop:=∃ Bx,w0<=Bx/\W.heap[Bx]? = some (.cells #[.int .i64 x.1.1,.int .i64 x.1.2.1] 31 (0,0))/\a'=a x.1 Bx
theorem ye7 {w0 B:Nat} {a:Int×Int×Int->Nat->Act} (x:qfc) (a':Act):OwnFrom B (fun (_:Unit) W=>ymj w0 a x a' W):=fun _ X Y row hs hg hr=>by
 obtain ⟨Bx,h1,h2,h3⟩:=hs;refine ⟨Bx,h1,(hg.block Bx (uaa.1 h2).1 (fun e=>?_)).trans h2,h3⟩;obtain ⟨_,o,ho,hc⟩:=hr Bx e.symm;rw [h2] at ho;cases ho;cases hc
theorem zlj (v:Int):max v (-v)=if v < -v then -v else v:=by split<;>omega
theorem zmu {pre:List qfc} {q:Int×Int} (h:qau (pre.map Subtype.val) (0,0)=some q) (x:qfc):qau ((pre++[x]).map Subtype.val) (0,0)=qc2 q x.1:=by
 rw [uda,qv5,h];show (qc2 q x.1).bind (qau [])=_;cases qc2 q x.1<;>rfl
theorem qh6 (W:World) {b k:Nat} (v:Value) (h:k≠b):(W.setCell ⟨b,0,none⟩ v).heap[k]? = W.heap[k]? := by
 by_cases hk:k<W.heap.size
 ·exact (grownBy_setCell' W b v).block k hk (fun e=>h (by cases e; rfl))
 ·rw [uel (by rw [ug7]; omega),uel (by omega)]
theorem qv4 {w W:World} {z0 b4 b5 b6 b7:Nat} {pre:List qfc} {s a x0 x1 v:Int} (hi:SumI w z0 b4 b5 b6 b7 pre W (s,a)) (hx:qj6 (x0,x1,v)) (hc:(4000000000000000000-a)/(x1-x0)<if v < -v then -v else v)
  (h45:b4≠b5) (h4:w.heap.size<=b4) (h5:w.heap.size<=b5) :
  SumX w b4 b5 .ret (pre++[⟨(x0,x1,v),hx⟩]) ((W.setCell ⟨b4,0,none⟩ (.int .i64 0)).setCell ⟨b5,0,none⟩ (.int .i64 5)):=by
 refine ⟨rfl,?_,(hi.x4.set _).other h45 _,(hi.x5.other (Ne.symm h45) _).set _,(hi.bel.setCell (p:=⟨b4,0,none⟩) h4 _).setCell (p:=⟨b5,0,none⟩) h5 _⟩;rw [zmu hi.sum];unfold qc2;rw [if_pos];show max v (-v)>(4000000000000000000-a)/(x1-x0);rw [zlj];exact hc
theorem qv3 {w W:World} {z0 b4 b5 b6 b7:Nat} {pre:List qfc} {s a x0 x1 v m:Int} (hi:SumI w z0 b4 b5 b6 b7 pre W (s,a)) (hx:qj6 (x0,x1,v)) (hc:(if v < -v then -v else v)<=(4000000000000000000-a)/(x1-x0)) (hm:m=if v < -v then -v else v)
  (h46:b4≠b6) (h47:b4≠b7) (h56:b5≠b6) (h57:b5≠b7) (h67:b6≠b7) (h6:w.heap.size<=b6) (h7:w.heap.size<=b7) :
  SumI w z0 b4 b5 b6 b7 (pre++[⟨(x0,x1,v),hx⟩]) ((W.setCell ⟨b6,0,none⟩ (.int .i64 (wrap64 (s+wrap64 ((x1-x0)*v))))).setCell ⟨b7,0,none⟩ (.int .i64 (wrap64 (a+wrap64 ((x1-x0)*m))))) (s+(x1-x0)*v,a+(x1-x0)*max v (-v)):=by
 have hs:qc2 (s,a) (x0,x1,v)=some (s+(x1-x0)*v,a+(x1-x0)*max v (-v)):=by
  unfold qc2;rw [if_neg];show ¬ max v (-v)>(4000000000000000000-a)/(x1-x0);rw [zlj];omega
 have hmm:m=max v (-v):=by rw [zlj]; exact hm
 obtain ⟨hinv,k1,k2,k3,k4⟩:=qx9 hx hs hi.inv;obtain ⟨j1,j2,j3,j4⟩:=hi.inv;simp only at k1 k2 k3 k4 j1 j2 j3 j4;subst hmm;have e1:wrap64 (s+wrap64 ((x1-x0)*v))=s+(x1-x0)*v:=by
  rw [ufa ((x1-x0)*v) (by omega),ufa _ (by omega)]
 have e2:wrap64 (a+wrap64 ((x1-x0)*max v (-v)))=a+(x1-x0)*max v (-v):=by
  rw [ufa ((x1-x0)*max v (-v)) (by omega),ufa _ (by omega)]
 rw [e1,e2];exact ⟨by rw [zmu hi.sum]; exact hs,hinv,(hi.x6.set _).other h67 _,(hi.x7.other (Ne.symm h67) _).set _,(hi.x4.other h46 _).other h47 _,(hi.x5.other h56 _).other h57 _,
  (hi.bel.setCell (p:=⟨b6,0,none⟩) h6 _).setCell (p:=⟨b7,0,none⟩) h7 _,by rw [ug7,ug7]; exact hi.sz⟩
theorem zpw {n₀ B1 B2 b c:Nat} (W:World) (u v:Value) (hb:n₀<=b) (hc:n₀<=c) (h1:B1≠b) (h2:B1≠c) (h3:B2≠b) (h4:B2≠c):KpS n₀ B1 B2 W ((W.setCell ⟨b,0,none⟩ u).setCell ⟨c,0,none⟩ v):=
 ⟨((uat n₀ W).setCell (p:=⟨b,0,none⟩) hb _).setCell (p:=⟨c,0,none⟩) hc _,(qh6 _ _ h2).trans (qh6 _ _ h1),(qh6 _ _ h4).trans (qh6 _ _ h3)⟩
set_option maxRecDepth 100000 in
set_option maxHeartbeats 4000000 in
theorem yk7 (f:zg.den) (A A':Option Addr) (c1 l2 c2:Nat) (e0 e1:Int) (w:World)
  (hR:∀ W,Below w.heap.size w W->Calls Tryz.prog 185 #[.agg #[.slice A f.1.length c1,.slice A' l2 c2]] W fun e w'=>e = .returned (.bool true)/\Below W.heap.size W w')
  (hF:∀ W,Calls Tryz.prog 186 #[.agg #[.int .i64 e0,.int .i64 e1]] W fun e w'=>e = .returned (.bool true)/\Below W.heap.size W w')
  (all:List qfc) (hall:all.map Subtype.val=jv f e1 f.1 e0) (hlen:f.1.length<=9223372036854775807) (he0 : -9223372036854775808<=e0/\e0<=9223372036854775807)
  (hcells:∀ W,Below w.heap.size w W->0<f.1.length->∃ b off,A=some ⟨b,off,none⟩/\b<w.heap.size/\∀ (i:Nat) (x:Int),f.1[i]? = some x->W.cell? ⟨b,off+i,none⟩=some (.int .i64 x) /\ -9223372036854775808<=x/\x<=9223372036854775807)
  (hvals:∀ W,Below w.heap.size w W->qry f (.agg #[.slice A f.1.length c1,.slice A' l2 c2]) W) :
  CallsIn Fence.wide 8 Tryz.prog 151 #[.agg #[.slice A f.1.length c1,.slice A' l2 c2],.agg #[.int .i64 e0,.int .i64 e1]] w fun e w'=>ymk (qau (all.map Subtype.val) (0,0)) e/\Below w.heap.size w w':=by
 refine ug8 Tryz.func151 rfl trivial ?_ rfl;simp only [Tryz.ntmps151,ub5,uaf,ub9,Nat.reduceAdd,Nat.reduceSub,ubv,ubw,ubx,uby,uav,uaz];have hB4:Below w.heap.size w ((((w.alloc (.cells #[.slice A f.1.length c1,.slice A' l2 c2] 190)).alloc (.cells #[.int .i64 e0,.int .i64 e1] 31)).alloc (.cells #[.int .i64 0] 3)).alloc (.cells #[.int .i64 0] 57)):=
  ((((uat _ w).alloc (ua3 _) _).alloc (by simp) _).alloc (by simp; omega) _).alloc (by simp; omega) _
 have hS:=Four.start w (.slice A f.1.length c1) (.slice A' l2 c2) (.int .i64 e0) (.int .i64 e1) (.int .i64 0) (.int .i64 0);have hz:w.heap.size+3<((((w.alloc (.cells #[.slice A f.1.length c1,.slice A' l2 c2] 190)).alloc (.cells #[.int .i64 e0,.int .i64 e1] 31)).alloc (.cells #[.int .i64 0] 3)).alloc (.cells #[.int .i64 0] 57)).heap.size:=by simp
 have HS:=Lib.hid hS;have HZ:=Lib.hid hz;clear hS hz
 gi_wp2_with (first|(refine ⟨trivial,?_⟩; gi_at_call 185; refine (ucb.2 (hR _ hB4)).mono ?_; rintro e w1 ⟨rfl,hb⟩; obtain ⟨k0,k1,k2,k3,k4,k5,k6,k7⟩:=(HS.out.below hb HZ.out).cells)|(refine ⟨trivial,?_⟩; gi_at_call 186; refine (ucb.2 (hF _)).mono ?_; rintro e w2 ⟨rfl,hb2⟩; have HW2:=Lib.hid ((HS.out.below hb HZ.out).below hb2 (ubj HZ.out hb.size)); have HZ2:=Lib.hid (ubj (ubj HZ.out hb.size) hb2.size); have HW3:=Lib.hid (HW2.out.below (((uat w2.heap.size w2).alloc (ua3 _) (.cells #[.int .i64 0] 3)).alloc (by simp) (.cells #[.int .i64 0] 3)) HZ2.out); obtain ⟨m0,m1,m2,m3,m4,m5,m6,m7⟩:=HW2.out.cells; obtain ⟨n0,n1,n2,n3,n4,n5,n6,n7⟩:=HW3.out.cells)|(refine ⟨trivial,?_⟩; gi_at_call 187; refine (zyq _ _ _ _ _ _ _ _ _ _).mono ?_; rintro e w3 ⟨rfl,rfl⟩))
 obtain ⟨z2,hz2⟩:∃ z2,w2.heap.size=z2:=⟨_,rfl⟩;have hbel2:Below w.heap.size w w2:=(hB4.trans (hb.mono (by simp; omega))).trans (hb2.mono (ual (by simp; omega) hb.size));have q0:=uax w2 (.cells #[.int .i64 0] 3);have q1:=uax (w2.alloc (.cells #[.int .i64 0] 3)) (.cells #[.int .i64 0] 3);have q2:=uax ((w2.alloc (.cells #[.int .i64 0] 3)).alloc (.cells #[.int .i64 0] 3)) (.cells #[.slice A f.1.length c1,.slice A' l2 c2] 190);have q3:=uax (((w2.alloc (.cells #[.int .i64 0] 3)).alloc (.cells #[.int .i64 0] 3)).alloc (.cells #[.slice A f.1.length c1,.slice A' l2 c2] 190)) (.cells #[.int .i64 e0,.int .i64 e1] 31);simp only [ub1] at q1 q2 q3;have r0:=(uaq (((w2.alloc (.cells #[.int .i64 0] 3)).alloc (.cells #[.int .i64 0] 3)).alloc (.cells #[.slice A f.1.length c1,.slice A' l2 c2] 190)) (.cells #[.int .i64 e0,.int .i64 e1] 31) w2.heap.size (by simp only [ub1]; omega)).trans ((uaq _ _ _ (by simp only [ub1]; omega)).trans ((uaq _ _ _ (by simp only [ub1]; omega)).trans q0));have r1:=(uaq (((w2.alloc (.cells #[.int .i64 0] 3)).alloc (.cells #[.int .i64 0] 3)).alloc (.cells #[.slice A f.1.length c1,.slice A' l2 c2] 190)) (.cells #[.int .i64 e0,.int .i64 e1] 31) (w2.heap.size+1) (by simp only [ub1]; omega)).trans ((uaq _ _ _ (by simp only [ub1]; omega)).trans q1);have r2:=(uaq (((w2.alloc (.cells #[.int .i64 0] 3)).alloc (.cells #[.int .i64 0] 3)).alloc (.cells #[.slice A f.1.length c1,.slice A' l2 c2] 190)) (.cells #[.int .i64 e0,.int .i64 e1] 31) (w2.heap.size+1+1) (by simp only [ub1]; omega)).trans q2;have hbW:Below w2.heap.size w2 ((((w2.alloc (.cells #[.int .i64 0] 3)).alloc (.cells #[.int .i64 0] 3)).alloc (.cells #[.slice A f.1.length c1,.slice A' l2 c2] 190)).alloc (.cells #[.int .i64 e0,.int .i64 e1] 31)):=
  ((((uat _ w2).alloc (ua3 _) _).alloc (by simp) _).alloc (by simp; omega) _).alloc (by simp; omega) _
 have hsz:((((w2.alloc (.cells #[.int .i64 0] 3)).alloc (.cells #[.int .i64 0] 3)).alloc (.cells #[.slice A f.1.length c1,.slice A' l2 c2] 190)).alloc (.cells #[.int .i64 e0,.int .i64 e1] 31)).heap.size=w2.heap.size+4:=by simp
 have hW4:=HW2.out.below hbW HZ2.out;have hzz:=HZ2.out;obtain ⟨W0,hW0⟩:∃ W0,(((w2.alloc (.cells #[.int .i64 0] 3)).alloc (.cells #[.int .i64 0] 3)).alloc (.cells #[.slice A f.1.length c1,.slice A' l2 c2] 190)).alloc (.cells #[.int .i64 e0,.int .i64 e1] 31)=W0:=⟨_,rfl⟩;rw [hW0] at r0 r1 r2 q3 hbW hsz hW4 ⊢;clear hW0 HW3 HW2 HZ2 HS HZ hB4 m0 m1 m2 m3 m4 m5 m6 m7 n0 n1 n2 n3 n4 n5 n6 n7 k0 k1 k2 k3 k4 k5 k6 k7 q0 q1 q2;have hbel0:Below w.heap.size w W0:=hbel2.trans (hbW.mono hbel2.size);clear hbW hb hb2 hz2 hbel2 hR hF;have hzw:w.heap.size+3<W0.heap.size:=by omega
 have hsz':w2.heap.size+4<=W0.heap.size:=by omega
 clear hsz;refine wpIn_rangeFunc_ownH rfl (by omega) (gf:=205) (lb:=#[.pointer (some ⟨w2.heap.size+1+1+1,0,none⟩),.pointer (some ⟨w2.heap.size+1+1,0,none⟩)]) rfl trivial (ubz Tryz.func205 (by kernel_rfl) rfl)
  (zlw 7 (by omega) f A A' c1 l2 c2 e0 e1 all hall hlen he0 w (w2.heap.size+1+1) (w2.heap.size+1+1+1) W0 hbel0 r2 q3 hcells hvals)
  (fun h k=>h.trans k) (fun W l o o' hl ho hoc how=>⟨ue5 (w:=w) (ua3 _) W l o o' (by omega) ho hoc how,ucc (by omega),ucc (by omega)⟩) (uat _ _) (fun _=>rfl)
  (fun pre W=>∃ q,SumI w W0.heap.size (w.heap.size+1+1) (w.heap.size+1+1+1) w2.heap.size (w2.heap.size+1) pre W q)
  (fun c pre W=>SumX w (w.heap.size+1+1) (w.heap.size+1+1+1) c pre W)
  (ye8 (by omega)) (yfa (by omega)) ⟨(0,0),rfl,⟨by decide,by decide,by decide,by decide⟩,r0,r1,hW4.b2,hW4.b3,hbel0,ua3 _⟩
  (ymj W0.heap.size (fun x Bx=>{ tmps:=#[.agg #[.slice A f.1.length c1,.slice A' l2 c2],.agg #[.int .i64 e0,.int .i64 e1],.pointer (some ⟨w.heap.size,0,none⟩),.pointer (some ⟨w.heap.size+1,0,none⟩),.pointer (some ⟨w.heap.size+1+1,0,none⟩),.pointer (some ⟨w.heap.size+1+1+1,0,none⟩),.pointer (some ⟨w2.heap.size,0,none⟩),.pointer (some ⟨w2.heap.size+1,0,none⟩),.pointer (some ⟨Bx,0,none⟩),.int .i64 x.2.2,undef,undef,
   .agg #[.slice A f.1.length c1,.slice A' l2 c2],.bool true,.bool false,.bool false,.agg #[.int .i64 e0,.int .i64 e1],.bool true,.bool false,.bool false,.agg #[.slice A f.1.length c1,.slice A' l2 c2],.agg #[.int .i64 e0,.int .i64 e1],.func (.func 205) #[] #[.pointer (some ⟨w2.heap.size+1+1+1,0,none⟩),.pointer (some ⟨w2.heap.size+1+1,0,none⟩)],
   .agg #[.int .i64 x.1,.int .i64 x.2.1],.int .i64 x.2.2,undef,undef,undef,undef,undef,undef,undef,undef,undef,undef,undef,undef,undef,undef,undef,undef,undef,undef,undef,undef,undef,undef,undef,undef,undef,undef],defers:=[] }))
  ye7 ?assign ?body ?done ?stop
 case assign=>
  rintro l pre x W K ⟨q,hi⟩ hK;obtain ⟨⟨x0,x1,v⟩,hx⟩:=x
  gi_wp2
  have hsz1:=hi.sz;exact hK _ _ ((ufb _ _).from _) (KpS.below ((uat _ W).alloc (ua3 _) _) hi.bel.size (by omega) (by omega))
   ⟨q,hi.sum,hi.inv,hi.x6.alloc _,hi.x7.alloc _,hi.x4.alloc _,hi.x5.alloc _,hi.bel.alloc hi.bel.size _,by simp; omega⟩ ⟨W.heap.size,hsz1,uax W _,rfl⟩
 case body=>
  rintro l pre x a' W hl ⟨r,hr⟩ ⟨q,hi⟩ ⟨Bx,hBx,bX,rfl⟩ hlt;obtain ⟨⟨x0,x1,v⟩,hx⟩:=x;obtain ⟨s,a⟩:=q;have hx':1<=x0/\x0<x1/\x1<=292195 /\ -4000000000000000000<=v/\v<=4000000000000000000:=hx;obtain ⟨y1,y2,y3,y4,y5⟩:=hx';have hinv:0<=a/\a<=4000000000000000000 /\ -a<=s/\s<=a:=hi.inv;obtain ⟨i1,i2,i3,i4⟩:=hinv;have bX':W.heap[Bx]? = some (.cells #[.int .i64 x0,.int .i64 x1] 31 (0,0)):=bX;have cX0:W.cell? ⟨Bx,0,none⟩=some (.int .i64 x0):=qh bX' 0;have cX1:W.cell? ⟨Bx,1,none⟩=some (.int .i64 x1):=qh bX' 1;have c6:W.cell? ⟨w2.heap.size,0,none⟩=some (.int .i64 s):=hi.x6.cell;have c7:W.cell? ⟨w2.heap.size+1,0,none⟩=some (.int .i64 a):=hi.x7.cell;have f6:=hi.x6.frozen;have f7:=hi.x7.frozen;have c4:=hi.x4.cell;have f4:=hi.x4.frozen;have c5:=hi.x5.cell;have f5:=hi.x5.frozen;have HB:=Lib.hid bX';clear bX bX' hr
  gi_wp2
  ·have hc:(4000000000000000000-a)/(x1-x0)<if v < -v then -v else v:=by assumption
   exact ⟨((uc6 _ _ _).trans (uc6 _ _ _)).from _,qv4 hi hx hc (by omega) (by omega) (by omega)⟩
  ·have hc:(4000000000000000000-a)/(x1-x0)<if v < -v then -v else v:=by assumption
   exact ⟨((uc6 _ _ _).trans (uc6 _ _ _)).from _,qv4 hi hx hc (by omega) (by omega) (by omega)⟩
  ·have hc:(if v < -v then -v else v)<=(4000000000000000000-a)/(x1-x0):=by assumption
   have hv:v < -v:=by assumption
   exact ⟨((uc6 _ _ _).trans (uc6 _ _ _)).from _,zpw W _ _ (by omega) (by omega) (by omega) (by omega) (by omega) (by omega),_,_,
    qv3 hi hx hc (by rw [if_pos hv]) (by omega) (by omega) (by omega) (by omega) (by omega) (by omega) (by omega)⟩
  ·have hc:(if v < -v then -v else v)<=(4000000000000000000-a)/(x1-x0):=by assumption
   have hv:¬ v < -v:=by omega
   exact ⟨((uc6 _ _ _).trans (uc6 _ _ _)).from _,zpw W _ _ (by omega) (by omega) (by omega) (by omega) (by omega) (by omega),_,_,
    qv3 hi hx hc (by rw [if_neg hv]) (by omega) (by omega) (by omega) (by omega) (by omega) (by omega) (by omega)⟩
 case done=>
  rintro D zs W hD rfl ⟨q,hi⟩ hK;have c6:=hi.x6.cell;have c4:=hi.x4.cell;have f4:=hi.x4.frozen;have c5:=hi.x5.cell;have f5:=hi.x5.frozen
  gi_wp2
  have hK':=((uc6 W ⟨w.heap.size+1+1,0,none⟩ (.int .i64 q.1)).trans (uc6 _ ⟨w.heap.size+1+1+1,0,none⟩ (.int .i64 0))).same D _ hK rfl;have x4':=(hi.x4.set (.int .i64 q.1)).other (B':=w.heap.size+1+1+1) (by omega) (.int .i64 0);have x5':=(hi.x5.other (B':=w.heap.size+1+1) (by omega) (.int .i64 q.1)).set (.int .i64 0);have d4:=cell_kept x4'.cell (ufc _ D (.deferred none)) (fun r e=>by cases e; exact ⟨_,hK',rfl⟩);have d5:=cell_kept x5'.cell (ufc _ D (.deferred none)) (fun r e=>by cases e; exact ⟨_,hK',rfl⟩);have hbb:=(hi.bel.setCell (p:=⟨w.heap.size+1+1,0,none⟩) (by show w.heap.size<=w.heap.size+1+1; omega) (.int .i64 q.1)).setCell (p:=⟨w.heap.size+1+1+1,0,none⟩) (by show w.heap.size<=w.heap.size+1+1+1; omega) (.int .i64 0);refine ⟨by simp,.inl ⟨_,_,rfl,ufd hK',?_⟩⟩;refine ⟨.tuple #[.int .i64 q.1,.int .i64 0],?_,?_,hbb.trans (ue5 (w:=w) (ua3 _) _ D _ _ (by omega) hK' rfl rfl)⟩
  ·simp [results,uf9,go_sem,d4,d5]
  ·rw [hi.sum];rfl
 case stop=>
  rintro D c pre W hD ⟨r,rfl⟩ h hK;obtain rfl:=h.ret;have c4:=h.x4.cell;have f4:=h.x4.frozen;have c5:=h.x5.cell;have f5:=h.x5.frozen
  gi_wp2
  have d4:=cell_kept h.x4.cell (ufc _ D (.deferred none)) (fun r e=>by cases e; exact ⟨_,hK,rfl⟩);have d5:=cell_kept h.x5.cell (ufc _ D (.deferred none)) (fun r e=>by cases e; exact ⟨_,hK,rfl⟩);refine ⟨by simp,.inl ⟨_,_,rfl,ufd hK,?_⟩⟩;refine ⟨.tuple #[.int .i64 0,.int .i64 5],?_,?_,h.bel.trans (ue5 (w:=w) (ua3 _) _ D _ _ (by omega) hK rfl rfl)⟩
  ·simp [results,uf9,go_sem,d4,d5]
  ·rw [uda,qv5,h.sum];rfl
end Go.Proofs.YtgieagiaagoogaaGreat
namespace Go.Proofs.YtgieagiaagoogaaGreat
open Go Go.Ab Go.RowKit Go.Proofs Go.Shelf
theorem yms {cs:Array Value} {a b:Value} (hs:cs.size=2) (h0:cs[0]? = some a) (h1:cs[1]? = some b):cs = #[a,b]:=by
 apply ud8
 ·simp [hs]
 ·intro i hi hj;have h2:i<2:=by omega
  match i,h2 with
  |0,_=>
   have:=uaa.1 h0;simpa using this.2
  |1,_=>
   have:=uaa.1 h1;simpa using this.2
theorem ye6 {w:World} {F:Nat->Prop} {f:zg.den} {v:Value} (h:zv w F zg f v):∃ a b,v = .agg #[a,b]/\qs w F jg f.1 (fun _ u=>u=a)/\qs w F jg f.2.1 (fun _ u=>u=b):=by
 obtain ⟨cs,rfl⟩:=h.2.1.1 rfl;have hs:cs.size=2:=h.1;refine ⟨cs[0]'(by omega),cs[1]'(by omega),?_,?_,?_⟩
 ·congr 1;exact yms hs (ubg (by omega)) (ubg (by omega))
 ·refine qs.mono (fun _ h=>h) (fun _ _=>rfl) ?_ h.2.2.1;intro j u hj hu;have:j=0:=by have:j<1:=hj; omega
  subst this;have hu':cs[0]? = some u:=hu;rw [ubg (by omega)] at hu';simpa using hu'.symm
 ·refine qs.mono (fun _ h=>h) (fun _ _=>rfl) ?_ h.2.2.2.1;intro j u hj hu;have:j=0:=by have:j<1:=hj; omega
  subst this;have hu':cs[1]? = some u:=hu;rw [ubg (by omega)] at hu';simpa using hu'.symm
theorem ye1 {w:World} {F:Nat->Prop} {s:zy.den} {v:Value} (h:zv w F zy s v):v = .agg #[.int .i64 s.1,.int .i64 s.2.1]/\(-9223372036854775808<=s.1/\s.1<=9223372036854775807) /\ -9223372036854775808<=s.2.1/\s.2.1<=9223372036854775807:=by
 obtain ⟨cs,rfl⟩:=h.2.1.1 rfl;have hs:cs.size=2:=h.1;have h0:cs[0]? = some (.int .i64 s.1):=h.2.2.1.1;have h1:cs[1]? = some (.int .i64 s.2.1):=h.2.2.2.1.1;exact ⟨by rw [yms hs h0 h1],h.2.2.1.2,h.2.2.2.1.2⟩
theorem qv6:{l:List (Int×Int×Int)}->(∀ x∈l,qj6 x) -> {q q':Int×Int}->qt8 q->qau l q=some q'->qt8 q'
 |[],_,q,q',hq,h=>by
  simp only [qau,ua0] at h;subst h;exact hq
 |x::l,hl,q,q',hq,h=>by
  simp only [qau] at h;cases hs:qc2 q x with
  |none=>rw [hs] at h; cases h
  |some q1=>
   rw [hs] at h;exact qv6 (fun y hy=>hl y (by simp [hy])) (qx9 (hl x (by simp)) hs hq).1 h
theorem qcw {a b:Int} {u:Unit}:wk (a,b,u)=true↔1<=a/\a<b/\b<=292195:=by
 simp [wk]
theorem zmy {w:World} {F:Nat->Prop} {a b:Int} (ha : -9223372036854775808<=a/\a<=9223372036854775807) (hb : -9223372036854775808<=b/\b<=9223372036854775807):qi6 w F [i64,i64] (a,b,()) (.tuple #[.int .i64 a,.int .i64 b]):=
 ⟨_,rfl,_,_,rfl,⟨rfl,⟨fun h=>(by cases h),fun ⟨cs,h⟩=>(by cases h)⟩,rfl,ha⟩,_,_,rfl,⟨rfl,⟨fun h=>(by cases h),fun ⟨cs,h⟩=>(by cases h)⟩,rfl,hb⟩,rfl⟩
theorem zh9:{l:List (Int×Int×Int)}->(∀ x∈l,qj6 x)->∃ all:List qfc,all.map Subtype.val=l
 |[],_=>⟨[],rfl⟩
 |x::l,h=>by
  obtain ⟨all,ha⟩:=zh9 (l:=l) (fun y hy=>h y (by simp [hy]));exact ⟨⟨x,h x (by simp)⟩::all,by simp [ha]⟩
theorem ypv:qa Tryz.prog 151 zrq:=by
 refine ⟨enters (fn:=Tryz.f151) (by kernel_rfl) rfl rfl,fun w F xs vs hbd hr _=>?_⟩;obtain ⟨f,⟨e0,e1,u⟩,_⟩:=xs;obtain ⟨va,vs',rfl,hva,vb,vs'',rfl,hvb,hn⟩:=hr;cases hn;have hva':zv w F zg f va:=hva;have hvb':zv w F zy (e0,e1,u) vb:=hvb;obtain ⟨rfl,he0,he1⟩:=ye1 hvb';obtain ⟨sa,sb,rfl,ha,hb⟩:=ye6 hva';obtain ⟨A,c1,rfl,hl1,hl2,hcells⟩:=zmk ha;obtain ⟨A',c2,rfl,hl3,hl4,_⟩:=zmk hb;have hmono:∀ W,Below w.heap.size w W->zv W F zg f (.agg #[.slice A f.1.length c1,.slice A' f.2.1.length c2]):=fun W hW=>hva'.mono (fun _ h=>h) (fun b hb=>hW.block b (hbd b hb));have hspan:∀ (W:World) (F:Nat->Prop),zv W F zy (e0,e1,u) (.agg #[.int .i64 e0,.int .i64 e1]):=fun W F=>⟨rfl,⟨fun _=>⟨_,rfl⟩,fun _=>rfl⟩,⟨rfl,he0⟩,⟨rfl,he1⟩,trivial⟩;have hR:∀ W,Below w.heap.size w W->Calls Tryz.prog 185 #[.agg #[.slice A f.1.length c1,.slice A' f.2.1.length c2]] W fun e w'=>e = .returned (.bool (qdr f))/\Below W.heap.size W w':=fun W hW=>
  zie (ps:=[.d zg]) (g:=fun x=>qdr x.1) yeg (F:=F) (xs:=(f,())) (vs:=[_]) (fun b hb=>ubj (hbd b hb) hW.size) ⟨_,[],rfl,hmono W hW,rfl⟩ trivial
 have hF:∀ W,Calls Tryz.prog 186 #[.agg #[.int .i64 e0,.int .i64 e1]] W fun e w'=>e = .returned (.bool (wk (e0,e1,())))/\Below W.heap.size W w':=fun W=>
  zie (ps:=[.d zy]) (g:=fun x=>wk x.1) ycn (F:=fun _=>False) (xs:=((e0,e1,()),())) (vs:=[_]) (fun b hb=>hb.elim) ⟨_,[],rfl,hspan W _,rfl⟩ trivial
 by_cases hyes:qdr f=true/\wk (e0,e1,())=true
 ·obtain ⟨hr1,hr2⟩:=hyes;obtain ⟨hlen,hup,_,hval⟩:=qok hr1;have hok:=qlc (f:=f) hval (e:=e1) (qcw.1 hr2).2.2 f.1 e0 (qcw.1 hr2).1 (qcw.1 hr2).2.1;obtain ⟨all,hall⟩:=zh9 hok;rw [hr1] at hR;rw [hr2] at hF;have hl0:f.1.length<=9223372036854775807:=by
   have:=Nat.le_trans hl1 hl2;unfold maxLen at this;omega
  have key:=yk7 f A A' c1 f.2.1.length c2 e0 e1 w hR hF all hall hl0 he0 (fun W hW hp=>by
   obtain ⟨b,off,h1,h2,h3⟩:=hcells hp;exact ⟨b,off,h1,hbd b h2,fun i x hx=>⟨(hW.cell (p:=⟨b,off+i,none⟩) (hbd b h2)).trans (h3 i x hx).1,(h3 i x hx).2⟩⟩)
   (fun W hW=>zos (fun b hb=>ubj (hbd b hb) hW.size) (hmono W hW) hup hlen)
  refine (ucb.1 key).mono ?_;rintro e w' ⟨he,hbel⟩;rw [hall] at he;have hS:qav f (e0,e1,u)=match qau (jv f e1 f.1 e0) (0,0) with
    |some q=>(q.1,0)
    |none=>(0,5):=by
   unfold qav;rw [if_pos ⟨hr1,hr2⟩]
   try rfl
  cases hq:qau (jv f e1 f.1 e0) (0,0) with
  |none=>
   rw [hq] at he hS;have he':e = .returned (.tuple #[.int .i64 0,.int .i64 5]):=he;refine ⟨_,F,he',hbel,fun _ h=>h,fun b hb=>⟨.inl hb,ubj (hbd b hb) hbel.size⟩,?_⟩;show qi6 w' F [i64,i64] ((qav f (e0,e1,u)).1,(qav f (e0,e1,u)).2,()) _;rw [hS];exact zmy (by decide) (by decide)
  |some q=>
   rw [hq] at he hS;have he':e = .returned (.tuple #[.int .i64 q.1,.int .i64 0]):=he;refine ⟨_,F,he',hbel,fun _ h=>h,fun b hb=>⟨.inl hb,ubj (hbd b hb) hbel.size⟩,?_⟩;show qi6 w' F [i64,i64] ((qav f (e0,e1,u)).1,(qav f (e0,e1,u)).2,()) _;rw [hS];obtain ⟨j1,j2,j3,j4⟩:=qv6 hok (q:=(0,0)) ⟨by decide,by decide,by decide,by decide⟩ hq;exact zmy ⟨by show _<=q.1; omega,by show q.1<=_; omega⟩ (b:=0) (by decide)
 ·have key:=ypu f A A' f.1.length c1 f.2.1.length c2 e0 e1 w hR hF hyes;refine (ucb.1 key).mono ?_;rintro e w' ⟨rfl,hbel⟩;refine ⟨_,F,rfl,hbel,fun _ h=>h,fun b hb=>⟨.inl hb,ubj (hbd b hb) hbel.size⟩,?_⟩;show qi6 w' F [i64,i64] ((qav f (e0,e1,u)).1,(qav f (e0,e1,u)).2,()) _;have hS:qav f (e0,e1,u)=(0,1):=if_neg hyes;rw [hS];exact zmy (by decide) (by decide)
end Go.Proofs.YtgieagiaagoogaaGreat
namespace Go.Proofs.YtgieagiaagoogaaGreat
open Go Go.Ab Go.RowKit Go.Proofs
abbrev qag:Ty:=.sl ql
theorem qee (a b:Bool):(bif a then b else false)=(a&&b):=by cases a<;>rfl
theorem ymx (a b:Bool):(bif a then true else b)=(a || b):=by cases a<;>rfl
theorem qdi {n:Int} (h : -9223372036854775808<=n/\n<=9223372036854775807):IntKind.i64.wrap n=n:=uag _ h
def qba:Pc:=⟨[.d i64],[],fun _=>(),fun x=>!(x.1==0),fun x=>⟨57,.i64,x.1⟩,fun _=>[]⟩
theorem zdg:qdl Tryz.prog 109 qba:=by
 refine ⟨enters (fn:=Tryz.f109) (by kernel_rfl) rfl rfl,fun w F xs vs hb hr _=>?_⟩;obtain ⟨v,vs',rfl,hv,hn⟩:=hr;cases hn;obtain ⟨n,_⟩:=xs;have hv':v = .int .i64 n:=by
  have h:qz Tryz.prog w F (fun _ _=>True) (qga i64 n) v:=qbi hv;exact h.2.1
 subst hv';by_cases h0:n=0
 ·subst h0
  go_enter Tryz.func109,Tryz.ntmps109
  go_wp2
  go_end0
  refine .inl ⟨rfl,.tuple #[],F,rfl,uat _ _,fun _ h=>h,fun b h=>⟨.inl h,hb b h⟩,#[],rfl,rfl⟩
 ·have hne:(n==0)=false:=by simpa using h0
  have hne2:(n != 0)=true:=by simpa using h0
  have hbad:qba.bad (n,())=true:=by show (!(n==0))=true; rw [hne]; rfl
  go_enter Tryz.func109,Tryz.ntmps109
  go_wp2
  exact ⟨rfl,.inr ⟨hbad,rfl,uat _ _⟩⟩
def m32 (a:Int):Int:=IntKind.u64.wrap ((BitVec.ofInt IntKind.u64.bits a &&& BitVec.ofInt IntKind.u64.bits 4294967295).toNat:Int)
def h32 (a:Int):Int:=a.fdiv (2 ^ min (Int.toNat 32) IntKind.u64.bits)
theorem qdk {n:Int} (h:0<=n/\n<=18446744073709551615):IntKind.u64.wrap n=n:=IntWalk.u64_in _ h
theorem za8 {a:Int} (h:0<=a/\a<=18446744073709551615):m32 a=a%4294967296:=by
 obtain ⟨n,rfl⟩:∃ n:Nat,a=n:=⟨a.toNat,by omega⟩;unfold m32;have e1:(BitVec.ofInt IntKind.u64.bits (n:Int) &&& BitVec.ofInt IntKind.u64.bits 4294967295).toNat=n%4294967296:=by
  have h1:(BitVec.ofInt IntKind.u64.bits (n:Int)).toNat=n:=by
   rw [ug9];show ((n:Int)%((2 ^ 64:Nat):Int)).toNat=n;omega
  have h2:(BitVec.ofInt IntKind.u64.bits (4294967295:Int)).toNat=2 ^ 32-1:=by decide
  rw [BitVec.toNat_and,h1,h2,Nat.and_two_pow_sub_one_eq_mod]
 rw [e1,qdk (by omega)];omega
theorem zxp {a:Int}:h32 a=a/4294967296:=by
 unfold h32;have:(2:Int) ^ min (Int.toNat 32) IntKind.u64.bits=4294967296:=by decide
 rw [this,uen _ (by decide)]
def qzc (x y:Int):Int:=IntKind.u64.wrap (IntKind.u64.wrap (h32 x*m32 y)+h32 (IntKind.u64.wrap (m32 x*m32 y)))
def yqu (x:qn [.d u64,.d u64]):Fr (qi [u64,u64]):=
 Fr.need (¬ (32:Int)<0) (Fr.need (¬ (32:Int)<0) (Fr.need (¬ (32:Int)<0) (Fr.need (¬ (32:Int)<0) (Fr.need (¬ (32:Int)<0)
  (Fr.val (IntKind.u64.wrap (IntKind.u64.wrap (IntKind.u64.wrap (h32 x.1*h32 x.2.1)+h32 (qzc x.1 x.2.1))+h32 (IntKind.u64.wrap (m32 (qzc x.1 x.2.1)+IntKind.u64.wrap (m32 x.1*h32 x.2.1)))),
   IntKind.u64.wrap (x.1*x.2.1),()))))))
def qr4:Ct:=⟨[.d u64,.d u64],[u64,u64],fun x=>(x.1*x.2.1/18446744073709551616,x.1*x.2.1%18446744073709551616,()),fun _=>[]⟩
theorem qw9 {a b n:Int} (ha:0<=a/\a<=n) (hb:0<=b/\b<=n):0<=a*b/\a*b<=n*n:=
 ⟨uf8 ha.1 hb.1,Int.mul_le_mul ha.2 hb.2 hb.1 (by omega)⟩
theorem zx7 (a1 a0 b1 b0:Int):(a1*4294967296+a0)*(b1*4294967296+b0)=a1*b1*18446744073709551616+(a1*b0+a0*b1)*4294967296+a0*b0:=by grind
theorem zx6 {x y:Int} (hx:0<=x/\x<=18446744073709551615) (hy:0<=y/\y<=18446744073709551615) :
  IntKind.u64.wrap (IntKind.u64.wrap (IntKind.u64.wrap (h32 x*h32 y)+h32 (qzc x y))+h32 (IntKind.u64.wrap (m32 (qzc x y)+IntKind.u64.wrap (m32 x*h32 y))))=x*y/18446744073709551616:=by
 have ex:x=x/4294967296*4294967296+x%4294967296:=by omega
 have ey:y=y/4294967296*4294967296+y%4294967296:=by omega
 have hs:=zx7 (x/4294967296) (x%4294967296) (y/4294967296) (y%4294967296);rw [← ex,← ey] at hs;rw [hs];unfold qzc;rw [za8 hx,za8 hy];simp only [zxp];have b1:0<=x/4294967296/\x/4294967296<=4294967295:=by omega
 have b2:0<=x%4294967296/\x%4294967296<=4294967295:=by omega
 have b3:0<=y/4294967296/\y/4294967296<=4294967295:=by omega
 have b4:0<=y%4294967296/\y%4294967296<=4294967295:=by omega
 have p11:=qw9 b1 b3;have p10:=qw9 b1 b4;have p01:=qw9 b2 b3;have p00:=qw9 b2 b4;clear hs ex ey b1 b2 b3 b4;generalize x/4294967296*(y/4294967296)=q11 at *;generalize x/4294967296*(y%4294967296)=q10 at *;generalize x%4294967296*(y/4294967296)=q01 at *;generalize x%4294967296*(y%4294967296)=q00 at *;rw [qdk (n:=q11) (by omega),qdk (n:=q10) (by omega),qdk (n:=q01) (by omega),qdk (n:=q00) (by omega),qdk (n:=q10+q00/4294967296) (by omega),za8 (a:=q10+q00/4294967296) (by omega),
  qdk (n:=(q10+q00/4294967296)%4294967296+q01) (by omega)]
 rw [qdk (n:=q11+(q10+q00/4294967296)/4294967296) (by omega),qdk (by omega)];omega
theorem qwa {w:World} {F:Nat->Prop} {n:Int} {v:Value} (h:zv w F u64 n v):0<=n/\n<=18446744073709551615:=h.2.2.2
theorem qrj {w:World} {F:Nat->Prop} {n:Int} {v:Value} (h:zv w F i64 n v) : -9223372036854775808<=n/\n<=9223372036854775807:=h.2.2.2
theorem zx5:qa Tryz.prog 189 qr4:=
 flat (ps:=[.d u64,.d u64]) (rs:=[u64,u64]) (zc (cs:=[]) (ps:=[]) qv trivial trivial) (fn:=Tryz.f189) (fr:=yqu) (0,0,()) (by kernel_rfl) (fun x=>by kernel_rfl) _ _
  (fun w F x vs hr _=>by
   obtain ⟨a,b,u⟩:=x;obtain ⟨v1,vs1,rfl,h1,v2,vs2,rfl,h2,_⟩:=hr;have g1:=qwa h1;have g2:=qwa h2;refine ⟨⟨by decide,by decide,by decide,by decide,by decide,trivial⟩,?_⟩;show (IntKind.u64.wrap (IntKind.u64.wrap (IntKind.u64.wrap (h32 a*h32 b)+h32 (qzc a b))+h32 (IntKind.u64.wrap (m32 (qzc a b)+IntKind.u64.wrap (m32 a*h32 b)))),IntKind.u64.wrap (a*b),())=(a*b/18446744073709551616,a*b%18446744073709551616,());have hw:IntKind.u64.wrap (a*b)=a*b%18446744073709551616:=by
    rw [uf6]
   rw [zx6 g1 g2,hw])
def zsz (x:qn [.d u64,.d u64,.d u64]):Fr (qi [u64,u64]):=
 Fr.br (x.2.2.1==0) (Fr.need False (Fr.val (0,0,())))
  (Fr.br (decide (x.2.2.1<=x.1)) (Fr.need False (Fr.val (0,0,())))
   (Fr.br (x.1==0) (Fr.need (x.2.2.1≠0) (Fr.need (x.2.2.1≠0) (Fr.val (IntKind.u64.wrap (x.2.1.tdiv x.2.2.1),x.2.1.tmod x.2.2.1,()))))
    (Fr.need False (Fr.val (0,0,())))))
def zri:Ct:=⟨[.d u64,.d u64,.d u64],[u64,u64],fun x=>(x.2.1/x.2.2.1,x.2.1%x.2.2.1,()),fun x=>[x.1=0,0<x.2.2.1]⟩
theorem zwt {lo y:Int} (g2:0<=lo/\lo<=18446744073709551615) (hy:0<y):(zsz (0,lo,y,())).ok/\(zsz (0,lo,y,())).get=(lo/y,lo%y,()):=by
 have e1:(y==0)=false:=by simp; omega
 have e2:decide (y<=(0:Int))=false:=by simp; omega
 have e3:y≠0:=by omega
 refine ⟨⟨fun hc=>?_,fun _=>⟨fun hc=>?_,fun _=>⟨fun _=>⟨e3,e3,trivial⟩,fun hc=>by cases hc⟩⟩⟩,?_⟩
 ·have hc':(y==0)=true:=hc;rw [e1] at hc';cases hc'
 ·have hc':decide (y<=(0:Int))=true:=hc;rw [e2] at hc';cases hc'
 ·show (if (y==0)=true then ((0:Int),(0:Int),()) else if decide (y<=(0:Int))=true then ((0:Int),(0:Int),()) else (IntKind.u64.wrap (lo.tdiv y),lo.tmod y,()))=(lo/y,lo%y,());rw [e1,e2];simp only [ubt,ub3];rw [IntWalk.u64_quo lo y ⟨g2.1,g2.2,by omega⟩,IntWalk.rem_in lo y g2.1]
theorem ynm:qa Tryz.prog 190 zri:=
 flat (ps:=[.d u64,.d u64,.d u64]) (rs:=[u64,u64]) (zc (cs:=[]) (ps:=[]) qv trivial trivial) (fn:=Tryz.f190) (fr:=zsz) (0,0,0,()) (by kernel_rfl) (fun x=>by kernel_rfl) _ _
  (fun w F x vs hr hok=>by
   obtain ⟨hi,lo,y,u⟩:=x;obtain ⟨v1,vs1,rfl,h1,v2,vs2,rfl,h2,v3,vs3,rfl,h3,_⟩:=hr;obtain ⟨he,hy⟩:=hok;have he':hi=0:=he;subst he';exact zwt (qwa h2) hy)
noncomputable def XiN:FuncId->Option (Func×(Nat->St->Option Tr)):=qam [(188,(Tryz.f188,qq))]
noncomputable def XiO:FuncId->Option (Func×(Nat->St->Option Tr)):=qam [(153,(Tryz.f153,qq)),(152,(Tryz.f152,qq))]
abbrev zgx:List (FuncId×Ct):=[(189,qr4),(190,zri)]
theorem qyg:qms Tryz.prog zgx:=⟨zx5,ynm,trivial⟩
noncomputable def CN1:Cx:=cx zgx []
noncomputable def CN2:Cx:=cxK zgx [] (qql Tryz.prog CN1 XiN)
noncomputable def CN3:Cx:=cxK zgx [] (qql Tryz.prog CN2 XiO)
theorem yl1:CxOK Tryz.prog CN1:=zc qv qyg trivial
theorem zvr:∀ f fn Λ,XiN f=some (fn,Λ)->Tryz.prog.funcs[f]? = some fn/\∀ c E',fn.body=some c->jw Tryz.prog E' Λ c 0:=fun f fn Λ h=>by
 simp only [XiN,qam] at h;split at h
 ·rename_i hf;subst hf;cases h;exact ⟨by kernel_rfl,fun c E' _=>qe c 0⟩
 ·cases h
theorem yl2:CxOK Tryz.prog CN2:=qc4 qv qyg trivial (qis yl1 zvr)
theorem zvs:∀ f fn Λ,XiO f=some (fn,Λ)->Tryz.prog.funcs[f]? = some fn/\∀ c E',fn.body=some c->jw Tryz.prog E' Λ c 0:=fun f fn Λ h=>by
 simp only [XiO,qam] at h;split at h
 ·rename_i hf;subst hf;cases h;exact ⟨by kernel_rfl,fun c E' _=>qe c 0⟩
 ·split at h
  ·rename_i hf;subst hf;cases h;exact ⟨by kernel_rfl,fun c E' _=>qe c 0⟩
  ·cases h
theorem yl3:CxOK Tryz.prog CN3:=qc4 qv qyg trivial (qis yl2 zvs)
def qws (q:Int):Fr (qi [i64,i64]):=Fr.br (decide (q>4000000000000000000)) (Fr.val (0,5,())) (Fr.val (IntKind.i64.wrap q,0,()))
def evT (q r c:Int):Fr (qi [i64,i64]):=
 Fr.br (decide (q>4000000000000000000)) (Fr.val (0,5,()))
  (Fr.need ((r==IntKind.u64.wrap (c-r))=true->decide (r>IntKind.u64.wrap (c-r))=false->(2:Int)≠0)
   (Fr.br (bif decide (r>IntKind.u64.wrap (c-r)) then true else bif r==IntKind.u64.wrap (c-r) then q.tmod 2==1 else false) (qws (IntKind.u64.wrap (q+1))) (qws q)))
def evD (h l c:Int):Fr (qi [i64,i64]):=
 Fr.br (decide (h≥c)) (Fr.val (0,5,())) (Fr.need (h=0) (Fr.need (0<c) (evT (zri.f (h,l,c,())).1 (zri.f (h,l,c,())).2.1 c)))
def zal (x:qn [.d i64,.d i64,.d i64]):Fr (qi [i64,i64]):=
 Fr.br (bif bif decide (x.1<0) then true else decide (x.2.1<0) then true else decide (x.2.2.1<0)) (Fr.val (0,1,()))
  (Fr.br (x.2.2.1==0) (Fr.val (0,6,()))
   (evD (qr4.f (IntKind.u64.wrap x.1,IntKind.u64.wrap x.2.1,())).1 (qr4.f (IntKind.u64.wrap x.1,IntKind.u64.wrap x.2.1,())).2.1 (IntKind.u64.wrap x.2.2.1)))
def qd6 (p c:Int):Int:=if p%c>c-p%c∨(p%c=c-p%c/\p/c%2=1) then p/c+1 else p/c
def ka (a b c:Int):Int×Int:=if a<0∨b<0∨c<0 then (0,1) else if c=0 then (0,6) else if qd6 (a*b) c>4000000000000000000 then (0,5) else (qd6 (a*b) c,0)
theorem ymv (a b c:Bool):(bif bif a then true else b then true else c)=(a || (b || c)):=by cases a<;>cases b<;>rfl
theorem zjl {q:Int} (h:0<=q):(qws q).ok/\(qws q).get=if q>4000000000000000000 then (0,5,()) else (q,0,()):=by
 refine ⟨⟨fun _=>trivial,fun _=>trivial⟩,?_⟩;show (if decide (q>4000000000000000000)=true then ((0:Int),(5:Int),()) else (IntKind.i64.wrap q,(0:Int),()))=_;by_cases hq:q>4000000000000000000
 ·rw [if_pos (by simpa using hq),if_pos hq]
 ·have hw:IntKind.i64.wrap q=q:=qdi (by omega);rw [if_neg (by simpa using hq),if_neg hq,hw]
theorem zw1 {q r c:Int} (hr:0<=r/\r<c) (hc:c<=9223372036854775807) (hq:0<=q) :
  (evT q r c).ok/\(evT q r c).get=if (if r>c-r∨(r=c-r/\q%2=1) then q+1 else q)>4000000000000000000 then (0,5,()) else ((if r>c-r∨(r=c-r/\q%2=1) then q+1 else q),0,()):=by
 have hw:IntKind.u64.wrap (c-r)=c-r:=qdk (by omega);have hm:q.tmod 2=q%2:=Int.tmod_eq_emod_of_nonneg hq;unfold evT;rw [hw,hm];by_cases h1:q>4000000000000000000
 ·have hd:decide (q>4000000000000000000)=true:=by simpa using h1
  refine ⟨⟨fun _=>trivial,fun hb=>by rw [hd] at hb; cases hb⟩,?_⟩;show (if decide (q>4000000000000000000)=true then ((0:Int),(5:Int),()) else _)=_;rw [hd,if_pos rfl,if_pos];split<;>omega
 ·have hd:decide (q>4000000000000000000)=false:=by simpa using h1
  have hcond:(bif decide (r>c-r) then true else bif r==c-r then q%2==1 else false)=decide (r>c-r∨(r=c-r/\q%2=1)):=by
   rw [ymx,qee];generalize c-r=d;rw [uau];simp
  rw [hcond];have hw2:IntKind.u64.wrap (q+1)=q+1:=qdk (by omega);rw [hw2];have f1:=zjl (q:=q+1) (by omega);have f2:=zjl (q:=q) hq;refine ⟨⟨fun _=>trivial,fun _=>⟨fun _ _=>by decide,fun _=>f1.1,fun _=>f2.1⟩⟩,?_⟩;show (if decide (q>4000000000000000000)=true then ((0:Int),(5:Int),()) else if decide (r>c-r∨(r=c-r/\q%2=1))=true then (qws (q+1)).get else (qws q).get)=_;rw [hd,if_neg (by decide),f1.2,f2.2];by_cases h2:r>c-r∨(r=c-r/\q%2=1)
  ·simp only [h2,decide_true,if_true]
  ·simp only [h2,decide_false,ub3,ubt]
theorem zsi {a b c:Int} (ha : -9223372036854775808<=a/\a<=9223372036854775807) (hb : -9223372036854775808<=b/\b<=9223372036854775807) (hc : -9223372036854775808<=c/\c<=9223372036854775807)
  (hp:0<=a->0<=b->a*b<18446744073709551616):(zal (a,b,c,())).ok/\(zal (a,b,c,())).get=((ka a b c).1,(ka a b c).2,()):=by
 unfold zal;simp only [ymv];by_cases hn:a<0∨b<0∨c<0
 ·have hd:(decide (a<0) || (decide (b<0) || decide (c<0)))=true:=by simpa using hn
  rw [hd];refine ⟨⟨fun _=>trivial,fun hx=>by cases hx⟩,?_⟩;unfold ka;rw [if_pos hn];rfl
 ·have hd:(decide (a<0) || (decide (b<0) || decide (c<0)))=false:=by simpa using hn
  rw [hd];have ha0:0<=a:=by omega
  have hb0:0<=b:=by omega
  have hc0:0<=c:=by omega
  have hab:=hp ha0 hb0;have hab0:0<=a*b:=uf8 ha0 hb0;rw [show IntKind.u64.wrap a=a from qdk (by omega),show IntKind.u64.wrap b=b from qdk (by omega),show IntKind.u64.wrap c=c from qdk (by omega)];have e1:(qr4.f (a,b,())).1=0:=by
   show a*b/18446744073709551616=0;omega
  have e2:(qr4.f (a,b,())).2.1=a*b:=by
   show a*b%18446744073709551616=a*b;omega
  rw [e1,e2];unfold ka;rw [if_neg hn];by_cases hz:c=0
  ·subst hz;refine ⟨⟨fun hx=>(by cases hx),fun _=>⟨fun _=>trivial,fun hx=>by cases hx⟩⟩,rfl⟩
  ·have hz':(c==0)=false:=by simpa using hz
   rw [if_neg hz,hz'];have hcp:0<c:=by omega
   have hge:decide ((0:Int)≥c)=false:=by simpa using hcp
   have key:=zw1 (q:=a*b/c) (r:=a*b%c) (c:=c) ⟨Int.emod_nonneg _ (by omega),Int.emod_lt_of_pos _ hcp⟩ hc.2 (Int.ediv_nonneg hab0 hc0);unfold evD;rw [hge];refine ⟨⟨fun hx=>(by cases hx),fun _=>⟨fun hx=>(by cases hx),fun _=>⟨fun hx=>(by cases hx),fun _=>⟨rfl,hcp,key.1⟩⟩⟩⟩,?_⟩;show (evT (a*b/c) (a*b%c) c).get=_;rw [key.2];show _=((if qd6 (a*b) c>4000000000000000000 then ((0:Int),(5:Int)) else (qd6 (a*b) c,0)).1,(if qd6 (a*b) c>4000000000000000000 then ((0:Int),(5:Int)) else (qd6 (a*b) c,0)).2,());unfold qd6;generalize (if a*b%c>c-a*b%c∨a*b%c=c-a*b%c/\a*b/c%2=1 then a*b/c+1 else a*b/c)=z;split<;>rfl
def qmv:Ct:=⟨[.d i64,.d i64,.d i64],[i64,i64],fun x=>((ka x.1 x.2.1 x.2.2.1).1,(ka x.1 x.2.1 x.2.2.1).2,()),fun x=>[0<=x.1->0<=x.2.1->x.1*x.2.1<18446744073709551616]⟩
theorem yip:qa Tryz.prog 111 qmv:=
 flat (ps:=[.d i64,.d i64,.d i64]) (rs:=[i64,i64]) yl3 (fn:=Tryz.f111) (fr:=zal) (0,0,0,()) (by kernel_rfl) (fun x=>by kernel_rfl) _ _
  (fun w F x vs hr hok=>by
   obtain ⟨a,b,c,u⟩:=x;obtain ⟨v1,vs1,rfl,h1,v2,vs2,rfl,h2,v3,vs3,rfl,h3,_⟩:=hr;exact zsi (qrj h1) (qrj h2) (qrj h3) hok)
def qa9 (p:List Int×List Int) (day v:Int):List Int×List Int:=
 let q:=if p.1.getLast? = some day then (p.1.dropLast,p.2.dropLast) else p
 if v≠q.2.getLast?.getD 0/\day<=292194 then (q.1++[day],q.2++[v]) else q
section
variable {α:Type}
def zgt (at_ val:List Int) (day v:Int) (K:List Int->List Int->Fr α):Fr α:=
 Fr.br (decide ((val.length:Int)>0))
  (Fr.need (0<=IntKind.i64.wrap (val.length-1)/\IntKind.i64.wrap (val.length-1)<val.length)
   (Fr.need ((IntKind.i64.wrap (val.length-1)).toNat<val.length)
    (Fr.br (bif v != val.getD (IntKind.i64.wrap (val.length-1)).toNat i64.dflt then decide (day<=292194) else false)
     (Fr.need (at_.length + [day].length<=maxLen/\(at_.length + [day].length)*8<=140737488355328)
      (Fr.need (val.length + [v].length<=maxLen/\(val.length + [v].length)*8<=140737488355328)
       (K (at_++[day]) (val++[v]))))
     (K at_ val))))
  (Fr.br (bif v != 0 then decide (day<=292194) else false)
   (Fr.need (at_.length + [day].length<=maxLen/\(at_.length + [day].length)*8<=140737488355328)
    (Fr.need (val.length + [v].length<=maxLen/\(val.length + [v].length)*8<=140737488355328)
     (K (at_++[day]) (val++[v]))))
   (K at_ val))
def ymp (at_ val:List Int) (day v:Int) (K:List Int->List Int->Fr α):Fr α:=
 Fr.need (decide ((at_.length:Int)>0)=true->0<=IntKind.i64.wrap (at_.length-1)/\IntKind.i64.wrap (at_.length-1)<at_.length)
  (Fr.need (decide ((at_.length:Int)>0)=true->(IntKind.i64.wrap (at_.length-1)).toNat<at_.length)
   (Fr.br (bif decide ((at_.length:Int)>0) then at_.getD (IntKind.i64.wrap (at_.length-1)).toNat i64.dflt==day else false)
    (Fr.need (0<=IntKind.i64.wrap (at_.length-1)/\IntKind.i64.wrap (at_.length-1)<=at_.length)
     (Fr.need (0<=IntKind.i64.wrap (at_.length-1)/\IntKind.i64.wrap (at_.length-1)<=val.length)
      (zgt (at_.take (IntKind.i64.wrap (at_.length-1)).toNat) (val.take (IntKind.i64.wrap (at_.length-1)).toNat) day v K)))
    (zgt at_ val day v K)))
theorem qpm {l:List Int} (h:0<l.length) (hb:l.length<1000000):l.getD (IntKind.i64.wrap ((l.length:Int)-1)).toNat i64.dflt=l.getLast?.getD 0:=by
 rw [qdi (by omega),ugo,ua6];have:((l.length:Int)-1).toNat=l.length-1:=by omega
 rw [this];rfl
theorem zvw {at_ val:List Int} {day v:Int} {K:List Int->List Int->Fr α} {Q:α->Prop} (h1:at_.length<1000000) (h2:val.length<1000000)
  (h:(if v≠val.getLast?.getD 0/\day<=292194 then K (at_++[day]) (val++[v]) else K at_ val).satP Q):(zgt at_ val day v K).satP Q:=by
 have hroom:∀ (l:List Int) (x:Int),l.length<1000000->l.length + [x].length<=maxLen/\(l.length + [x].length)*8<=140737488355328:=fun l x hl=>by
  simp only [maxLen,uf4];omega
 by_cases hv:0<val.length
 ·refine ⟨fun _=>⟨?_,?_,?_,?_⟩,fun hn=>?_⟩
  ·rw [qdi (by omega)];omega
  ·rw [qdi (by omega)];omega
  ·intro hb;rw [qpm hv h2,qee] at hb;have hb':v≠val.getLast?.getD 0/\day<=292194:=by simpa using hb
   rw [if_pos hb'] at h;exact ⟨hroom _ _ h1,hroom _ _ h2,h⟩
  ·intro hb;rw [qpm hv h2,qee] at hb;have hb':¬ (v≠val.getLast?.getD 0/\day<=292194):=by
    intro hc;simp [hc.1,hc.2] at hb
   rw [if_neg hb'] at h;exact h
  ·exact absurd (uac hn) (by omega)
 ·have hnil:val=[]:=by
   cases val with
   |nil=>rfl
   |cons _ _=>simp at hv
  subst hnil;refine ⟨fun hn=>by simp at hn,fun _=>⟨fun hb=>?_,fun hb=>?_⟩⟩
  ·rw [qee] at hb;have hb':v≠([]:List Int).getLast?.getD 0/\day<=292194:=by simpa using hb
   rw [if_pos hb'] at h;exact ⟨hroom _ _ h1,hroom _ _ h2,h⟩
  ·rw [qee] at hb;have hb':¬ (v≠([]:List Int).getLast?.getD 0/\day<=292194):=by
    intro hc;have h3:v≠0:=hc.1;simp [h3,hc.2] at hb
   rw [if_neg hb'] at h;exact h
theorem yax {at_ val:List Int} {day v:Int} {K:List Int->List Int->Fr α} {Q:α->Prop} (h1:at_.length<1000000) (h2:at_.length=val.length)
  (h:(K (qa9 (at_,val) day v).1 (qa9 (at_,val) day v).2).satP Q):(ymp at_ val day v K).satP Q:=by
 have key:∀ a b:List Int,a.length<1000000->b.length<1000000->qa9 (at_,val) day v=(if v≠b.getLast?.getD 0/\day<=292194 then (a++[day],b++[v]) else (a,b))->(zgt a b day v K).satP Q:=fun a b ha hb he=>by
  refine zvw ha hb ?_;rw [he] at h;by_cases hc:v≠b.getLast?.getD 0/\day<=292194
  ·rw [if_pos hc] at h ⊢;exact h
  ·rw [if_neg hc] at h ⊢;exact h
 refine ⟨fun hp=>?_,fun hp=>?_,fun hb=>⟨?_,?_,?_⟩,fun hb=>?_⟩
 ·have:(at_.length:Int)>0:=by simpa using hp
  rw [qdi (by omega)];omega
 ·have:(at_.length:Int)>0:=by simpa using hp
  rw [qdi (by omega)];omega
 ·have:(at_.length:Int)>0:=by
   rw [qee] at hb;simp at hb;simpa using hb.1
  rw [qdi (by omega)];omega
 ·have:(at_.length:Int)>0:=by
   rw [qee] at hb;simp at hb;simpa using hb.1
  rw [qdi (by omega)];omega
 ·rw [qee] at hb;obtain ⟨hp,hb⟩:=Bool.and_eq_true_iff.1 hb;have hp':0<at_.length:=by simpa using hp
  rw [qpm hp' h1] at hb;have hl:at_.getLast? = some day:=by
   have:at_.getLast?.getD 0=day:=by simpa using hb
   rw [ugo] at this ⊢;rw [ua7 (by omega)] at this ⊢;simpa using this
  have e1:(IntKind.i64.wrap ((at_.length:Int)-1)).toNat=at_.length-1:=by
   rw [qdi (by omega)];omega
  rw [e1];refine key _ _ (by simp; omega) (by simp; omega) ?_;unfold qa9;simp only [hl,if_true,List.dropLast_eq_take,← h2]
 ·rw [qee] at hb;refine key _ _ h1 (by omega) ?_;have hl:at_.getLast? ≠ some day:=by
   intro hl;have hp':0<at_.length:=by
    cases at_ with
    |nil=>simp at hl
    |cons _ _=>simp
   have hp:decide ((at_.length:Int)>0)=true:=by simpa using hp'
   rw [hp,qpm hp' h1,hl] at hb;simp at hb
  unfold qa9;simp only [hl,if_false]
end
theorem zd5 {p:List Int×List Int} (day v:Int) (h:p.1.length=p.2.length):(qa9 p day v).1.length=(qa9 p day v).2.length/\(qa9 p day v).1.length<=p.1.length+1:=by
 unfold qa9;by_cases hc:p.1.getLast? = some day
 ·simp only [hc,if_true];split<;>simp<;>omega
 ·simp only [hc,ub3];split<;>simp<;>omega
abbrev ygy:List (Tmp×PT):=[(10015,.d i64),(10014,.d i64),(10013,.d qag),(10005,.d i64)]
abbrev ygx:List MI:=[.y 3 190 [(some 3,i64),(some 3,i64)],.r 10003 3 0,.g 10004 149 [3],.x 7 122 ql,.r 10007 7 0,.x 2 190 zg,.r 10002 2 0]
abbrev ptA:Pt:=⟨65,0,⟨ygy,ygx⟩,⟨[],[]⟩,⟨[],[]⟩⟩
abbrev LA:LS:=⟨(0,.d i64)::(1,.d i64)::ygy,.r 2 3 0::ygx⟩
noncomputable def zrd:Code:=Tryz.f149.body.getD .skip
def frA (x:LA.X):Fr ptA.Out:=
 ymp x.2.1.1 x.2.1.2.1 x.1.1 x.1.2.1 fun a b=>Fr.val (Rd.next (x.1.2.2,(a,b,()),x.2.2))
theorem zwn:CxOK Tryz.prog (cx [] []):=zc qv trivial trivial
theorem ys2:qf Tryz.prog zrd LA ptA frA:=
 qf.of_run zwn (bs:=80000) (Λ:=qq) rfl rfl rfl (fun E=>qe _ 0) (fun x=>by kernel_rfl)
def FA (x:LA.X):Fr ptA.Out:=
 Fr.need (x.2.1.1.length<1000000/\x.2.1.1.length=x.2.1.2.1.length)
  (Fr.val (Rd.next (x.1.2.2,((qa9 (x.2.1.1,x.2.1.2.1) x.1.1 x.1.2.1).1,(qa9 (x.2.1.1,x.2.1.2.1) x.1.1 x.1.2.1).2,()),x.2.2)))
theorem yqs:qf Tryz.prog zrd LA ptA FA:=
 ys2.conv fun x Q h=>yax h.1.1 h.1.2 h.2
noncomputable def kA:Nat->FuncId->List AV->St->Option Tr:=ycx Tryz.prog (cx [] []).Γ 149 Tryz.f149 LA ptA FA
theorem yqy:qhy Tryz.prog kA:=yjc zwn (c:=zrd) (by kernel_rfl) (by kernel_rfl) rfl rfl yqs
end Go.Proofs.YtgieagiaagoogaaGreat
namespace Go.Proofs.YtgieagiaagoogaaGreat
open Go Go.Ab Go.RowKit Go.Proofs
noncomputable def CC:Cx:=cxK [(150,qj7)] [(109,qba)] kA
theorem zqv:CxOK Tryz.prog CC:=qc4 qv ⟨zxm,trivial⟩ ⟨zdg,trivial⟩ yqy
abbrev ptC:Pt:=⟨41,0,⟨[(15,.d i64),(14,.d i64),(13,.d qag),(5,.d i64)],[.y 3 190 [(some 3,i64),(some 3,i64)],.r 3 3 0,.g 4 149 [3],.x 2 190 zg,.r 2 2 0]⟩,⟨[],[.y 3 190 [(some 3,i64),(some 3,i64)],.r 3 3 0,.x 2 190 zg,.r 2 2 0]⟩,⟨[],[]⟩⟩
def addS (p:List Int×List Int) (s:ql.den):List Int×List Int:=qa9 (qa9 p s.1.1 s.2.2.2.2.1) s.1.2.1 0
def yck (x:ptC.M.X) (s:ql.den):Fr ptC.Out:=
 Fr.need (x.2.1.1.length<1000000/\x.2.1.1.length=x.2.1.2.1.length)
  (Fr.need ((qa9 (x.2.1.1,x.2.1.2.1) s.1.1 s.2.2.2.2.1).1.length<1000000/\(qa9 (x.2.1.1,x.2.1.2.1) s.1.1 s.2.2.2.2.1).1.length=(qa9 (x.2.1.1,x.2.1.2.1) s.1.1 s.2.2.2.2.1).2.length)
   (Fr.val (Rd.next ((IntKind.i64.wrap (x.1.1+1),x.1.2.1,x.1.2.2.1,s.1.2.1,()),((addS (x.2.1.1,x.2.1.2.1) s).1,(addS (x.2.1.1,x.2.1.2.1) s).2,()),x.2.2.1,()))))
def frC (x:ptC.M.X):Fr ptC.Out:=
 Fr.br (decide (x.1.1<x.1.2.1))
  (Fr.need (0<=x.1.1/\x.1.1<x.1.2.2.1.length)
   (Fr.br (!(qj7.f (x.1.2.2.1.getD x.1.1.toNat ql.dflt,x.1.2.2.2.1,())).1)
    (Fr.br (qba.bad (1,())) (Fr.val (Rd.pan (qba.pv (1,()))))
     (yck x (x.1.2.2.1.getD x.1.1.toNat ql.dflt)))
    (yck x (x.1.2.2.1.getD x.1.1.toNat ql.dflt))))
  (Fr.val (Rd.out ((),(x.2.1.1,x.2.1.2.1,()),x.2.2.1,())))
theorem ys4:qf Tryz.prog (qo Tryz.f108 0) ptC.M ptC frC:=
 qf.of_run zqv (bs:=0) (Λ:=qq) rfl rfl rfl (fun E=>qe _ 0) (fun x=>by kernel_rfl)
def xh:List ql.den->Int->List Int×List Int->Option (List Int×List Int)
 |[],_,p=>some p
 |s::l,e,p=>if qje s e=true then xh l s.1.2.1 (addS p s) else none
def ydt (r:zg.den) (o:Option (List Int×List Int)):Fr ptC.Out:=
 Fr.br o.isSome (Fr.val (Rd.out ((),((o.getD ([],[])).1,(o.getD ([],[])).2,()),r,()))) (Fr.val (Rd.pan ⟨57,.i64,1⟩))
structure InvC (i n:Int) (l:List ql.den) (p:List Int×List Int):Prop where
 len:n=l.length
 lo:0<=i
 hi:i<=n
 most:l.length<=2000
 both:p.1.length=p.2.length
 few:p.1.length<=2*i
def FC (x:ptC.M.X):Fr ptC.Out:=
 Fr.need (InvC x.1.1 x.1.2.1 x.1.2.2.1 (x.2.1.1,x.2.1.2.1)) (ydt x.2.2.1 (xh (x.1.2.2.1.drop x.1.1.toNat) x.1.2.2.2.1 (x.2.1.1,x.2.1.2.1)))
theorem ysw (i n:Int) (l:List ql.den) (e:Int) (at_ val:List Int) (r:zg.den) (hinv:InvC i n l (at_,val)) (Q:ptC.Out->Prop) (hq:(ydt r (xh (l.drop i.toNat) e (at_,val))).satP Q) :
  (frC ((i,n,l,e,()),(at_,val,()),r,())).satP fun
   |.next x'=>InvC x'.1.1 x'.1.2.1 x'.1.2.2.1 (x'.2.1.1,x'.2.1.2.1)/\(x'.1.2.1-x'.1.1).toNat<(n-i).toNat/\(FC x').satP Q
   |.out y=>Q (.out y)
   |.back z=>Q (.back z)
   |.pan p=>Q (.pan p):=by
 obtain ⟨rfl,h4,h5,h6,h7,h8⟩:=hinv;refine ⟨fun hi=>?_,fun hi=>?_⟩
 ·have hi':i<l.length:=by simpa using hi
  have hl:i.toNat<l.length:=by omega
  have e1:l.drop i.toNat=l[i.toNat]::l.drop (i.toNat+1):=ubp hl;have g1:l.getD i.toNat ql.dflt=l[i.toNat]:=by rw [ua6,ua7 hl]; rfl
  rw [e1] at hq;generalize hs:l[i.toNat]=s at *;refine ⟨⟨h4,hi'⟩,fun hb=>?_,fun hb=>?_⟩
  ·have hb':qje s e=false:=by
    have:(!(qj7.f (l.getD i.toNat ql.dflt,e,())).1)=true:=hb;rw [g1] at this;simpa [qj7] using this
   have hq':Q (Rd.pan ⟨57,.i64,1⟩):=by
    unfold xh at hq;rw [hb'] at hq;exact hq.2 rfl
   exact ⟨fun _=>hq',fun hc=>by cases hc⟩
  ·have hb':qje s e=true:=by
    have:(!(qj7.f (l.getD i.toNat ql.dflt,e,())).1)=false:=hb;rw [g1] at this;simpa [qj7] using this
   unfold xh at hq;rw [hb',if_pos rfl] at hq;have a1:=zd5 (p:=(at_,val)) s.1.1 s.2.2.2.2.1 h7;have a2:=zd5 (p:=qa9 (at_,val) s.1.1 s.2.2.2.2.1) s.1.2.1 0 a1.1;show (yck ((i,(l.length:Int),l,e,()),(at_,val,()),r,()) (l.getD i.toNat ql.dflt)).satP _;rw [g1];have hw:IntKind.i64.wrap (i+1)=i+1:=qdi (by omega);have hn:(i+1).toNat=i.toNat+1:=by omega
   have h7':at_.length=val.length:=h7;have h8':(at_.length:Int)<=2*i:=h8;have a1':(qa9 (at_,val) s.1.1 s.2.2.2.2.1).1.length<=at_.length+1:=a1.2;have hI:InvC (i+1) l.length l (addS (at_,val) s):=⟨rfl,by omega,by omega,h6,a2.1,by
    have:(addS (at_,val) s).1.length<=(qa9 (at_,val) s.1.1 s.2.2.2.2.1).1.length+1:=a2.2;omega⟩
   refine ⟨⟨by show at_.length<1000000; omega,h7⟩,⟨by show (qa9 (at_,val) s.1.1 s.2.2.2.2.1).1.length<1000000; omega,a1.1⟩,?_⟩;show InvC (IntKind.i64.wrap (i+1)) l.length l (addS (at_,val) s)/\((l.length:Int)-IntKind.i64.wrap (i+1)).toNat<((l.length:Int)-i).toNat/\(FC ((IntKind.i64.wrap (i+1),(l.length:Int),l,s.1.2.1,()),((addS (at_,val) s).1,(addS (at_,val) s).2,()),r,())).satP Q;rw [hw];refine ⟨hI,by omega,hI,?_⟩;show (ydt r (xh (l.drop (i+1).toNat) s.1.2.1 (addS (at_,val) s))).satP Q;rw [hn];exact hq
 ·have hi':¬ i<l.length:=by simpa using hi
  have hl:l.drop i.toNat=[]:=uc5 (by omega);rw [hl] at hq;exact hq.1 rfl
theorem yrb:qf Tryz.prog (.loop (qo Tryz.f108 0)) ptC.M ptC FC:=by
 refine qf.loop (n:=41) (id:=0) ys4 (inv:=fun x=>InvC x.1.1 x.1.2.1 x.1.2.2.1 (x.2.1.1,x.2.1.2.1)) (μ:=fun x=>(x.1.2.1-x.1.1).toNat) ?_ (fun x Q h=>h.1);rintro ⟨⟨i,n,l,e,_⟩,⟨at_,val,_⟩,r,_⟩ hinv Q hq;exact ysw i n l e at_ val r hinv Q hq.2
noncomputable def ΛC:Nat->St->Option Tr:=fun _=>ptC.han CC.Γ ptC.M FC
def qbd (l:List ql.den):Option (List Int×List Int):=if l.length<=2000 then xh l 1 ([],[]) else none
def ygs (x:qn [.d qag]):Fr (Oc (qi [zg])):=
 Fr.need (InvC 0 x.1.length x.1 ([],[]))
  (Fr.br (xh (x.1.drop (Int.toNat 0)) 1 ([],[])).isSome (Fr.val (Oc.ok ((((xh (x.1.drop (Int.toNat 0)) 1 ([],[])).getD ([],[])).1,((xh (x.1.drop (Int.toNat 0)) 1 ([],[])).getD ([],[])).2,()),())))
   (Fr.val (Oc.pan ⟨57,.i64,1⟩)))
def qoa (x:qn [.d qag]):Fr (Oc (qi [zg])):=
 Fr.br (decide ((x.1.length:Int)>2000))
  (Fr.br (qba.bad (1,())) (Fr.val (Oc.pan (qba.pv (1,())))) (ygs x))
  (ygs x)
theorem ybr:qdl Tryz.prog 108 ⟨[.d qag],[zg],fun xs=>(qoa xs).get.val,fun xs=>(qoa xs).get.bad,fun xs=>(qoa xs).get.pv,fun xs=>[(qoa xs).ok]⟩:=
 zka zqv (Λ:=ΛC) (fn:=Tryz.f108) ([],()) (by kernel_rfl) (fun c E hc=>jb hc (by kernel_rfl) (b:=qo Tryz.f108 0) (by kernel_rfl) (qf.han zqv rfl yrb)) (fun xs=>by kernel_rfl)
def yb (l:List ql.den):zg.den:=(((qbd l).getD ([],[])).1,((qbd l).getD ([],[])).2,())
def ji:Pc:=⟨[.d qag],[zg],fun x=>(yb x.1,()),fun x=>(qbd x.1).isNone,fun _=>⟨57,.i64,1⟩,fun _=>[]⟩
theorem zi9:qdl Tryz.prog 108 ji:=
 ygk ybr _ _ _ _ fun w F xs vs hr _=>by
  obtain ⟨l,_⟩:=xs;by_cases hl:l.length<=2000
  ·have hd:decide ((l.length:Int)>2000)=false:=by simp; omega
   have hI:InvC 0 l.length l ([],[]):=⟨rfl,ua4 _,by omega,hl,rfl,by simp⟩;have hO:qbd l=xh l 1 ([],[]):=if_pos hl;have hget:(qoa (l,())).get=if (xh l 1 ([],[])).isSome=true then Oc.ok (yb l,()) else Oc.pan ⟨57,.i64,1⟩:=by
    show (if decide ((l.length:Int)>2000)=true then _ else (if (xh l 1 ([],[])).isSome=true then Oc.ok _ else Oc.pan _))=_;rw [hd];unfold yb;rw [hO];rfl
   refine ⟨⟨fun hb=>?_,fun _=>⟨hI,fun _=>trivial,fun _=>trivial⟩⟩,?_,?_,?_⟩
   ·have hb':decide ((l.length:Int)>2000)=true:=hb;rw [hd] at hb';cases hb'
   ·show (qoa (l,())).get.bad=(qbd l).isNone;rw [hget,hO];cases xh l 1 ([],[])<;>rfl
   ·intro hb;have hb':(qbd l).isNone=false:=hb;show (qoa (l,())).get.val=(yb l,());rw [hget];rw [hO] at hb';cases h:xh l 1 ([],[]) with
    |none=>rw [h] at hb'; cases hb'
    |some p=>rfl
   ·intro hb;have hb':(qbd l).isNone=true:=hb;show (qoa (l,())).get.pv=_;rw [hget];rw [hO] at hb';cases h:xh l 1 ([],[]) with
    |none=>rfl
    |some p=>rw [h] at hb'; cases hb'
  ·have hd:decide ((l.length:Int)>2000)=true:=by simp; omega
   have hO:qbd l=none:=if_neg hl;have hget:(qoa (l,())).get=Oc.pan ⟨57,.i64,1⟩:=by
    show (if decide ((l.length:Int)>2000)=true then _ else _)=_;rw [hd];rfl
   refine ⟨⟨fun _=>⟨fun _=>trivial,fun hc=>by cases hc⟩,fun hb=>?_⟩,?_,?_,?_⟩
   ·have hb':decide ((l.length:Int)>2000)=false:=hb;rw [hd] at hb';cases hb'
   ·show (qoa (l,())).get.bad=(qbd l).isNone;rw [hget,hO];rfl
   ·intro hb;have hb':(qbd l).isNone=false:=hb;rw [hO] at hb';cases hb'
   ·intro _;show (qoa (l,())).get.pv=_;rw [hget];rfl
def wm (d:Int):Int:=if 292195<(if d<1 then 1 else d) then 292195 else (if d<1 then 1 else d)
theorem zwb (d:Int):1<=wm d/\wm d<=292195:=by
 unfold wm;split<;>split<;>omega
noncomputable def CU:Cx:=cx [(151,zrq),(111,qmv)] [(109,qba)]
theorem yql:CxOK Tryz.prog CU:=zc qv ⟨ypv,yip,trivial⟩ ⟨zdg,trivial⟩
def zs3 (s e:Int):Fr (Oc (qi [i64])):=
 Fr.br (qba.bad (e,())) (Fr.val (Oc.pan (qba.pv (e,()))))
  (Fr.need (0<=s->(0:Int)<=1->s*1<18446744073709551616)
   (Fr.br (qba.bad ((qmv.f (s,1,365,())).2.1,())) (Fr.val (Oc.pan (qba.pv ((qmv.f (s,1,365,())).2.1,())))) (Fr.val (Oc.ok ((qmv.f (s,1,365,())).1,())))))
def frU (x:qn [.d zg,.d i64]):Fr (Oc (qi [i64])):=
 Fr.br (wm x.2.1==1) (Fr.val (Oc.ok (0,()))) (zs3 (zrq.f (x.1,(1,wm x.2.1,()),())).1 (zrq.f (x.1,(1,wm x.2.1,()),())).2.1)
theorem ylg:qdl Tryz.prog 110 ⟨[.d zg,.d i64],[i64],fun xs=>(frU xs).get.val,fun xs=>(frU xs).get.bad,fun xs=>(frU xs).get.pv,fun xs=>[(frU xs).ok]⟩:=
 zka yql (Λ:=qq) (fn:=Tryz.f110) (([],[],()),0,()) (by kernel_rfl) (fun c E hc=>qe c 0) (fun xs=>by kernel_rfl)
def qcm (s e:Int):Int×Int:=if e≠0 then (0,e) else if (ka s 1 365).2≠0 then (0,(ka s 1 365).2) else ((ka s 1 365).1,0)
def yc (f:zg.den) (d:Int):Int×Int:=if wm d=1 then (0,0) else qcm (qav f (1,wm d,())).1 (qav f (1,wm d,())).2
def qcb:Pc:=⟨[.d zg,.d i64],[i64],fun x=>((yc x.1 x.2.1).1,()),fun x=>!((yc x.1 x.2.1).2==0),fun x=>⟨57,.i64,(yc x.1 x.2.1).2⟩,fun _=>[]⟩
theorem ye9 (f:zg.den) (s:zy.den):(qav f s).1<=4000000000000000000:=by
 unfold qav;split
 ·rename_i h;obtain ⟨_,_,_,hval⟩:=qok h.1;have hs:=qcw.1 h.2;have hok:=qlc (f:=f) hval (e:=s.2.1) hs.2.2 f.1 s.1 hs.1 hs.2.1;cases hq:qau (jv f s.2.1 f.1 s.1) (0,0) with
  |none=>show (0:Int)<=_; decide
  |some q=>
   obtain ⟨j1,j2,j3,j4⟩:=qv6 hok (q:=(0,0)) ⟨by decide,by decide,by decide,by decide⟩ hq;show q.1<=_;omega
 ·show (0:Int)<=_; decide
theorem yi2 {s e:Int} (hs:s<=4000000000000000000):(zs3 s e).ok/\(zs3 s e).get=if (qcm s e).2=0 then Oc.ok ((qcm s e).1,()) else Oc.pan ⟨57,.i64,(qcm s e).2⟩:=by
 by_cases he:e=0
 ·subst he;have hneed:0<=s->(0:Int)<=1->s*1<18446744073709551616:=fun _ _=>by omega
  by_cases h2:(ka s 1 365).2=0
  ·have hU:qcm s 0=((ka s 1 365).1,0):=by
    unfold qcm;rw [if_neg (fun h=>h rfl),if_neg (fun h=>h h2)]
   have hb:qba.bad ((qmv.f (s,1,365,())).2.1,())=false:=by
    show (!((ka s 1 365).2==0))=false;rw [h2];rfl
   rw [hU];refine ⟨⟨fun hc=>(by cases hc),fun _=>⟨hneed,fun _=>trivial,fun _=>trivial⟩⟩,?_⟩;show (if qba.bad ((qmv.f (s,1,365,())).2.1,())=true then _ else Oc.ok ((ka s 1 365).1,()))=_;rw [hb];rfl
  ·have hU:qcm s 0=(0,(ka s 1 365).2):=by
    unfold qcm;rw [if_neg (fun h=>h rfl),if_pos h2]
   have hb:qba.bad ((qmv.f (s,1,365,())).2.1,())=true:=by
    show (!((ka s 1 365).2==0))=true;simp [h2]
   rw [hU];refine ⟨⟨fun hc=>(by cases hc),fun _=>⟨hneed,fun _=>trivial,fun _=>trivial⟩⟩,?_⟩;show (if qba.bad ((qmv.f (s,1,365,())).2.1,())=true then Oc.pan ⟨57,.i64,(ka s 1 365).2⟩ else _)=_;rw [hb,if_pos rfl];exact (if_neg h2).symm
 ·have hU:qcm s e=(0,e):=by
   unfold qcm;rw [if_pos he]
  have hb:qba.bad (e,())=true:=by
   show (!(e==0))=true;simp [he]
  rw [hU];refine ⟨⟨fun _=>trivial,fun hc=>(by rw [hb] at hc; cases hc)⟩,?_⟩;show (if qba.bad (e,())=true then Oc.pan ⟨57,.i64,e⟩ else _)=_;rw [hb,if_pos rfl];exact (if_neg he).symm
theorem zqr:qdl Tryz.prog 110 qcb:=
 ygk ylg _ _ _ _ fun w F xs vs hr _=>by
  obtain ⟨f,d,_⟩:=xs;have key:(frU (f,d,())).ok/\(frU (f,d,())).get=if (yc f d).2=0 then Oc.ok ((yc f d).1,()) else Oc.pan ⟨57,.i64,(yc f d).2⟩:=by
   unfold yc;by_cases hd:wm d=1
   ·rw [if_pos hd];have hb:(wm d==1)=true:=by simpa using hd
    refine ⟨⟨fun _=>trivial,fun hc=>(by rw [hb] at hc; cases hc)⟩,?_⟩;show (if (wm d==1)=true then Oc.ok (0,()) else _)=_;rw [hb];rfl
   ·rw [if_neg hd];have hb:(wm d==1)=false:=by simpa using hd
    have h2:=yi2 (e:=(qav f (1,wm d,())).2) (ye9 f (1,wm d,()));refine ⟨⟨fun hc=>(by rw [hb] at hc; cases hc),fun _=>h2.1⟩,?_⟩;show (if (wm d==1)=true then _ else (zs3 (qav f (1,wm d,())).1 (qav f (1,wm d,())).2).get)=_;rw [hb,if_neg (by decide),h2.2]
  refine ⟨key.1,?_,?_,?_⟩
  ·show (frU (f,d,())).get.bad = !((yc f d).2==0);rw [key.2];by_cases h:(yc f d).2=0
   ·rw [if_pos h,h];rfl
   ·rw [if_neg h];have:((yc f d).2==0)=false:=by simpa using h
    rw [this];rfl
  ·intro hb;have hb':(!((yc f d).2==0))=false:=hb;have h:(yc f d).2=0:=by simpa using hb'
   show (frU (f,d,())).get.val=((yc f d).1,());rw [key.2,if_pos h];rfl
  ·intro hb;have hb':(!((yc f d).2==0))=true:=hb;have h:¬ (yc f d).2=0:=by simpa using hb'
   show (frU (f,d,())).get.pv=_;rw [key.2,if_neg h];rfl
theorem zu5 {w:World} {b:Nat} {ty:TypeId} {old v:Value} (h:w.heap[b]? = some (.cells #[old] ty (0,0))):w.setCell ⟨b,0,none⟩ v=w.setRow b #[v]:=by
 unfold World.setCell World.setRow;congr 1;apply Array.ext_getElem?;intro i;simp only [Array.getElem?_modify];by_cases hi:b=i
 ·subst hi;rw [h];simp
 ·simp [hi]
theorem zqp:TolOK Tryz.prog 107 57 .i64:=by
 refine ⟨enters (fn:=Tryz.f107) (by kernel_rfl) rfl rfl,fun p w=>?_,fun b ty old n w hb=>?_⟩
 ·refine ufe Tryz.func107 rfl fun c₀ cs hu=>?_;simp only [Tryz.ntmps107,ub5,uaf,ub9,Nat.reduceAdd,Nat.reduceSub,ubv,ubw,ubx,uby,uav,uaz];apply wpS_seq;apply uff;simp [wpOpsS,go_sem,recoverD,hu,Exit.thenS];refine wpS_of_wp ?_
  go_wp2
  cases c₀
  simp_all [bodyPostS,results,Tryz.results107]
 ·have hc:w.cell? ⟨b,0,none⟩=some old:=qh hb 0;have hz:w.frozen? ⟨b,0,none⟩=false:=by simp [World.frozen?,hb]
  have hta:∀ w,(Instr.typeAssert (.iface 57 (.int .i64 n)) 20 57 true).run Tryz.prog w = .ok (.tuple #[.int .i64 n,.bool true]) w:=fun _=>by kernel_rfl
  refine ufe Tryz.func107 rfl fun c₀ cs hu=>?_;simp only [Tryz.ntmps107,ub5,uaf,ub9,Nat.reduceAdd,Nat.reduceSub,ubv,ubw,ubx,uby,uav,uaz];apply wpS_seq;apply uff;simp [wpOpsS,go_sem,recoverD,hu,Exit.thenS];refine wpS_of_wp ?_
  go_wp2
  simp [bodyPostS,results,Tryz.results107,zu5 hb]
theorem yb0:(0:Int)<=0/\(0:Int)<=6:=by decide
theorem yb1:(0:Int)<=1/\(1:Int)<=6:=by decide
theorem zve:(0:Int)<=0/\(0:Int)<=4000000000000000000:=by decide
theorem yns:(0:Int)<=5/\(5:Int)<=6:=by decide
theorem zw2 (a b c:Int):0<=(ka a b c).2/\(ka a b c).2<=6:=by
 unfold ka;split
 ·exact ⟨by decide,by decide⟩
 ·split
  ·exact ⟨by decide,by decide⟩
  ·split
   ·exact yns
   ·exact yb0
theorem zeg (a b c:Int) (hc:0<c):0<=(ka a b c).1/\(ka a b c).1<=4000000000000000000:=by
 unfold ka;split
 ·exact ⟨by decide,by decide⟩
 ·rename_i h;split
  ·exact ⟨by decide,by decide⟩
  ·split
   ·exact ⟨by decide,by decide⟩
   ·have hab:0<=a*b:=uf8 (by omega) (by omega);have hq:0<=a*b/c:=Int.ediv_nonneg hab (by omega);have:0<=qd6 (a*b) c:=by
     unfold qd6;split<;>omega
    exact ⟨this,by show qd6 (a*b) c<=_; omega⟩
theorem zzo (f:zg.den) (s:zy.den):0<=(qav f s).2/\(qav f s).2<=6:=by
 unfold qav;split
 ·cases qau (jv f s.2.1 f.1 s.1) (0,0)
  ·exact yns
  ·exact yb0
 ·exact ⟨by decide,by decide⟩
theorem qwb (f:zg.den) (d:Int):0<=(yc f d).2/\(yc f d).2<=6:=by
 unfold yc;split
 ·exact ⟨by decide,by decide⟩
 ·unfold qcm;split
  ·exact zzo _ _
  ·split
   ·exact zw2 _ _ _
   ·exact yb0
theorem qwc (f:zg.den) (d:Int):0<=(yc f d).1/\(yc f d).1<=4000000000000000000:=by
 unfold yc;split
 ·exact zve
 ·unfold qcm;split
  ·exact zve
  ·split
   ·exact zve
   ·exact zeg _ _ _ (by decide)
theorem zz6 (f:zg.den) (d:Int) (h:(yc f d).2≠0):(yc f d).1=0:=by
 unfold yc at *;split at h
 ·exact absurd rfl h
 ·rename_i hd;rw [if_neg hd];unfold qcm at *;split at h
  ·rename_i he;rw [if_pos he]
  ·rename_i he;rw [if_neg he];split at h
   ·rename_i h2;rw [if_pos h2]
   ·exact absurd rfl h
theorem zcw {n:Int} (h:0<=n/\n<=6):inR .i64 n:=by
 constructor
 ·show (-9223372036854775808:Int)<=n;omega
 ·show n<=(9223372036854775807:Int);omega
noncomputable def CP:Cx:=cx [] [(108,ji),(110,qcb)]
theorem yqg:CxOK Tryz.prog CP:=zc qv trivial ⟨zi9,zqr,trivial⟩
def qah (l:List ql.den) (d:Int):Int×Int:=if (qbd l).isNone=true then (0,1) else yc (yb l) d
def qzz:Ct:=⟨[.d qag,.d i64],[i64,i64],fun x=>((qah x.1 x.2.1).1,(qah x.1 x.2.1).2,()),fun _=>[]⟩
def yny (x:qn [.d qag,.d i64]):Fr (qi [i64,i64]):=
 Fr.br (ji.bad (x.1,())) (Fr.need (inR .i64 (ji.pv (x.1,())).n) (Fr.val (0,(ji.pv (x.1,())).n,())))
  (Fr.br (qcb.bad ((ji.f (x.1,())).1,x.2.1,()))
   (Fr.need (inR .i64 (qcb.pv ((ji.f (x.1,())).1,x.2.1,())).n) (Fr.val (0,(qcb.pv ((ji.f (x.1,())).1,x.2.1,())).n,())))
   (Fr.val ((qcb.f ((ji.f (x.1,())).1,x.2.1,())).1,0,())))
theorem yhr:qa Tryz.prog 79 qzz:=
 conv (ybt yqg (Λ:=qq) (fn:=Tryz.f79) (fr:=yny) (ps:=[.d qag,.d i64]) (rs:=[i64,i64]) ([],0,()) (by kernel_rfl) zqp (fun c E _=>qe c 0) (fun x=>by kernel_rfl)) _ _ fun w F xs vs hr _=>by
  obtain ⟨l,d,_⟩:=xs;by_cases hc:(qbd l).isNone=true
  ·have hb:ji.bad (l,())=true:=hc;refine ⟨⟨fun _=>⟨zcw yb1,trivial⟩,fun h=>(by have h':ji.bad (l,())=false:=h; rw [hb] at h'; cases h')⟩,?_⟩;show (if ji.bad (l,())=true then ((0:Int),(1:Int),()) else _)=((qah l d).1,(qah l d).2,());unfold qah;rw [hb,if_pos rfl,if_pos hc]
  ·have hb:ji.bad (l,())=false:=(by show (qbd l).isNone=false; exact ueo.2 hc);have hU:qah l d=yc (yb l) d:=if_neg hc;refine ⟨⟨fun h=>(by have h':ji.bad (l,())=true:=h; rw [hb] at h'; cases h'),fun _=>⟨fun _=>⟨zcw (qwb _ _),trivial⟩,fun _=>trivial⟩⟩,?_⟩;show (if ji.bad (l,())=true then _ else if (!((yc (yb l) d).2==0))=true then ((0:Int),(yc (yb l) d).2,()) else ((yc (yb l) d).1,0,()))=((qah l d).1,(qah l d).2,());rw [hb,if_neg (by decide),hU];by_cases h2:(yc (yb l) d).2=0
   ·rw [if_neg (by simp [h2]),h2]
   ·rw [if_pos (by simp [h2]),zz6 _ _ h2]
def qr7:Ct:=⟨[.d qag],[i64,i64],fun x=>((qah x.1 292195).1,(qah x.1 292195).2,()),fun _=>[]⟩
theorem zq7:qa Tryz.prog 47 qr7:=
 flat (ps:=[.d qag]) (rs:=[i64,i64]) (zc (cs:=[(79,qzz)]) (ps:=[]) qv ⟨yhr,trivial⟩ trivial) (fn:=Tryz.f47) (fr:=fun x=>Fr.val ((qzz.f (x.1,292195,())).1,(qzz.f (x.1,292195,())).2.1,())) ([],()) (by kernel_rfl) (fun x=>by kernel_rfl) _ _
  (fun _ _ x _ _ _=>⟨trivial,rfl⟩)
def qak (f:zg.den):Int->Nat->Int
 |_,0=>0
 |a,n+1=>wd f a+qak f (a+1) n
theorem zjf (f:zg.den):(m n:Nat)->(a:Int)->qak f a (m+n)=qak f a m+qak f (a+m) n
 |0,n,a=>by simp [qak]
 |m+1,n,a=>by
  have h:=zjf f m n (a+1);rw [show m+1+n=(m+n)+1 by omega];simp only [qak];rw [h];have:a+1+(m:Int)=a+((m+1:Nat):Int):=by omega
  rw [this];omega
theorem qqb {f:zg.den} (h:∀ d,0<=wd f d):(n:Nat)->(a:Int)->0<=qak f a n
 |0,a=>ua4 _
 |n+1,a=>by
  have:=qqb h n (a+1);have:=h a;simp only [qak];omega
theorem qse {f:zg.den} {v:Int}:(n:Nat)->(a:Int)->(∀ d,a<=d->d<a+n->wd f d=v)->qak f a n=n*v
 |0,a,_=>by simp [qak]
 |n+1,a,h=>by
  simp only [qak];rw [h a (by omega) (by omega),qse n (a+1) (fun d h1 h2=>h d (by omega) (by omega))]
  grind
theorem zr3 {l:List Int} {a d:Int} (had:a<=d) (h:∀ x∈l,x<=a∨d<x):qwq l d=qwq l a:=by
 unfold qwq;apply List.countP_congr;intro x hx;have:=h x hx;simp only [decide_eq_true_eq];omega
theorem zb9 {f:zg.den} {a d:Int} (had:a<=d) (h:∀ x∈f.1,x<=a∨d<x):wd f d=wd f a:=by
 unfold wd;rw [zr3 had h]
theorem zm4 {f:zg.den} (h:∀ y∈f.2.1,0<=y) (d:Int):0<=wd f d:=by
 unfold wd;split
 ·exact ua4 _
 ·rename_i k _;rw [ua6];cases hk:f.2.1[k]? with
  |none=>simp
  |some y=>
   have:=h y (ube hk);simpa using this
theorem zb2 {s t a b v:Int} (hv:0<=v) (hab:a<b) (ht:t<=4000000000000000000) :
  qc2 (s,t) (a,b,v)=if t+(b-a)*v<=4000000000000000000 then some (s+(b-a)*v,t+(b-a)*v) else none:=by
 have hm:max v (-v)=v:=by omega
 unfold qc2;simp only [hm];have hiff:v>(4000000000000000000-t)/(b-a)↔¬ t+(b-a)*v<=4000000000000000000:=by
  have:=Int.le_ediv_iff_mul_le (a:=v) (b:=4000000000000000000-t) (c:=b-a) (by omega);rw [ufw v] at this;omega
 by_cases h:t+(b-a)*v<=4000000000000000000
 ·rw [if_neg (by rw [hiff]; exact fun hc=>hc h),if_pos h]
 ·rw [if_pos (hiff.2 h),if_neg h]
theorem qtn {f:zg.den} (hv:∀ d,0<=wd f d) {e:Int}:(l:List Int)->(a s t:Int)->l.Pairwise (· < ·)->(∀ x∈f.1,x<=a∨e<=x∨x∈l)->a<e->t<=4000000000000000000 ->
  qau (jv f e l a) (s,t)=if t+qak f a (e-a).toNat<=4000000000000000000 then some (s+qak f a (e-a).toNat,t+qak f a (e-a).toNat) else none
 |[],a,s,t,_,hc,hae,ht=>by
  have hd:qak f a (e-a).toNat=(e-a)*wd f a:=by
   rw [qse (e-a).toNat a (fun d h1 h2=>zb9 h1 (fun x hx=>by
    rcases hc x hx with h|h|h
    ·exact .inl h
    ·exact .inr (by omega)
    ·cases h))]
   congr 1;omega
  rw [hd];simp only [jv,qau];rw [zb2 (hv a) hae ht];split<;>rfl
 |d::l,a,s,t,hp,hc,hae,ht=>by
  obtain ⟨hp1,hp2⟩:=List.pairwise_cons.1 hp;unfold jv;split
  ·rename_i hsk;refine qtn hv l a s t hp2 (fun x hx=>?_) hae ht;rcases hc x hx with h|h|h
   ·exact .inl h
   ·exact .inr (.inl h)
   ·rcases ua2.1 h with rfl|h
    ·rcases hsk with h|h
     ·exact .inl h
     ·exact .inr (.inl h)
    ·exact .inr (.inr h)
  ·rename_i hsk;have hda:a<d:=by omega
   have hde:d<e:=by omega
   have hd:qak f a (d-a).toNat=(d-a)*wd f a:=by
    rw [qse (d-a).toNat a (fun d' h1 h2=>zb9 h1 (fun x hx=>by
     rcases hc x hx with h|h|h
     ·exact .inl h
     ·exact .inr (by omega)
     ·rcases ua2.1 h with rfl|h
      ·exact .inr (by omega)
      ·have:=hp1 x h;exact .inr (by omega)))]
    congr 1;omega
   have hsplit:qak f a (e-a).toNat=qak f a (d-a).toNat+qak f d (e-d).toNat:=by
    rw [show (e-a).toNat=(d-a).toNat+(e-d).toNat by omega,zjf];congr 2;omega
   have hnn:=qqb hv (e-d).toNat d;simp only [qau];rw [zb2 (hv a) hda ht,← hd];by_cases h1:t+qak f a (d-a).toNat<=4000000000000000000
   ·rw [if_pos h1];show qau (jv f e l d) _=_;have hc':∀ x∈f.1,x<=d∨e<=x∨x∈l:=fun x hx=>by
     rcases hc x hx with h|h|h
     ·exact .inl (ub6 h (ubs hda))
     ·exact .inr (.inl h)
     ·rcases ua2.1 h with rfl|h
      ·exact .inl (ua4 _)
      ·exact .inr (.inr h)
    rw [qtn hv l d _ _ hp2 hc' hde h1];rw [hsplit,Int.add_assoc,Int.add_assoc]
   ·have hno:¬ t+qak f a (e-a).toNat<=4000000000000000000:=by
     rw [hsplit];clear hd hsplit;generalize qak f a (d-a).toNat=A at *;generalize qak f d (e-d).toNat=B at *;omega
    rw [if_neg h1,if_neg hno];rfl
structure Pos (f:zg.den):Prop where
 right:qdr f=true
 pos:∀ y∈f.2.1,0<=y
theorem Pos.val {f:zg.den} (h:Pos f) (d:Int):0<=wd f d:=zm4 h.pos d
theorem zu8 {f:zg.den} (h:Pos f) {a e:Int} (ha:1<=a) (hae:a<e) (he:e<=292195) :
  qav f (a,e,())=if qak f a (e-a).toNat<=4000000000000000000 then (qak f a (e-a).toNat,0) else (0,5):=by
 obtain ⟨h1,h2,h3,h4⟩:=qok h.right;have hsum:=qtn h.val (e:=e) f.1 a 0 0 h2 (fun x hx=>.inr (.inr hx)) hae (by decide);simp only [Int.zero_add] at hsum;unfold qav;rw [if_pos ⟨h.right,qcw.2 ⟨ha,hae,he⟩⟩,hsum];by_cases hc:qak f a (e-a).toNat<=4000000000000000000
 ·rw [if_pos hc,if_pos hc]
 ·rw [if_neg hc,if_neg hc]
def Sd (f:zg.den) (d:Int):Int:=qak f 1 (wm d-1).toNat
theorem yb4 {p:Int} (h:0<=p):qd6 p 365=(p+182)/365:=by
 unfold qd6;split<;>omega
theorem yio {p:Int} (h:0<=p) (h2:p<=4000000000000000000):ka p 1 365=((p+182)/365,0):=by
 unfold ka;rw [Int.mul_one,yb4 h,if_neg (by omega),if_neg (by decide),if_neg (by omega)]
theorem zvd {f:zg.den} (h:Pos f) (d:Int):yc f d=if Sd f d<=4000000000000000000 then ((Sd f d+182)/365,0) else (0,5):=by
 have hb:=zwb d;have hnn:=qqb h.val (wm d-1).toNat 1;unfold yc;by_cases hd:wm d=1
 ·rw [if_pos hd];have:Sd f d=0:=by
   unfold Sd;rw [hd];rfl
  rw [this,if_pos (by decide)];rfl
 ·rw [if_neg hd,zu8 h (by decide) (by omega) hb.2];show qcm _ _=_;unfold Sd;by_cases hc:qak f 1 (wm d-1).toNat<=4000000000000000000
  ·rw [if_pos hc,if_pos hc];show qcm (qak f 1 (wm d-1).toNat) 0=_;unfold qcm;rw [if_neg (fun h=>h rfl),yio hnn hc,if_neg (fun h=>h rfl)]
  ·rw [if_neg hc,if_neg hc];rfl
theorem qti {d v:Int}:{l r:List Int}->(d0 v0:Int)->l.length=r.length ->
  qcr (l++[d]) (r++[v]) d0 v0=(qcr l r d0 v0&&(decide (l.getLast?.getD d0<d)&&(decide (d<=292194)&&(!(v==r.getLast?.getD v0)&&qea v))))
 |[],[],d0,v0,_=>by
  show (_&&true)=(true&&_);rw [ue6,ud9];rfl
 |[],_::_,_,_,h=>by simp at h
 |_::_,[],_,_,h=>by simp at h
 |a::l,b::r,d0,v0,h=>by
  have ih:=qti (d:=d) (v:=v) (l:=l) (r:=r) a b (by simpa using h);simp only [uaz,qcr];rw [ih];have e1:(a::l).getLast?.getD d0=l.getLast?.getD a:=by
   rw [List.getLast?_cons];rfl
  have e2:(b::r).getLast?.getD v0=r.getLast?.getD b:=by
   rw [List.getLast?_cons];rfl
  rw [e1,e2];simp only [Bool.and_assoc]
structure Good (p:List Int×List Int) (m:Int):Prop where
 len:p.1.length=p.2.length
 up:qcr p.1 p.2 0 0=true
 le:p.1.getLast?.getD 0<=m
 pos:∀ y∈p.2,0<=y
theorem zaw {l:List Int} {x:Int} (h:l.getLast? = some x):l=l.dropLast++[x]:=by
 cases l with
 |nil=>simp at h
 |cons a l=>
  rw [List.getLast?_eq_some_getLast (by simp)] at h;injection h with h
  rw [← h];exact (List.dropLast_concat_getLast (by simp)).symm
theorem Good.pop {p:List Int×List Int} {m day:Int} (h:Good p m) (hl:p.1.getLast? = some day):Good (p.1.dropLast,p.2.dropLast) (day-1)/\day<=m:=by
 obtain ⟨at_,val⟩:=p;obtain ⟨h1,h2,h3,h4⟩:=h;simp only at *;have e1:=zaw hl;cases hv:val.getLast? with
 |none=>
  have:val=[]:=by simpa using hv
  subst this;rw [e1] at h1;simp at h1
 |some y=>
  have e2:=zaw hv;have hlen:at_.dropLast.length=val.dropLast.length:=by simp [h1]
  rw [e1,e2,qti 0 0 hlen] at h2;simp only [ua1,uab] at h2;refine ⟨⟨hlen,h2.1,?_,fun z hz=>h4 z ?_⟩,?_⟩
  ·have:=h2.2.1;show at_.dropLast.getLast?.getD 0<=day-1;omega
  ·rw [e2];exact ucg _ hz
  ·rw [hl] at h3;exact h3
theorem Good.push {p:List Int×List Int} {m day v:Int} (h:Good p m) (hd:m<day) (hday:day<=292194) (hv:0<=v/\v<=4000000000000000000) (hne:v≠p.2.getLast?.getD 0):Good (p.1++[day],p.2++[v]) day:=by
 obtain ⟨h1,h2,h3,h4⟩:=h;refine ⟨by simp [h1],?_,by simp,fun z hz=>?_⟩
 ·show qcr (p.1++[day]) (p.2++[v]) 0 0=true;rw [qti 0 0 h1,h2];have hm:qea v=true:=zfc.2 (by omega);have hb:(v==p.2.getLast?.getD 0)=false:=by simpa using hne
  have hlt:p.1.getLast?.getD 0<day:=by omega
  simp [hm,hb,hlt,hday]
 ·rcases ubc.1 hz with hz|hz
  ·exact h4 z hz
  ·simp only [ud2] at hz;subst hz;exact hv.1
theorem Good.mono {p:List Int×List Int} {m m':Int} (h:Good p m) (hm:m<=m'):Good p m':=⟨h.len,h.up,ub6 h.le hm,h.pos⟩
theorem Good.add {p:List Int×List Int} {m day v:Int} (h:Good p m) (hd:m<=day) (h1:1<=day) (hv:0<=v/\v<=4000000000000000000):Good (qa9 p day v) day:=by
 unfold qa9;by_cases hl:p.1.getLast? = some day
 ·have hp:=(h.pop hl).1;simp only [hl,if_true];split
  ·rename_i hc;exact hp.push (by omega) hc.2 hv hc.1
  ·exact hp.mono (by omega)
 ·simp only [hl,ub3];have hlt:p.1.getLast?.getD 0<=day-1:=by
   have hle:=h.le;cases hx:p.1.getLast? with
   |none=>show (0:Int)<=_; omega
   |some x=>
    rw [hx] at hle hl;have hne:x≠day:=fun he=>hl (by rw [he]);have hle':x<=m:=hle;show x<=_;omega
  have hg:Good p (day-1):=⟨h.len,h.up,hlt,h.pos⟩;split
  ·rename_i hc;exact hg.push (by omega) hc.2 hv hc.1
  ·exact hg.mono (by omega)
theorem zav {s:ql.den} {e:Int}:qje s e=true↔e<=s.1.1/\s.1.1<s.1.2.1/\s.1.2.1<=292195/\0<=s.2.2.2.2.1/\s.2.2.2.2.1<=4000000000000000000:=by
 simp [qje]
theorem Good.addS {p:List Int×List Int} {s:ql.den} {e:Int} (h:Good p e) (he:1<=e) (hs:qje s e=true):Good (addS p s) s.1.2.1:=by
 obtain ⟨h1,h2,h3,h4,h5⟩:=zav.1 hs;have hf:1<=s.1.1:=ub6 he h1;have ht:1<=s.1.2.1:=ub6 hf (ubs h2);exact (h.add h1 hf ⟨h4,h5⟩).add (ubs h2) ht (by decide)
def qn5:List ql.den->Int->List Int×List Int->Option (Int×(List Int×List Int))
 |[],e,p=>some (e,p)
 |s::l,e,p=>if qje s e=true then qn5 l s.1.2.1 (addS p s) else none
theorem zeb:(l:List ql.den)->(e:Int)->(p:List Int×List Int)->xh l e p=(qn5 l e p).map (·.2)
 |[],_,_=>rfl
 |s::l,e,p=>by
  simp only [xh,qn5];split
  ·exact zeb l _ _
  ·rfl
theorem qxs:{l:List ql.den} -> {e:Int} -> {p:List Int×List Int} -> {q:Int×(List Int×List Int)}->Good p e->1<=e->qn5 l e p=some q->Good q.2 q.1/\1<=q.1
 |[],e,p,q,h,he,hq=>by
  simp only [qn5,ua0] at hq;subst hq;exact ⟨h,he⟩
 |s::l,e,p,q,h,he,hq=>by
  simp only [qn5] at hq;split at hq
  ·rename_i hs;obtain ⟨h1,h2,_⟩:=zav.1 hs;have ht:1<=s.1.2.1:=ub6 (ub6 he h1) (ubs h2);exact qxs (h.addS he hs) ht hq
  ·cases hq
theorem yqw:Good ([],[]) 1:=⟨rfl,rfl,by show (0:Int)<=1; decide,by simp⟩
theorem zwl {l:List ql.den} (h:(qbd l).isNone=false):Pos (yb l):=by
 unfold yb;unfold qbd at *;split at h
 ·rename_i hl;rw [if_pos hl];rw [zeb] at h ⊢;cases hq:qn5 l 1 ([],[]) with
  |none=>rw [hq] at h; cases h
  |some q=>
   have hg:=(qxs yqw (by decide) hq).1;show Pos (q.2.1,q.2.2,());refine ⟨?_,hg.pos⟩;simp only [qdr,hg.up,ue6,uab];exact hg.len
 ·cases h
end Go.Proofs.YtgieagiaagoogaaGreat
namespace Go.Ab
open Go Go.RowKit
def Ty.flat:Ty->Bool
 |.sl _=>false
 |.fm _=>false
 |.ic _ _=>false
 |.fc _=>false
 |.pair a b=>a.flat&&b.flat
 |_=>true
section
variable {P:Program} {B:Nat} {w w':World} {E:Env} {F F':Nat->Prop} {γ γ':Nat->Value} {m:Mem}
theorem qs.flat:{t:Ty}->t.flat=true -> {x:t.den} -> {g:Nat->Value->Prop}->qs w F t x g->qs w' F' t x g
 |.int _,_,_,_,h=>h
 |.bool,_,_,_,h=>h
 |.str,_,_,_,h=>h
 |.unit,_,_,_,h=>h
 |.sl _,hf,_,_,_=>by simp [Ty.flat] at hf
 |.fm _,hf,_,_,_=>by simp [Ty.flat] at hf
 |.ic _ _,hf,_,_,_=>by simp [Ty.flat] at hf
 |.fc _,hf,_,_,_=>by simp [Ty.flat] at hf
 |.pair a b,hf,_,_,h=>by
  simp only [Ty.flat,ua1] at hf;exact ⟨qs.flat hf.1 h.1,qs.flat hf.2 h.2⟩
theorem zv.flat {t:Ty} (hf:t.flat=true) {x:t.den} {v:Value} (h:zv w F t x v):zv w' F' t x v:=⟨h.1,h.2.1,h.2.2.flat hf⟩
theorem qad.flat:{ts:List Ty}->ts.all Ty.flat=true -> {x:qi ts} -> {vs:List Value}->qad w F ts x vs->qad w' F' ts x vs
 |[],_,_,_,h=>h
 |t::r,hf,_,_,⟨v,vs',h1,h2,h3⟩=>by
  simp only [uc8,ua1] at hf;exact ⟨v,vs',h1,h2.flat hf.1,qad.flat hf.2 h3⟩
theorem qi6.flat:{ts:List Ty}->ts.all Ty.flat=true -> {x:qi ts} -> {v:Value}->qi6 w F ts x v->qi6 w' F' ts x v
 |[],hf,_,_,⟨vs,h1,h2⟩=>⟨vs,h1,qad.flat hf h2⟩
 |[t],hf,_,_,h=>by
  simp only [uc8,ua1] at hf;exact zv.flat hf.1 h
 |t::t'::r,hf,_,_,⟨vs,h1,h2⟩=>⟨vs,h1,qad.flat hf h2⟩
theorem yq.flat {t:Ty} (hf:t.flat=true) {l:List t.den} {xs:List Value} (h:yq w F t l xs):yq w' F' t l xs:=fun i x hi=>(h i x hi).flat hf
structure Mt where
 e:TypeId
 T:Ty
 ps:List PT
 rs:List Ty
 f:List T.den->qn ps->List T.den×qi rs
 ok:List T.den->qn ps->List Prop
def zvp (w:World) (mt:Mt) (v:Value) (y:List mt.T.den×qi mt.rs) (e:Ending) (w':World):Prop:=
 ∃ u rows,e = .returned u/\w.grownBy w' v.ownBlock/\w'.ownsRow 0 mt.e mt.T.size v y.1.length rows/\yq w' (fun _=>False) mt.T y.1 rows/\(∀ u∈rows,u.oneCell'=true)/\qi6 w' (fun _=>False) mt.rs y.2 u
structure SoundMt (P:Program) (f:FuncId) (mt:Mt):Prop where
 flat:mt.T.flat=true
 flats:mt.rs.all Ty.flat=true
 enters:∀ args w,(callFunc f args).run P w = .ok (.enter f args) w
 calls:∀ (w:World) (F:Nat->Prop) (l:List mt.T.den) (xs:qn mt.ps) (v:Value) (vs rows:List Value),(∀ b,F b->b<w.heap.size)->w.ownsRow 0 mt.e mt.T.size v l.length rows->(∀ g,v.ownBlock=some g->¬ F g) ->
  yq w F mt.T l rows->(∀ u∈rows,u.oneCell'=true)->v.oneCell'=true->wt P w F mt.ps xs vs->qr (mt.ok l xs)->Calls P f (v::vs).toArray w (zvp w mt v (mt.f l xs))
def mtK (Γ:Gm) (f:FuncId) (mt:Mt) (_d:Nat) (g:FuncId) (args:List AV) (s:St):Option Tr:=
 if g=f then match args with
  |.c (.own id)::rest=>match qcj s.mem rest with
   |some (xs,u)=>match qx s.mem u id with
    |some (.arr e t l)=>if h:t=mt.T then if e=mt.e then match qjd Γ mt.ps xs with
      |some (x,n)=>some (needL (n++mt.ok (kw h l) x) (.leaf (.val (qqc mt.rs (mt.f (kw h l) x).2)) ⟨s.n,s.sl,upd (qx s.mem u) id (.arr mt.e mt.T (mt.f (kw h l) x).1),s.gs⟩))
      |none=>none
     else none else none
    |_=>none
   |none=>none
  |_=>none
 else none
theorem qoe {Γ:Gm} (hΓ:qhd P Γ) {f:FuncId} {mt:Mt} (h:SoundMt P f mt):qhy P (mtK Γ f mt):=by
 intro d g args s t ht;unfold mtK at ht;split at ht<;>try trivial
 rename_i hg;subst hg;split at ht<;>try trivial
 rename_i id rest;split at ht<;>try trivial
 rename_i xs u hrs;split at ht<;>try trivial
 rename_i e ty l hm1;split at ht<;>try trivial
 rename_i hty;split at ht<;>try trivial
 rename_i hee;split at ht<;>try trivial
 rename_i x n hdec;cases ht;subst hty;subst hee;refine ⟨h.enters,fun E a w F γ vs Q hi hr hq=>?_⟩;obtain ⟨hn,hqv⟩:=qa0 _ hq;obtain ⟨hn1,hn2⟩:=xl.1 hn;cases vs with
 |nil=>exact hr.elim
 |cons v vs=>
  obtain ⟨⟨hone,hv⟩,hr⟩:=hr;obtain ⟨F1,s1,m1,_,r1⟩:=wv hi.mem (kj hi) (qa6.of fun _ _ h=>h) hrs hr;have hps:=qf9 hΓ hdec hn1 r1;have hv1:v=γ id:=by
   have h2:qp (qx s.mem u) γ id v:=s1.hR id v hv;simpa [qp,hm1] using h2
  obtain ⟨rows,o1,o2,o3,o4⟩:=m1.ob id _ hm1;rw [← hv1] at o1 o2;have hblk:∀ g,v.ownBlock=some g->E.B<=g/\g<w.heap.size:=fun g hg=>o1.lt g hg;have hc:=h.calls w F1 l x v vs rows s1.bd (qjq o1 (fun _ _=>ucl _)) o2 o3 o4 hone hps hn2;refine hc.mono fun en w2 hp=>?_;obtain ⟨u2,rows2,rfl,hgr,p1,p2,p3,p4⟩:=hp;have hkeep:∀ b,b<w.heap.size->v.ownBlock≠some b->w2.heap[b]? = w.heap[b]? := fun b hb hne=>hgr.block b hb (fun h=>hne h.symm);have hBs:=Step.size' hi;have hR:∀ i v',qp (qx s.mem u) γ i v'->qp (upd (qx s.mem u) id (.arr mt.e mt.T (mt.f l x).1)) γ i v':=fun i v' hv'=>by
   unfold qp at hv' ⊢;by_cases hii:i=id
   ·subst hii;rw [hm1] at hv';simpa [upd] using hv'
   ·simpa [upd,hii] using hv'
  have s2:Step E.B w F1 γ (qx s.mem u) w2 F1 γ (upd (qx s.mem u) id (.arr mt.e mt.T (mt.f l x).1)):=
   ⟨fun _ h=>h,fun b hb=>hkeep b (s1.bd b hb) (fun h=>o2 b h hb),hR,fun b hb=>hkeep b (by omega) (fun h=>by have:=(hblk b h).1; omega),
    hgr.os,hgr.tape,hgr.output,hgr.size,fun b hb=>ubj (s1.bd b hb) hgr.size,fun b hb=>.inl hb⟩
  have hex:∀ i o,upd (qx s.mem u) id (.arr mt.e mt.T (mt.f l x).1) i=some o->∃ o0,qx s.mem u i=some o0/\exB o0 (γ i)=exB o (γ i):=fun i o ho=>by
   by_cases hii:i=id
   ·subst hii;simp only [upd,if_true,ua0] at ho;subst ho;exact ⟨_,hm1,rfl⟩
   ·simp only [upd,if_neg hii] at ho;exact ⟨o,ho,rfl⟩
  have m2:MemOK P E.B w2 F1 γ (upd (qx s.mem u) id (.arr mt.e mt.T (mt.f l x).1)):=by
   refine ⟨fun i o ho=>?_,fun i j oi oj b hij hoi hoj hb hb'=>?_⟩
   ·by_cases hii:i=id
    ·subst hii;simp only [upd,if_true,ua0] at ho;subst ho;rw [← hv1];exact ⟨rows2,qjq p1 (fun g hg=>(hblk g hg).1),o2,p2.flat h.flat,p3⟩
    ·simp only [upd,if_neg hii] at ho;refine (m1.ob i o ho).keep (fun _ h=>h) (fun b hb=>hkeep b (s1.bd b hb) (fun h=>o2 b h hb)) hR fun b hb=>?_;obtain ⟨l1,l2,_⟩:=qgc (m1.ob i o ho) hb;refine ⟨hkeep b l1 (fun hvb=>?_),l2⟩;exact m1.apart i id o _ b hii ho hm1 hb (by rw [← hv1]; exact hvb)
   ·obtain ⟨oi0,a1,a2⟩:=hex i oi hoi;obtain ⟨oj0,b1,b2⟩:=hex j oj hoj;exact m1.apart i j oi0 oj0 b hij a1 b1 (a2.trans hb) (b2.trans hb')
  have s3:=s1.trans s2;have hinv:InvG P E ⟨s.n,s.sl,upd (qx s.mem u) id (.arr mt.e mt.T (mt.f l x).1),s.gs⟩ a w2 [] F1 γ:=by
   refine ⟨hi.n,hi.df,?_,m2,fun t=>(hi.sl t).mono s3.hF s3.hw s3.hR,hi.hg,fun t=>s3.repA (hi.gh t)⟩;obtain ⟨γ0,h0⟩:=hi.step;exact ⟨γ0,h0.trans s3⟩
  exact ⟨.val (qqc mt.rs (mt.f l x).2),_,F1,γ,hqv,hinv,u2,rfl,qsg (p4.flat h.flats)⟩
def qxf (n:Nat) (e:TypeId) (T:Ty) (l:List T.den) (args:List AV):St:=
 ⟨n,fun i=>(AV.c (.own (oid 0))::args).getD i .dead,fun i=>if i=oid 0 then some (.arr e T l) else none,fun i=>if i=0 then .c (.own (oid 0)) else .dead⟩
def qyt (P:Program) (rv:List ResultVar) (e:TypeId) (T:Ty) (rs:List Ty) (s:St):Option (Fr (List T.den×qi rs)):=
 match s.gs 0 with
 |.c (.own k)=>match s.mem k with
  |some (.arr e' t l)=>if h:t=T then if e'=e then match qdx P s rv with
    |some (vs,n)=>match qcj s.mem vs with
     |some (xs,_)=>match qe3 rs xs with
      |some y=>some (Fr.needL n (.val (kw h l,y)))
      |none=>none
     |none=>none
    |none=>none
   else none else none
  |_=>none
 |_=>none
def frM (P:Program) (rv:List ResultVar) (e:TypeId) (T:Ty) (rs:List Ty):Tr->Option (Fr (List T.den×qi rs))
 |.leaf .ret s=>qyt P rv e T rs s
 |.leaf .normal s=>qyt P rv e T rs s
 |.leaf _ _=>none
 |.br b x y=>match frM P rv e T rs x,frM P rv e T rs y with
  |some x',some y'=>some (.br b x' y')
  |_,_=>none
 |.need p x=>match frM P rv e T rs x with
  |some x'=>some (.need p x')
  |none=>none
 |.two p x y=>match frM P rv e T rs x,frM P rv e T rs y with
  |some x',some y'=>some (.need (p->x'.ok/\x'.get=y'.get) y')
  |_,_=>none
theorem qnj {rv:List ResultVar} {e:TypeId} {T:Ty} {rs:List Ty}:{t:Tr} -> {f:Fr (List T.den×qi rs)}->frM P rv e T rs t=some f->f.ok->t.sat fun x s=>(x = .ret∨x = .normal)/\∃ n,qyt P rv e T rs s=some (Fr.needL n (.val f.get))/\qr n
 |.leaf x s,f,h,hok=>by
  have key:qyt P rv e T rs s=some f->∃ n,qyt P rv e T rs s=some (Fr.needL n (.val f.get))/\qr n:=fun h=>by
   have h0:=h;unfold qyt at h;split at h<;>try trivial
   split at h<;>try trivial
   split at h<;>try trivial
   split at h<;>try trivial
   split at h<;>try trivial
   split at h<;>try trivial
   split at h<;>try trivial
   cases h;refine ⟨_,?_,(qof _ hok).1⟩;rw [qlz];exact h0
  cases x with
  |exit i=>simp [frM] at h
  |panic i=>simp [frM] at h
  |val i=>simp [frM] at h
  |jump i=>simp [frM] at h
  |normal=>exact ⟨.inr rfl,key h⟩
  |ret=>exact ⟨.inl rfl,key h⟩
 |.br b x y,f,h,hok=>by
  simp only [frM] at h;split at h<;>try trivial
  rename_i x' y' hx hy;cases h;refine ⟨fun hb=>?_,fun hb=>?_⟩
  ·have:=qnj hx (hok.1 hb);simpa only [Fr.get,hb,if_true] using this
  ·have:=qnj hy (hok.2 hb);simpa only [Fr.get,hb,ubt,ub3] using this
 |.need p x,f,h,hok=>by
  simp only [frM] at h;split at h<;>try trivial
  rename_i x' hx;cases h;have:=qnj hx hok.2;exact ⟨hok.1,this⟩
 |.two p x y,f,h,hok=>by
  simp only [frM] at h;split at h<;>try trivial
  rename_i x' y' hx hy;cases h;have h2:=qnj hy hok.2;refine ⟨fun hp=>?_,h2⟩;have:=qnj hx (hok.1 hp).1
  rwa [(hok.1 hp).2] at this
def zho (P:Program) (C:Cx) (Λ:Nat->St->Option Tr) (fn:Func) (e:TypeId) (T:Ty) (ps:List PT) (rs:List Ty) (l:List T.den) (xs:qn ps):Option (Fr (List T.den×qi rs)):=
 match fn.body with
 |some c=>if (fn.name == "runtime.NumGoroutine")=false/\ps.length+1<=fn.ntmps then match ja P C 0 Λ c 0 (qxf fn.ntmps e T l (qg2 ps xs)) with
   |some t=>frM P fn.results.toList e T rs t
   |none=>none
  else none
 |none=>none
theorem qkn {C:Cx} (hC:CxOK P C) {Λ:Nat->St->Option Tr} {f:FuncId} {fn:Func} {e:TypeId} {T:Ty} {ps:List PT} {rs:List Ty} {fr:List T.den->qn ps->Fr (List T.den×qi rs)} (x0:qn ps)
  (hf:P.funcs[f]? = some fn) (hT:T.flat=true) (hTs:rs.all Ty.flat=true) (hΛ:∀ c E,fn.body=some c->jw P E Λ c 0) (hrun:∀ l xs,zho P C Λ fn e T ps rs l xs=some (fr l xs)) :
  SoundMt P f ⟨e,T,ps,rs,fun l xs=>(fr l xs).get,fun l xs=>[(fr l xs).ok]⟩:=by
 have h0:=hrun [] x0;unfold zho at h0;split at h0<;>try trivial
 rename_i c hb;split at h0<;>try trivial
 rename_i hc;refine ⟨hT,hTs,enters hf hb hc.1,fun w F l xs v vs rows hbd hown hnF hrows hcell hone hr hok=>calls_of_wp hf hb ?_⟩;have hr':=hrun l xs;unfold zho at hr';simp only [hb,hc,and_self,if_true] at hr';split at hr'<;>try (cases hr'; done)
 rename_i t ht;have hlen:vs.length=ps.length:=qiv hr;have hFb:∀ b,F b->(b<w.heap.size/\v.ownBlock≠some b):=fun b hb=>⟨hbd b hb,fun h=>hnF b h hb⟩;have hps:wt P w (fun b=>b<w.heap.size/\v.ownBlock≠some b) ps xs vs:=wt.mono hFb (fun _ _=>rfl) hr;have hargs:∀ R:Nat->Value->Prop,R (oid 0) v->zr P w (fun b=>b<w.heap.size/\v.ownBlock≠some b) R (AV.c (.own (oid 0))::qg2 ps xs) (v::vs):=fun R hR=>⟨⟨hone,hR⟩,qex hps⟩;have hstart:I P ⟨w,fun b=>b<w.heap.size/\v.ownBlock≠some b,fun _=>v,[],0,ucl _⟩ (qxf fn.ntmps e T l (qg2 ps xs)) { tmps:=(v::vs).toArray++Array.replicate (fn.ntmps-(v::vs).length) undef,defers:=[] } w:=by
  refine ⟨_,fun _=>v,?_,rfl,⟨fun _=>undef,⟨fun _ h=>h,fun _ _=>rfl,fun _ _ h=>h.elim,fun b hb=>absurd hb (Nat.not_lt_zero b),rfl,rfl,rfl,ua3 _,fun b hb=>hb.1,fun b hb=>.inl hb⟩⟩,⟨fun id o ho=>?_,fun i j oi oj b hij hi hj=>?_⟩,fun t=>?_,fun t g want v ht=>?_,fun t=>?_⟩
  ·show _=fn.ntmps;simp only [udz,ub5,Array.size_replicate,uaf];omega
  ·have ho':(if id=oid 0 then some (Ob.arr e T l) else none)=some o:=ho;split at ho'
   ·simp only [ua0] at ho';subst ho';exact ⟨rows,hown,fun g hg h=>h.2 hg,hrows.flat hT,hcell⟩
   ·cases ho'
  ·have hi':(if i=oid 0 then some (Ob.arr e T l) else none)=some oi:=hi;have hj':(if j=oid 0 then some (Ob.arr e T l) else none)=some oj:=hj;split at hi'
   ·split at hj'
    ·rename_i h1 h2;exact absurd (h1.trans h2.symm) hij
    ·cases hj'
   ·cases hi'
  ·have hg:((v::vs).toArray++Array.replicate (fn.ntmps-(v::vs).length) undef).getD t undef=(v::vs).getD t undef:=by
    simp only [ubh,ua6];rcases uar t (v::vs).length with hlt|hge
    ·rw [ug3 (by simpa using hlt)];simp
    ·rw [ug4 (by simpa using hge),ucy hge];simp only [uem];split<;>rfl
   show vz P w _ _ _ ((AV.c (.own (oid 0))::qg2 ps xs).getD t .dead) (((v::vs).toArray++Array.replicate (fn.ntmps-(v::vs).length) undef).getD t undef);rw [hg];exact ql5 (qij (hargs _ (by simp [qp,qxf])) t)
  ·exfalso;have:=qij (hargs (fun _ _=>True) trivial) t;have ht':(AV.c (.own (oid 0))::qg2 ps xs).getD t .dead = .maybe g want v:=ht;rw [ht'] at this;exact this
  ·show qz P w _ _ (if t=0 then .c (.own (oid 0)) else .dead) v;split
   ·exact ⟨hone,by simp [zn,qp,qxf]⟩
   ·trivial
 have hwp:=yx hC c 0 (hΛ c _ hb) ht (qnj hr' hok) hstart;have hsz:((v::vs).toArray).size=(v::vs).length:=by simp
 rw [hsz];refine wp_mono hwp ?_;rintro ex a' w' ⟨xe,s,rfl,⟨F',γ',hi⟩,hxe,n,hend,hnn⟩;have hfin:a'.defers=[]/\∃ u,(results fn a'.tmps).run P w' = .ok u w'/\zvp w ⟨e,T,ps,rs,fun l xs=>(fr l xs).get,fun l xs=>[(fr l xs).ok]⟩ v (fr l xs).get (.returned u) w':=by
  unfold qyt at hend;split at hend<;>try trivial
  rename_i k hgs;split at hend<;>try trivial
  rename_i e' t' l' hmk;split at hend<;>try trivial
  rename_i hty;split at hend<;>try trivial
  rename_i hee;split at hend<;>try trivial
  rename_i avs n' hres;split at hend<;>try trivial
  rename_i axs u hrs;split at hend<;>try trivial
  rename_i y hdec;injection hend with hend
  obtain ⟨hn',hy⟩:=ql0 hend hnn;subst hty;subst hee;obtain ⟨us,hran,hreps⟩:=qiw hi hres hn';obtain ⟨F'',hs,hm',_,hxs⟩:=wv hi.mem (kj hi) (qa6.of fun _ _ h=>h) hrs hreps;obtain ⟨γ0,h1⟩:=hi.step;have hgv:v=γ' k:=by
   have h2:=hi.gh 0;rw [hgs] at h2;have h3:qp s.mem γ' k v:=h2.2;simpa [qp,hmk] using h3
  obtain ⟨rows2,q1,q2,q3,q4⟩:=hi.mem.ob k _ hmk;rw [← hgv] at q1;refine ⟨hi.df,_,qd3 hran,_,rows2,rfl,⟨h1.os,h1.tape,h1.output,h1.size,fun b hb hne=>h1.hw b ⟨hb,fun h=>hne h.symm⟩⟩,?_,?_,q4,?_⟩
  ·rw [← hy];exact q1
  ·rw [← hy];exact q3.flat hT
  ·rw [← hy];exact (qrq (qdv hdec hxs)).flat hTs
 rcases hxe with rfl|rfl
 ·exact hfin
 ·exact hfin
theorem yel {t:Ty} {l:List t.den} {xs:List Value} (h:yq w F t l xs):∀ x∈l,Wf t x:=fun x hx=>by
 obtain ⟨i,hi,rfl⟩:=List.mem_iff_getElem.1 hx;exact qs.wf (h i _ (ua7 hi))
theorem zoj {e:TypeId} {size n:Nat} {v:Value} {xs:List Value} (h:w.ownsRow B e size v n xs):n<=maxLen:=by
 rcases h.2 with ⟨_,rfl⟩|⟨g,cap,cur,_,_,_,h1,h2,_⟩
 ·exact ucl _
 ·exact ual h1 h2
theorem qrb {f:FuncId} {mt:Mt} (h:SoundMt P f mt) (g:List mt.T.den->qn mt.ps->List mt.T.den×qi mt.rs) (ok:List mt.T.den->qn mt.ps->List Prop)
  (hg:∀ w F l xs vs,wt P w F mt.ps xs vs->l.length<=maxLen->(∀ x∈l,Wf mt.T x)->qr (ok l xs)->qr (mt.ok l xs)/\mt.f l xs=g l xs):SoundMt P f ⟨mt.e,mt.T,mt.ps,mt.rs,g,ok⟩:=by
 refine ⟨h.flat,h.flats,h.enters,fun w F l xs v vs rows hb ho hn hr hc h1 hp hok=>?_⟩;obtain ⟨h2,h3⟩:=hg w F l xs vs hp (zoj ho) (yel hr) hok;have:=h.calls w F l xs v vs rows hb ho hn hr hc h1 hp h2;rw [h3] at this;exact this
end
end Go.Ab

namespace Go.Ab
open Go Go.RowKit
def goL {T σ ρ:Type} (step:T->σ->Fr (σ ⊕ ρ)):List T->σ->σ ⊕ ρ
 |[],s=>.inl s
 |x::r,s=>match (step x s).get with
  |.inl s'=>goL step r s'
  |.inr y=>.inr y
def okL {T σ ρ:Type} (step:T->σ->Fr (σ ⊕ ρ)):List T->σ->Prop
 |[],_=>True
 |x::r,s=>(step x s).ok/\match (step x s).get with
  |.inl s'=>okL step r s'
  |.inr _=>True
def goF {T σ:Type} (step:T->σ->Fr σ):List T->σ->σ
 |[],s=>s
 |x::r,s=>goF step r (step x s).get
def okF {T σ:Type} (step:T->σ->Fr σ):List T->σ->Prop
 |[],_=>True
 |x::r,s=>(step x s).ok/\okF step r (step x s).get
def isL {σ ρ:Type}:σ ⊕ ρ->Bool
 |.inl _=>true
 |.inr _=>false
def qap {σ ρ:Type} (d:σ):σ ⊕ ρ->σ
 |.inl s=>s
 |.inr _=>d
def jk {σ ρ:Type} (d:ρ):σ ⊕ ρ->ρ
 |.inl _=>d
 |.inr y=>y
def Rd.up {X Y Z:Type}:Rd Empty Y Z->Rd X Y Z
 |.next x=>nomatch x
 |.out y=>.out y
 |.back z=>.back z
 |.pan p=>.pan p
def dfL:(ts:List Ty)->qi ts
 |[]=>()
 |t::r=>(t.dflt,dfL r)
def dfP:(ps:List PT)->qn ps
 |[]=>()
 |.d t::r=>(t.dflt,dfP r)
 |.ptr t::r=>(t.dflt,dfP r)
 |.fn _ rs::r=>(fun _=>dfL rs,dfP r)
 |.pf _ rs::r=>((fun _=>dfL rs,fun _=>False),dfP r)
 |.pfn _ rs::r=>(fun _=>dfL rs,dfP r)
 |.pk _::r=>((),dfP r)
def dfY:(fs:List YF)->qmg fs
 |[]=>()
 |(some _,_)::r=>([],dfY r)
 |(none,t)::r=>(t.dflt,dfY r)
def dfM:(ms:List MI)->jd ms
 |[]=>()
 |.o _ _ _::r=>([],dfM r)
 |.x _ _ ty::r=>(ty.dflt,dfM r)
 |.r _ _ _::r=>dfM (r)
 |.y _ _ fs::r=>(dfY fs,dfM r)
 |.g _ _ _::r=>dfM (r)
 |.al _ _::r=>dfM (r)
section
variable {P:Program} {c:Code} {L Eo R:LS} {n id:Nat} {T σ ρ:Type}
structure InL (good:Prop) (u:Int×List T×σ):Prop where
 good:good
 lo:0<=u.1
 hi:u.1<=u.2.1.length
 big:(u.2.1.length:Int)<=9223372036854775807
def FL (step:T->σ->Fr (σ ⊕ ρ)) (un:L.X->Int×List T×σ) (good:L.X->Prop) (qjl:σ->Eo.X) (outR:ρ->Rd Empty Eo.X R.X) (d:σ) (d2:ρ) (x:L.X):Fr (Rd L.X Eo.X R.X):=
 Fr.need (InL (good x) (un x)) (Fr.need (okL step ((un x).2.1.drop (un x).1.toNat) (un x).2.2)
  (Fr.br (isL (goL step ((un x).2.1.drop (un x).1.toNat) (un x).2.2)) (Fr.val (Rd.out (qjl (qap d (goL step ((un x).2.1.drop (un x).1.toNat) (un x).2.2)))))
   (Fr.val (Rd.up (outR (jk d2 (goL step ((un x).2.1.drop (un x).1.toNat) (un x).2.2)))))))
theorem qf.list {fr:L.X->Fr (Rd L.X Eo.X R.X)} (h:qf P c L ⟨n,id,L,Eo,R⟩ fr) (step:T->σ->Fr (σ ⊕ ρ)) (un:L.X->Int×List T×σ) (good:L.X->Prop) (qjl:σ->Eo.X) (outR:ρ->Rd Empty Eo.X R.X) (d:σ) (d2:ρ)
  (hround:∀ x,good x->0<=(un x).1->(un x).1<(un x).2.1.length->((un x).2.1.length:Int)<=9223372036854775807->∀ e,(un x).2.1[(un x).1.toNat]? = some e->∀ Q:Rd L.X Eo.X R.X->Prop,
   (step e (un x).2.2).satP (fun
    |.inl s'=>∀ x',un x'=((un x).1+1,(un x).2.1,s')->good x'->Q (.next x')
    |.inr y=>Q (Rd.up (outR y)))->(fr x).satP Q)
  (hend:∀ x,good x->¬ (un x).1<(un x).2.1.length->∀ Q:Rd L.X Eo.X R.X->Prop,Q (.out (qjl (un x).2.2))->(fr x).satP Q) :
  qf P (.loop c) L ⟨n,id,L,Eo,R⟩ (FL step un good qjl outR d d2):=by
 refine qf.loop (n:=n) (id:=id) h (inv:=fun x=>InL (good x) (un x)) (μ:=fun x=>(((un x).2.1.length:Int)-(un x).1).toNat) ?_ (fun x Q hq=>hq.1);intro x hx Q hq;obtain ⟨_,hok,hq1,hq2⟩:=hq;by_cases hi:(un x).1<(un x).2.1.length
 ·have hlo:=hx.lo;have hbig:=hx.big;have hl:(un x).1.toNat<(un x).2.1.length:=by omega
  have e1:(un x).2.1.drop (un x).1.toNat=(un x).2.1[(un x).1.toNat]::(un x).2.1.drop ((un x).1.toNat+1):=ubp hl;have hn:((un x).1+1).toNat=(un x).1.toNat+1:=by omega
  rw [e1] at hok hq1 hq2;generalize he:(un x).2.1[(un x).1.toNat]=e at hok hq1 hq2;have he':(un x).2.1[(un x).1.toNat]? = some e:=by rw [ua7 hl,he]
  refine hround x hx.good hlo hi hbig e he' _ (Fr.satP_of hok.1 ?_);have hok2:=hok.2;simp only [goL] at hq1 hq2;cases hg:(step e (un x).2.2).get with
  |inl s'=>
   simp only [hg] at hok2 hq1 hq2;intro x' hun hgd;have e2:(un x').1=(un x).1+1:=by rw [hun]
   have e3:(un x').2.1=(un x).2.1:=by rw [hun]
   have e4:(un x').2.2=s':=by rw [hun]
   have hin:InL (good x') (un x'):=⟨hgd,by rw [e2]; omega,by rw [e2,e3]; omega,by rw [e3]; exact hbig⟩;refine ⟨hin,by rw [e2,e3]; omega,hin,?_,?_,?_⟩
   ·rw [e2,e3,e4,hn]; exact hok2
   ·rw [e2,e3,e4,hn]; exact hq1
   ·rw [e2,e3,e4,hn]; exact hq2
  |inr y=>
   simp only [hg] at hq1 hq2;have:=hq2 rfl;simp only [jk] at this;cases ho:outR y with
   |next x=>exact nomatch x
   |out y2=>rw [ho] at this; simp only [ho,Rd.up]; exact this
   |back z=>rw [ho] at this; simp only [ho,Rd.up]; exact this
   |pan p=>rw [ho] at this; simp only [ho,Rd.up]; exact this
 ·have hl:(un x).2.1.drop (un x).1.toNat=[]:=uc5 (by have:=hx.lo; omega);rw [hl] at hq1;exact hend x hx.good hi _ (hq1 rfl)
def FF (step:T->σ->Fr σ) (un:L.X->Int×List T×σ) (good:L.X->Prop) (qjl:σ->Eo.X) (x:L.X):Fr (Rd L.X Eo.X R.X):=
 Fr.need (InL (good x) (un x)) (Fr.need (okF step ((un x).2.1.drop (un x).1.toNat) (un x).2.2)
  (Fr.val (Rd.out (qjl (goF step ((un x).2.1.drop (un x).1.toNat) (un x).2.2)))))
theorem qf.fold {fr:L.X->Fr (Rd L.X Eo.X R.X)} (h:qf P c L ⟨n,id,L,Eo,R⟩ fr) (step:T->σ->Fr σ) (un:L.X->Int×List T×σ) (good:L.X->Prop) (qjl:σ->Eo.X)
  (hround:∀ x,good x->0<=(un x).1->(un x).1<(un x).2.1.length->((un x).2.1.length:Int)<=9223372036854775807->∀ e,(un x).2.1[(un x).1.toNat]? = some e->∀ Q:Rd L.X Eo.X R.X->Prop,
   (step e (un x).2.2).satP (fun s'=>∀ x',un x'=((un x).1+1,(un x).2.1,s')->good x'->Q (.next x'))->(fr x).satP Q)
  (hend:∀ x,good x->¬ (un x).1<(un x).2.1.length->∀ Q:Rd L.X Eo.X R.X->Prop,Q (.out (qjl (un x).2.2))->(fr x).satP Q) :
  qf P (.loop c) L ⟨n,id,L,Eo,R⟩ (FF step un good qjl):=by
 refine qf.loop (n:=n) (id:=id) h (inv:=fun x=>InL (good x) (un x)) (μ:=fun x=>(((un x).2.1.length:Int)-(un x).1).toNat) ?_ (fun x Q hq=>hq.1);intro x hx Q hq;obtain ⟨_,hok,hq1⟩:=hq;by_cases hi:(un x).1<(un x).2.1.length
 ·have hlo:=hx.lo;have hbig:=hx.big;have hl:(un x).1.toNat<(un x).2.1.length:=by omega
  have e1:(un x).2.1.drop (un x).1.toNat=(un x).2.1[(un x).1.toNat]::(un x).2.1.drop ((un x).1.toNat+1):=ubp hl;have hn:((un x).1+1).toNat=(un x).1.toNat+1:=by omega
  rw [e1] at hok hq1;generalize he:(un x).2.1[(un x).1.toNat]=e at hok hq1;have he':(un x).2.1[(un x).1.toNat]? = some e:=by rw [ua7 hl,he]
  refine hround x hx.good hlo hi hbig e he' _ (Fr.satP_of hok.1 ?_);intro x' hun hgd;have e2:(un x').1=(un x).1+1:=by rw [hun]
  have e3:(un x').2.1=(un x).2.1:=by rw [hun]
  have e4:(un x').2.2=(step e (un x).2.2).get:=by rw [hun]
  have hin:InL (good x') (un x'):=⟨hgd,by rw [e2]; omega,by rw [e2,e3]; omega,by rw [e3]; exact hbig⟩;refine ⟨hin,by rw [e2,e3]; omega,hin,?_,?_⟩
  ·rw [e2,e3,e4,hn]; exact hok.2
  ·rw [e2,e3,e4,hn]; exact hq1
 ·have hl:(un x).2.1.drop (un x).1.toNat=[]:=uc5 (by have:=hx.lo; omega);rw [hl] at hq1;exact hend x hx.good hi _ hq1
theorem qfi {step:T->σ->Fr (σ ⊕ ρ)} (h:∀ e s,(step e s).ok):(l:List T)->(s:σ)->okL step l s
 |[],_=>trivial
 |e::r,s=>by
  refine ⟨h e s,?_⟩;split
  ·exact qfi h r _
  ·trivial
theorem ze1 {step:T->σ->Fr (σ ⊕ ρ)} {c d:ρ} (h:∀ e s y,(step e s).get = .inr y->y=c):(l:List T)->(s:σ)->isL (goL step l s)=false->jk d (goL step l s)=c
 |[],_,hh=>by cases hh
 |e::r,s,hh=>by
  simp only [goL] at hh ⊢;cases hg:(step e s).get with
  |inl s'=>
   simp only [hg] at hh ⊢;exact ze1 h r s' hh
  |inr y=>exact h e s y hg
theorem qhw {A B:Type} {l:List A} {l2:List B} (hz:l.length=l2.length) {i:Int} (h:i<((l.zip l2).length:Int)):i<(l.length:Int):=by
 simp only [ue7] at h;omega
theorem qfs {A B:Type} {l:List A} {l2:List B} (hz:l.length=l2.length) {i:Int} (h:¬ i<((l.zip l2).length:Int)):¬ i<(l.length:Int):=by
 simp only [ue7] at h;omega
theorem qhv {A B:Type} {l:List A} {l2:List B} (hz:l.length=l2.length) {b:Int} (h:((l.zip l2).length:Int)<=b):(l.length:Int)<=b:=by
 simp only [ue7] at h;omega
theorem qfr {A B:Type} {l:List A} {l2:List B} {i:Nat} {e:A×B} (h:(l.zip l2)[i]? = some e):l[i]? = some e.1:=by
 rw [List.getElem?_zip_eq_some] at h;exact h.1
theorem qft {A B:Type} {l:List A} {l2:List B} {i:Nat} {e:A×B} (h:(l.zip l2)[i]? = some e):l2[i]? = some e.2:=by
 rw [List.getElem?_zip_eq_some] at h;exact h.2
theorem zp {T:Type} {l:List T} {i:Nat} {e d:T} (h:l[i]? = some e):l.getD i d=e:=by
 rw [ua6,h];rfl
theorem zu {i:Int} {n:Nat} (h0:0<=i) (h1:i<n) (h2:(n:Int)<=9223372036854775807):IntKind.i64.wrap (i+1)=i+1:=uag _ (by omega)
theorem zff {i:Int} {n:Nat} (h0:0<=i) (h1:i<n) (h2:(n:Int)<=9223372036854775807):IntKind.i64.wrap (i-1)=i-1:=uag _ (by omega)
theorem zly {T:Type} {l:List T} {i:Int} {e d:T} (h:l.getD i.toNat d=e):l.getD (i+1-1).toNat d=e:=by
 rw [show i+1-1=i by omega];exact h
theorem zqa {i:Int} {n:Nat} {b:Bool} (h1:i<n) (hb:b=decide (i>0)) (h:b=true):0<=i-1/\i-1<n:=by
 rw [hb] at h;have:=ua5 h;omega
end
end Go.Ab

namespace Go.Ab
open Go Go.RowKit
section
variable {P:Program} {c:Code} {L Eo R:LS} {n id:Nat} {T σ ρ:Type}
end
end Go.Ab
namespace Go.Proofs.YtgieagiaagoogaaGreat
open Go Go.Ab Go.RowKit Go.Proofs
noncomputable def CH0:Cx:=cx [(95,xx),(104,xx)] []
theorem qqv:CxOK Tryz.prog CH0:=zc qv ⟨zuo,qvq,trivial⟩ trivial
def qso (x:qn [.d jp]):Fr (qi [.bool]):=
 Fr.val (bif bif bif bif bif bif decide (x.1.1≥0) then decide (x.1.1<4) else false then bif decide (x.1.2.1≥1) then decide (x.1.2.1<=1000000000000000) else false else false then decide (x.1.2.2.1≥0) else false then decide (x.1.2.2.1<=200) else false then decide (x.1.2.2.2.1≥0) else false then decide (x.1.2.2.2.1<100) else false,())
theorem zn0:qa Tryz.prog 141 ⟨[.d jp],[.bool],fun xs=>(qso xs).get,fun xs=>[(qso xs).ok]⟩:=
 qg qqv (Λ:=qq) (fn:=Tryz.f141) (dfP [.d jp]) (by kernel_rfl) (fun c E _=>qe c 0) (fun x=>by kernel_rfl)
def qpf (x:qn [.d jp]):Fr (qi [.bool]):=
 Fr.br (bif bif bif decide (x.1.1<0) then true else decide (x.1.1>3) then true else decide (x.1.2.1<1) then true else decide (x.1.2.1>1000000000000000)) (Fr.val (false,())) (Fr.val (bif bif bif decide (x.1.2.2.1≥0) then decide (x.1.2.2.1<=200) else false then decide (x.1.2.2.2.1≥0) else false then decide (x.1.2.2.2.1<=99) else false,()))
theorem zkt:qa Tryz.prog 165 ⟨[.d jp],[.bool],fun xs=>(qpf xs).get,fun xs=>[(qpf xs).ok]⟩:=
 qg qqv (Λ:=qq) (fn:=Tryz.f165) (dfP [.d jp]) (by kernel_rfl) (fun c E _=>qe c 0) (fun x=>by kernel_rfl)
def qmz (x:qn [.d qc]):Fr (qi [.bool]):=
 Fr.br (bif bif bif decide (x.1.1<0) then true else decide (x.1.1>7) then true else decide (x.1.2.2.2.2.1<1) then true else decide (x.1.2.2.2.2.1>10000)) (Fr.val (false,())) (Fr.val (bif bif bif decide (x.1.2.2.2.1≥0) then decide (x.1.2.2.2.1<x.1.2.1) else false then decide (x.1.2.1<=x.1.2.2.1) else false then decide (x.1.2.2.1<=1000000000000000) else false,()))
theorem zgc:qa Tryz.prog 195 ⟨[.d qc],[.bool],fun xs=>(qmz xs).get,fun xs=>[(qmz xs).ok]⟩:=
 qg qqv (Λ:=qq) (fn:=Tryz.f195) (dfP [.d qc]) (by kernel_rfl) (fun c E _=>qe c 0) (fun x=>by kernel_rfl)
def qw2 (x:qn [.d i64]):Fr (qi [.bool]):=
 Fr.val (bif decide (x.1≥1) then decide (x.1<=292194) else false,())
theorem zs5:qa Tryz.prog 145 ⟨[.d i64],[.bool],fun xs=>(qw2 xs).get,fun xs=>[(qw2 xs).ok]⟩:=
 qg qqv (Λ:=qq) (fn:=Tryz.f145) (dfP [.d i64]) (by kernel_rfl) (fun c E _=>qe c 0) (fun x=>by kernel_rfl)
def zas (x:qn [.d zy,.d i64]):Fr (qi [.bool]):=
 Fr.val (bif bif (xx.f ((x.1.1,x.1.2.1,()),())).1 then decide (x.1.1<=x.2.1) else false then decide (x.2.1<x.1.2.1) else false,())
theorem zxg:qa Tryz.prog 168 ⟨[.d zy,.d i64],[.bool],fun xs=>(zas xs).get,fun xs=>[(zas xs).ok]⟩:=
 qg qqv (Λ:=qq) (fn:=Tryz.f168) (dfP [.d zy,.d i64]) (by kernel_rfl) (fun c E _=>qe c 0) (fun x=>by kernel_rfl)
def zc8 (x:qn [.d zy]):Fr (qi [zy]):=
 Fr.br (bif !(xx.f ((x.1.1,x.1.2.1,()),())).1 then true else x.1.1==x.1.2.1) (Fr.val ((0,0,()),())) (Fr.val ((x.1.1,x.1.2.1,()),()))
theorem zs6:qa Tryz.prog 69 ⟨[.d zy],[zy],fun xs=>(zc8 xs).get,fun xs=>[(zc8 xs).ok]⟩:=
 qg qqv (Λ:=qq) (fn:=Tryz.f69) (dfP [.d zy]) (by kernel_rfl) (fun c E _=>qe c 0) (fun x=>by kernel_rfl)
theorem zxx (b v:Bool):(if b=true then ((false,()):Bool×Unit) else (v,()))=(!b&&v,()):=by cases b<;>rfl
def qh5 (k v a z:Int):Bool:=decide (0<=k/\k<4/\1<=v/\v<=1000000000000000/\0<=a/\a<=200/\0<=z/\z<100)
def qhz:Ct:=⟨[.d jp],[.bool],fun x=>(qh5 x.1.1 x.1.2.1 x.1.2.2.1 x.1.2.2.2.1,()),fun _=>[]⟩
theorem zdr:qa Tryz.prog 141 qhz:=
 conv zn0 _ _ (fun _ _ x _ _ _=>by
  obtain ⟨⟨k,v,a,z,_⟩,_⟩:=x;refine ⟨by simp [qr,Fr.ok,qso],?_⟩;dsimp only [qso,Fr.get,qh5,Ty.den,PT.den];simp only [Bool.cond_true_left,Bool.cond_false_right];congr 1;rw [Bool.eq_iff_iff];simp only [Bool.and_eq_true,Bool.or_eq_true,decide_eq_true_eq];omega)
theorem yeh:qa Tryz.prog 165 qhz:=
 conv zkt _ _ (fun _ _ x _ _ _=>by
  obtain ⟨⟨k,v,a,z,_⟩,_⟩:=x;refine ⟨by simp [qr,Fr.ok,qpf],?_⟩;dsimp only [qpf,Fr.get,qh5,Ty.den,PT.den];simp only [zxx,Bool.cond_true_left,Bool.cond_false_right];congr 1;rw [Bool.eq_iff_iff];simp only [Bool.and_eq_true,Bool.not_eq_true',Bool.or_eq_false_iff,decide_eq_true_eq,decide_eq_false_iff_not];omega)
def qhl (p l g d s:Int):Bool:=decide (0<=p/\p<8/\1<=s/\s<=10000/\0<=d/\d<l/\l<=g/\g<=1000000000000000)
def qf7:Ct:=⟨[.d qc],[.bool],fun x=>(qhl x.1.1 x.1.2.1 x.1.2.2.1 x.1.2.2.2.1 x.1.2.2.2.2.1,()),fun _=>[]⟩
theorem zwk:qa Tryz.prog 195 qf7:=
 conv zgc _ _ (fun _ _ x _ _ _=>by
  obtain ⟨⟨p,l,g,d,s,_⟩,_⟩:=x;refine ⟨by simp [qr,Fr.ok,qmz],?_⟩;dsimp only [qmz,Fr.get,qhl,Ty.den,PT.den];simp only [zxx,Bool.cond_true_left,Bool.cond_false_right];congr 1;rw [Bool.eq_iff_iff];simp only [Bool.and_eq_true,Bool.not_eq_true',Bool.or_eq_false_iff,decide_eq_true_eq,decide_eq_false_iff_not];omega)
def qc6 (d:Int):Bool:=decide (1<=d/\d<=292194)
def qyk:Ct:=⟨[.d i64],[.bool],fun x=>(qc6 x.1,()),fun _=>[]⟩
theorem zwo:qa Tryz.prog 145 qyk:=
 conv zs5 _ _ (fun _ _ x _ _ _=>by
  obtain ⟨d,_⟩:=x;refine ⟨by simp [qr,Fr.ok,qw2],?_⟩;dsimp only [qw2,Fr.get,qc6,Ty.den,PT.den];simp only [Bool.cond_false_right];congr 1;rw [Bool.eq_iff_iff];simp only [Bool.and_eq_true,decide_eq_true_eq,ge_iff_le])
def inB (a b d:Int):Bool:=decide (1<=a/\b<=292195/\a<=d/\d<b)
def cIn:Ct:=⟨[.d zy,.d i64],[.bool],fun x=>(inB x.1.1 x.1.2.1 x.2.1,()),fun _=>[]⟩
theorem zxr:qa Tryz.prog 168 cIn:=
 conv zxg _ _ (fun _ _ x _ _ _=>by
  obtain ⟨⟨a,b,_⟩,d,_⟩:=x;refine ⟨by simp [qr,Fr.ok,zas],?_⟩;dsimp only [zas,Fr.get,inB,xx,qdy,Ty.den,PT.den];simp only [Bool.cond_true_left,Bool.cond_false_right];congr 1;rw [Bool.eq_iff_iff];simp only [Bool.and_eq_true,decide_eq_true_eq];omega)
def qsv (s:zy.den):zy.den:=if wk s=true then s else (0,0,())
def qwn:Ct:=⟨[.d zy],[zy],fun x=>(qsv x.1,()),fun _=>[]⟩
theorem yob (a b:Int):((¬a≥1∨¬a<=b∨¬b<=292195)∨a=b)↔(¬a≥1∨¬a<b∨¬b<=292195):=by omega
theorem yoa (a b:Int):(bif !(qdy (a,b,())) then true else a==b) = !(wk (a,b,())):=by
 dsimp only [qdy,wk,Ty.den,PT.den];simp only [Bool.cond_true_left];rw [Bool.eq_iff_iff];simp only [Bool.and_eq_true,Bool.or_eq_true,Bool.not_eq_true',Bool.and_eq_false_iff,decide_eq_true_eq,decide_eq_false_iff_not,beq_iff_eq];exact yob a b
theorem yjl:qa Tryz.prog 69 qwn:=
 conv zs6 _ _ (fun _ _ x _ _ _=>by
  obtain ⟨⟨a,b,_⟩,_⟩:=x;refine ⟨by simp [qr,Fr.ok,zc8],?_⟩;show (if (bif !(qdy (a,b,())) then true else a==b)=true then (((0,0,()),()):zy.den×Unit) else ((a,b,()),()))=(if wk (a,b,())=true then (a,b,()) else (0,0,()),());rw [yoa];cases wk (a,b,())<;>rfl)
noncomputable def CH1:Cx:=cx [(69,qwn)] []
theorem zvl:CxOK Tryz.prog CH1:=zc qv ⟨yjl,trivial⟩ trivial
end Go.Proofs.YtgieagiaagoogaaGreat
namespace Go.Ab
variable {α:Type} {key:α->Int}
def yj (key:α->Int) (l:List α):Prop:=l.Pairwise fun x y=>key x<=key y
def zd (key:α->Int) (l s:List α):Prop:=∀ k,s.filter (fun x=>key x==k)=l.filter (fun x=>key x==k)
theorem zd.refl (l:List α):zd key l l:=fun _=>rfl
theorem zd.trans {a b c:List α} (h:zd key a b) (k:zd key b c):zd key a c:=fun n=>(k n).trans (h n)
theorem zd.symm {a b:List α} (h:zd key a b):zd key b a:=fun n=>(h n).symm
theorem zd.app {a b c d:List α} (h:zd key a b) (k:zd key c d):zd key (a++c) (b++d):=fun n=>by simp [h n,k n]
theorem zd.mem {l s:List α} (h:zd key l s) {x:α}:x∈s↔x∈l:=by
 have:=ubb (x ∈ ·) (h (key x));simpa [List.mem_filter] using this
theorem zd.swap {a b:List α} (h:∀ x∈a,∀ y∈b,key x≠key y):zd key (a++b) (b++a):=fun n=>by
 simp only [uga];by_cases ha:∃ x∈a,key x=n
 ·obtain ⟨x,hx,hk⟩:=ha;have hb:b.filter (fun x=>key x==n)=[]:=by
   rw [List.filter_eq_nil_iff];intro y hy;have:=h x hx y hy;simp;omega
  rw [hb];simp
 ·have ha':a.filter (fun x=>key x==n)=[]:=by
   rw [List.filter_eq_nil_iff];intro y hy hk;exact ha ⟨y,hy,by simpa using hk⟩
  rw [ha'];simp
theorem zd.eq:{s t:List α}->yj key s->yj key t->zd key s t->s=t
 |[],t,_,_,h=>by
  cases t with
  |nil=>rfl
  |cons y t=>have:=(h.mem (x:=y)).1 (by simp); simp at this
 |x::s,[],_,_,h=>by have:=(h.mem (x:=x)).2 (by simp); simp at this
 |x::s,y::t,hs,ht,h=>by
  have hs':=ub2.1 hs;have ht':=ub2.1 ht;have hxy:key x<=key y:=by
   rcases ua2.1 ((h.mem (x:=y)).1 (by simp)) with e|e
   ·exact ufg (by rw [e])
   ·exact hs'.1 y e
  have hyx:key y<=key x:=by
   rcases ua2.1 ((h.mem (x:=x)).2 (by simp)) with e|e
   ·exact ufg (by rw [e])
   ·exact ht'.1 x e
  have hk:key x=key y:=by omega
  have h0:=h (key x);simp only [List.filter_cons,hk,beq_self_eq_true,if_true,uej] at h0;obtain ⟨rfl,h0⟩:=h0;have:s=t:=zd.eq hs'.2 ht'.2 fun n=>by
   have:=h n;simp only [List.filter_cons] at this;split at this
   ·simpa using this
   ·exact this
  rw [this]
def qu9 (lt:α->α->Bool) (x:α):List α->List α
 |[]=>[x]
 |y::r=>if lt y x then y::qu9 lt x r else x::y::r
def jq (lt:α->α->Bool):List α->List α
 |[]=>[]
 |x::r=>qu9 lt x (jq lt r)
theorem ze4 {lt:α->α->Bool} {x:α}:(l:List α)->(qu9 lt x l).Perm (x::l)
 |[]=>ugb _
 |y::r=>by
  simp only [qu9];split
  ·exact (List.Perm.cons y (ze4 r)).trans (List.Perm.swap x y r)
  ·exact ugb _
theorem qtl {lt:α->α->Bool}:(l:List α)->(jq lt l).Perm l
 |[]=>ugb _
 |x::r=>(ze4 _).trans (List.Perm.cons x (qtl r))
theorem qaq {lt:α->α->Bool} (l:List α):(jq lt l).length=l.length:=(qtl l).length_eq
theorem qpw {lt:α->α->Bool} {l:List α} {x:α}:x∈jq lt l↔x∈l:=(qtl l).mem_iff
def LtK (lt:α->α->Bool) (key:α->Int) (l:List α):Prop:=∀ x∈l,∀ y∈l,lt x y=decide (key x<key y)
theorem LtK.sub {lt:α->α->Bool} {l s:List α} (h:LtK lt key l) (hs:∀ x∈s,x∈l):LtK lt key s:=fun x hx y hy=>h x (hs x hx) y (hs y hy)
theorem ze5 {lt:α->α->Bool} {x:α}:{l:List α}->LtK lt key (x::l)->yj key l->yj key (qu9 lt x l)/\zd key (x::l) (qu9 lt x l)
 |[],_,_=>⟨ue8 _ _,zd.refl _⟩
 |y::r,h,hs=>by
  have hs':=ub2.1 hs;have hl:=h y (by simp) x (by simp);simp only [qu9];split
  ·rename_i hyx;rw [hyx] at hl;have hlt:key y<key x:=by simpa using hl.symm
   obtain ⟨h1,h2⟩:=ze5 (x:=x) (h.sub (by intro z hz; simp at hz ⊢; rcases hz with rfl|hz<;>simp [*])) hs'.2;refine ⟨ub2.2 ⟨fun z hz=>?_,h1⟩,?_⟩
   ·rcases ua2.1 ((h2.mem).1 hz) with rfl|hz
    ·omega
    ·exact hs'.1 z hz
   ·have h3:zd key ([x]++[y]) ([y]++[x]):=zd.swap fun a ha b hb=>by simp at ha hb; subst ha; subst hb; omega
    have h4:zd key (([x]++[y])++r) (([y]++[x])++r):=h3.app (zd.refl r);have h5:zd key ([y]++(x::r)) ([y]++qu9 lt x r):=(zd.refl [y]).app h2;exact h4.trans h5
  ·rename_i hyx;have hf:lt y x=false:=by simpa using hyx
   rw [hf] at hl;have hle:key x<=key y:=by simpa using hl.symm
   exact ⟨ub2.2 ⟨fun z hz=>by
    rcases ua2.1 hz with rfl|hz
    ·exact hle
    ·exact ub6 hle (hs'.1 z hz),hs⟩,zd.refl _⟩
theorem qcs {lt:α->α->Bool}:{l:List α}->LtK lt key l->yj key (jq lt l)/\zd key l (jq lt l)
 |[],_=>⟨List.Pairwise.nil,zd.refl _⟩
 |x::r,h=>by
  obtain ⟨h1,h2⟩:=qcs (l:=r) (h.sub (by intro z hz; simp [hz]));obtain ⟨h3,h4⟩:=ze5 (x:=x) (l:=jq lt r) (h.sub (by
   intro z hz;rcases ua2.1 hz with rfl|hz
   ·simp
   ·simp [qpw.1 hz])) h1
  exact ⟨h3,zd.trans (zd.app (zd.refl [x]) h2) h4⟩
theorem qe4 {lt:α->α->Bool} {l s:List α} (h:LtK lt key l) (hs:yj key s) (hk:zd key l s):s=jq lt l:=by
 obtain ⟨h1,h2⟩:=qcs h;exact zd.eq hs h1 (hk.symm.trans h2)
def zj (lt:α->α->Bool) (a b:Nat) (l:List α):List α:=l.take a++(jq lt ((l.take b).drop a)++l.drop b)
theorem qii {lt:α->α->Bool} {a b:Nat} {p s q:List α} (ha:p.length=a) (hb:(p++s).length=b):zj lt a b (p++(s++q))=p++(jq lt s++q):=by
 subst ha hb;have h1:(p++(s++q)).take (p++s).length=p++s:=by rw [← ubf]; exact udr rfl
 have h2:(p++(s++q)).drop (p++s).length=q:=by rw [← ubf]; exact ugc rfl
 unfold zj;rw [h1,h2,List.take_left' rfl,List.drop_left' rfl]
theorem zmp {l:List α} {a b:Nat} (hab:a<=b) (hb:b<=l.length):∃ p s q,l=p++(s++q)/\p.length=a/\s.length=b-a/\q.length=l.length-b:=
 ⟨l.take a,(l.take b).drop a,l.drop b,by
  have h1:(l.take b).take a=l.take a:=by rw [uf2,ubo hab]
  rw [← ubf,← h1,ue9,ue9],by simp; omega,by simp; omega,by simp⟩
def qcd (l:List α) (d:α) (i j:Nat):List α:=(l.set i (l.getD j d)).set j (l.getD i d)
end Go.Ab

namespace Go.Ab
section
variable {α:Type} {key:α->Int} {d:α}
theorem qsp {p s q:List α} {i:Nat} (h:i<s.length):(p++(s++q)).getD (p.length+i) d=s.getD i d:=by
 simp [ua6,ubr,uc3 h]
theorem zfv {p r q:List α} {x y:α} {i j:Nat} (hi:i=p.length) (hj:j=p.length+1+r.length):qcd (p++(x::(r++(y::q)))) d i j=p++(y::(r++(x::q))):=by
 subst hi hj;unfold qcd;have h1:(p++(x::(r++(y::q)))).getD (p.length+1+r.length) d=y:=by
  rw [show p++(x::(r++(y::q)))=(p++[x]++r)++(y::q) by simp];simp only [ua6];rw [ubr (by simp; omega)];simp [show p.length+1+r.length-(p.length+(r.length+1))=0 by omega]
 have h2:(p++(x::(r++(y::q)))).getD p.length d=x:=by simp [ua6]
 rw [h1,h2];have h3:(p++(x::(r++(y::q)))).set p.length y=p++(y::(r++(y::q))):=by simp
 rw [h3];rw [show p++(y::(r++(y::q)))=(p++[y]++r)++(y::q) by simp,List.set_append_right _ _ (by simp; omega)];simp [show p.length+1+r.length-(p.length+(r.length+1))=0 by omega]
theorem zfw {p q:List α} {x y:α} {i:Nat} (hi:i=p.length):qcd (p++(x::(y::q))) d i (i+1)=p++(y::(x::q)):=
 zfv (r:=[]) hi (by simp [hi])
theorem zu9 {l:List α} {i j:Nat} (h:i≠j):qcd l d j i=qcd l d i j:=by
 unfold qcd;rw [List.set_comm _ _ (by omega)]
theorem zfx {p q:List α} {x y:α} {i:Nat} (hi:i=p.length):qcd (p++(x::(y::q))) d (i+1) i=p++(y::(x::q)):=by
 rw [zu9 (by omega),zfw hi]
def wj (lt:α->α->Bool) (d:α) (a:Nat):Nat->List α->List α
 |0,l=>l
 |j+1,l=>if a<j+1 then bif lt (l.getD (j+1) d) (l.getD j d) then wj lt d a j (qcd l d (j+1) j) else l else l
def qej (lt:α->α->Bool) (d:α) (a:Nat):Nat->Nat->List α->List α
 |0,_,l=>l
 |n+1,i,l=>qej lt d a n (i+1) (wj lt d a i l)
theorem zbx (s:List α):s=[] ∨ ∃ t y,s=t++[y]:=by
 cases h:s.reverse with
 |nil=>exact .inl (by simpa using h)
 |cons y t=>exact .inr ⟨t.reverse,y,by have:=ubb List.reverse h; simpa using this⟩
theorem zaz {lt:α->α->Bool} {p:List α} {x:α}:(n:Nat)->(s q:List α)->s.length=n->LtK lt key (s++[x])->yj key s ->
  ∃ t,wj lt d p.length (p.length+n) (p++(s++(x::q)))=p++(t++q)/\yj key t/\zd key (s++[x]) t
 |0,s,q,hn,_,_=>by
  obtain rfl:=ucw.1 hn;refine ⟨[x],?_,ue8 _ _,zd.refl _⟩;cases hp:p.length with
  |zero=>simp [wj]
  |succ j=>simp [wj]
 |n+1,s,q,hn,hl,hs=>by
  rcases zbx s with rfl|⟨s',y,rfl⟩
  ·simp at hn
  ·have hn':s'.length=n:=by simpa using hn
   have hs':=uc0.1 hs;have e1:p++((s'++[y])++(x::q))=(p++s')++(y::(x::q)):=by simp
   have hk:lt x y=decide (key x<key y):=hl x (by simp) y (by simp);have g1:(p++((s'++[y])++(x::q))).getD (p.length+n+1) d=x:=by
    rw [e1];simp only [ua6];rw [ubr (by simp; omega)];simp [hn',show p.length+n+1-(p.length+n)=1 by omega]
   have g2:(p++((s'++[y])++(x::q))).getD (p.length+n) d=y:=by
    rw [e1];simp only [ua6];rw [ubr (by simp; omega)];simp [hn']
   rw [show p.length+(n+1)=(p.length+n)+1 by omega];simp only [wj,g1,g2];rw [if_pos (by omega),hk];by_cases hlt:key x<key y
   ·simp only [hlt,decide_true,ue4];rw [e1,zfx (by simp [hn'])];obtain ⟨t,h1,h2,h3⟩:=zaz (p:=p) (x:=x) n s' (y::q) hn' (hl.sub (by intro z hz; simp at hz ⊢; rcases hz with h|h<;>simp [h])) hs'.1;have e2:(p++s')++(x::(y::q))=p++(s'++(x::(y::q))):=by simp
    rw [e2,h1];refine ⟨t++[y],by simp,?_,?_⟩
    ·refine uc0.2 ⟨h2,ue8 _ _,fun a ha b hb=>?_⟩;simp at hb;subst hb;rcases ubc.1 (h3.mem.1 ha) with h|h
     ·exact hs'.2.2 a h _ (by simp)
     ·simp at h;subst h;omega
    ·have h4:zd key ((s'++[y])++[x]) (s'++[x]++[y]):=by
      rw [ubf,ubf];exact (zd.refl s').app (zd.swap fun a ha b hb=>by simp at ha hb; subst ha hb; omega)
     exact h4.trans (h3.app (zd.refl [y]))
   ·simp only [hlt,decide_false,cond_false];refine ⟨s'++[y]++[x],by simp,?_,zd.refl _⟩;refine uc0.2 ⟨hs,ue8 _ _,fun a ha b hb=>?_⟩;simp at hb;subst hb;rcases ubc.1 ha with h|h
    ·have:=hs'.2.2 a h y (by simp);omega
    ·simp at h;subst h;omega
theorem za0 {lt:α->α->Bool} {p q:List α}:(u s:List α)->LtK lt key (s++u)->yj key s->∃ t,qej lt d p.length u.length (p.length+s.length) (p++(s++(u++q)))=p++(t++q)/\yj key t/\zd key (s++u) t
 |[],s,_,hs=>⟨s,by simp [qej],hs,by simpa using zd.refl s⟩
 |x::u,s,hl,hs=>by
  obtain ⟨t,h1,h2,h3⟩:=zaz (d:=d) (p:=p) (x:=x) s.length s (u++q) rfl (hl.sub (by intro z hz; simp at hz ⊢; rcases hz with h|h<;>simp [h])) hs;have hlen:t.length=s.length+1:=by
   have:=ubb List.length h1;have hd:∀ (n:Nat) (l:List α),(wj lt d p.length n l).length=l.length:=by
    intro n
    induction n with
    |zero=>intro l; rfl
    |succ n ih=>
     intro l;simp only [wj];split
     ·cases lt (l.getD (n+1) d) (l.getD n d)
      ·rfl
      ·simp [ih,qcd]
     ·rfl
   rw [hd] at this;simp at this;omega
  obtain ⟨t',k1,k2,k3⟩:=za0 (p:=p) (q:=q) u t (hl.sub (by
   intro z hz;rcases ubc.1 hz with h|h
   ·have:=h3.mem.1 h;simp at this ⊢;rcases this with h|h<;>simp [h]
   ·simp [h])) h2
  refine ⟨t',?_,k2,?_⟩
  ·simp only [uaf,qej,uaz];rw [h1,show p.length+s.length+1=p.length+t.length by omega];exact k1
  ·have:s++x::u=(s++[x])++u:=by simp
   rw [this];exact (h3.app (zd.refl u)).trans k3
theorem zla {lt:α->α->Bool} {a b:Nat} {l:List α} (hab:a<=b) (hb:b<=l.length) (hl:LtK lt key l):qej lt d a (b-(a+1)) (a+1) l=zj lt a b l:=by
 obtain ⟨p,s,q,rfl,hp,hs,_⟩:=zmp hab hb;subst hp;cases s with
 |nil=>
  have:b=p.length:=by simp at hs; omega
  subst this;rw [qii rfl (by simp)];simp [qej,jq,show p.length-(p.length+1)=0 by omega]
 |cons x u=>
  simp at hs;have hb':b=p.length+(1+u.length):=by omega
  subst hb';rw [qii rfl (by simp; omega)];have hl':LtK lt key (x::u):=hl.sub fun z hz=>ubq _ (ucg _ hz);obtain ⟨t,h1,h2,h3⟩:=za0 (d:=d) (p:=p) (q:=q) u [x] (by simpa using hl') (ue8 _ _);have e:t=jq lt (x::u):=qe4 hl' h2 (by simpa using h3);subst e;rw [← h1];simp [show p.length+(1+u.length)-(p.length+1)=u.length by omega]
def upS (d:α):Nat->Nat->List α->List α
 |0,_,l=>l
 |n+1,k,l=>upS d n (k+1) (qcd l d k (k+1))
def qk2 (d:α):Nat->Nat->List α->List α
 |0,_,l=>l
 |n+1,k,l=>qk2 d n (k-1) (qcd l d k (k-1))
theorem zz3 {x:α}:(s p q:List α)->upS d s.length p.length (p++(x::(s++q)))=p++(s++(x::q))
 |[],p,q=>by simp [upS]
 |y::s,p,q=>by
  simp only [uaf,upS,uaz];rw [zfw rfl];have:=zz3 (x:=x) s (p++[y]) q;simpa using this
theorem zje {x:α}:(n:Nat)->(s p q:List α)->s.length=n->qk2 d n (p.length+n) (p++(s++(x::q)))=p++(x::(s++q))
 |0,s,p,q,h=>by
  obtain rfl:=ucw.1 h;simp [qk2]
 |n+1,s,p,q,h=>by
  rcases zbx s with rfl|⟨s',y,rfl⟩
  ·simp at h
  ·have hn:s'.length=n:=by simpa using h
   rw [show p.length+(n+1)=(p.length+n)+1 by omega];simp only [qk2,ueu];have e1:p++((s'++[y])++(x::q))=(p++s')++(y::(x::q)):=by simp
   rw [e1,zfx (by simp [hn])];have:=zje (x:=x) n s' p (y::q) hn;simpa using this
def qaw (d:α):Nat->Nat->Nat->List α->List α
 |0,_,_,l=>l
 |n+1,a,b,l=>qaw d n (a+1) (b+1) (qcd l d a b)
theorem qtp:(x z y p q:List α)->x.length=z.length->∀ {b:Nat},b=p.length+x.length+y.length->qaw d x.length p.length b (p++(x++(y++(z++q))))=p++(z++(y++(x++q)))
 |[],z,y,p,q,h,b,hb=>by
  obtain rfl:=ucw.1 h.symm;simp [qaw]
 |u::x,[],y,p,q,h,b,hb=>by simp at h
 |u::x,v::z,y,p,q,h,b,hb=>by
  simp only [uaf,qaw,uaz];have e1:p++(u::(x++(y++(v::(z++q)))))=p++(u::((x++y)++(v::(z++q)))):=by simp
  rw [e1,zfv rfl (by simp at hb ⊢; omega)];have:=qtp x z (y++[u]) (p++[v]) q (by simpa using h) (b:=b+1) (by simp at hb ⊢; omega);simpa using this
def qb0 (d:α) (m:Nat):Nat->Nat->Nat->List α->Nat×List α
 |0,i,_,l=>(i,l)
 |f+1,i,j,l=>if i=j then (i,l) else if i>j then qb0 d m f (i-j) j (qaw d j (m-i) m l) else qb0 d m f i (j-i) (qaw d i (m-i) (m+j-i) l)
def qvr (d:α) (a m b:Nat) (l:List α):List α:=let r:=qb0 d m (b-a) (m-a) (b-m) l; qaw d r.1 (m-r.1) m r.2
theorem zds {m:Nat}:(f:Nat)->(x y p q:List α)->x.length+y.length<=f->0<x.length->0<y.length->m=p.length+x.length ->
  qaw d (qb0 d m f x.length y.length (p++(x++(y++q)))).1 (m-(qb0 d m f x.length y.length (p++(x++(y++q)))).1) m (qb0 d m f x.length y.length (p++(x++(y++q)))).2=p++(y++(x++q))
 |0,x,y,p,q,h,h1,_,_=>by omega
 |f+1,x,y,p,q,h,h1,h2,hm=>by
  simp only [qb0];split
  ·rename_i he;subst hm;have:=qtp (d:=d) x y [] p q he (b:=p.length+x.length) (by simp);simpa [show p.length+x.length-x.length=p.length by omega] using this
  ·split
   ·rename_i hne hgt;obtain ⟨x1,x2,rfl,hx1⟩:∃ x1 x2,x=x1++x2/\x1.length=y.length:=⟨x.take y.length,x.drop y.length,by simp,by simp; omega⟩;simp only [uas] at hm h hgt h1 ⊢;have e:=qtp (d:=d) x1 y x2 p q hx1 (b:=m) (by omega);have e0:m-(x1.length+x2.length)=p.length:=by omega
    rw [e0,← hx1];rw [show p++(x1++x2++(y++q))=p++(x1++(x2++(y++q))) by simp,e];have:=zds (m:=m) f x2 x1 (p++y) q (by omega) (by omega) (by omega) (by simp; omega);rw [show x1.length+x2.length-x1.length=x2.length by omega];simpa using this
   ·rename_i hne hgt;obtain ⟨y1,y2,rfl,hy2⟩:∃ y1 y2,y=y1++y2/\y2.length=x.length:=⟨y.take (y.length-x.length),y.drop (y.length-x.length),by simp,by simp; omega⟩;simp only [uas] at hm h hgt h2 hne ⊢;have e:=qtp (d:=d) x y2 y1 p q hy2.symm (b:=m+(y1.length+y2.length)-x.length) (by omega);have e0:m-x.length=p.length:=by omega
    rw [e0];rw [show p++(x++(y1++y2++q))=p++(x++(y1++(y2++q))) by simp,e];have:=zds (m:=m) f y2 y1 p (x++q) (by omega) (by omega) (by omega) (by omega);rw [show y1.length+y2.length-x.length=y1.length by omega,← hy2];simpa using this
theorem zqj {a m b:Nat} {x y p q:List α} (h1:0<x.length) (h2:0<y.length) (ha:a=p.length) (hm:m=a+x.length) (hb:b=m+y.length):qvr d a m b (p++(x++(y++q)))=p++(y++(x++q)):=by
 have:=zds (d:=d) (m:=m) (b-a) x y p q (by omega) h1 h2 (by omega);unfold qvr;rw [show m-a=x.length by omega,show b-m=y.length by omega];exact this
def bsG (Q:Nat->Bool):Nat->Nat->Nat->Nat
 |0,i,_=>i
 |f+1,i,j=>if i<j then bif Q ((i+j)/2) then bsG Q f ((i+j)/2+1) j else bsG Q f i ((i+j)/2) else i
theorem qny {Q:Nat->Bool}:(f i j:Nat)->j-i<=f->i<=j->(∀ u v,i<=u->u<=v->v<j->Q v=true->Q u=true) ->
  i<=bsG Q f i j/\bsG Q f i j<=j/\(∀ k,i<=k->k<bsG Q f i j->Q k=true)/\(∀ k,bsG Q f i j<=k->k<j->Q k=false)
 |0,i,j,h,hij,_=>by
  simp only [bsG];exact ⟨ua3 _,hij,fun k h1 h2=>by omega,fun k h1 h2=>by omega⟩
 |f+1,i,j,h,hij,hmono=>by
  simp only [bsG];by_cases hlt:i<j
  ·rw [if_pos hlt];cases hq:Q ((i+j)/2) with
   |true=>
    simp only [ue4];obtain ⟨a1,a2,a3,a4⟩:=qny (Q:=Q) f ((i+j)/2+1) j (by omega) (by omega) (fun u v hu huv hv=>hmono u v (by omega) huv hv);refine ⟨by omega,a2,fun k h1 h2=>?_,a4⟩;by_cases hk:k<=(i+j)/2
    ·exact hmono k _ h1 hk (by omega) hq
    ·exact a3 k (by omega) h2
   |false=>
    simp only [cond_false];obtain ⟨a1,a2,a3,a4⟩:=qny (Q:=Q) f i ((i+j)/2) (by omega) (by omega) (fun u v hu huv hv=>hmono u v hu huv (by omega));refine ⟨a1,by omega,a3,fun k h1 h2=>?_⟩;by_cases hk:k<(i+j)/2
    ·exact a4 k h1 hk
    ·cases hqk:Q k with
     |false=>rfl
     |true=>rw [hmono _ k (by omega) (by omega) h2 hqk] at hq; cases hq
  ·rw [if_neg hlt];exact ⟨ua3 _,hij,fun k h1 h2=>by omega,fun k h1 h2=>by omega⟩
end
end Go.Ab

namespace Go.Ab
section
variable {α:Type} {key:α->Int} {d:α}
def seg (a b:Nat) (l:List α):List α:=(l.take b).drop a
theorem qol {p s q:List α} {a b:Nat} (ha:p.length=a) (hb:a+s.length=b):seg a b (p++(s++q))=s:=by
 subst ha hb;unfold seg;have h1:(p++(s++q)).take (p.length+s.length)=p++s:=by rw [← List.append_assoc]; exact List.take_left' (by simp)
 rw [h1,ugc rfl]
theorem zfr {l:List α} {a m b:Nat} (h1:a<=m) (h2:m<=b) (h3:b<=l.length):∃ p q,l=p++(seg a m l++(seg m b l++q))/\p.length=a/\(seg a m l).length=m-a/\(seg m b l).length=b-m/\q.length=l.length-b:=by
 obtain ⟨p,s,q,rfl,hp,hs,hq⟩:=zmp (ual h1 h2) h3;obtain ⟨x,y,rfl,hx⟩:∃ x y,s=x++y/\x.length=m-a:=⟨s.take (m-a),s.drop (m-a),by simp,by simp; omega⟩;have hy:y.length=b-m:=by simp at hs; omega
 have e1:seg a m (p++(x++y++q))=x:=by
  rw [ubf];exact qol hp (by omega)
 have e2:seg m b (p++(x++y++q))=y:=by
  rw [show p++(x++y++q)=(p++x)++(y++q) by simp];exact qol (by simp; omega) (by omega)
 rw [e1,e2];exact ⟨p,q,by simp,hp,hx,hy,by omega⟩
theorem qc9 {lt:α->α->Bool} {a b:Nat} {l:List α} (h1:a<=b) (h2:b<=l.length):(zj lt a b l).length=l.length:=by
 unfold zj;simp [qaq];omega
theorem zby {lt:α->α->Bool} {l:List α} (h:LtK lt key l) (hs:yj key l):jq lt l=l:=(qe4 h hs (zd.refl l)).symm
theorem qta {lt:α->α->Bool} {a b:Nat} {l:List α} (hab:a<=b) (hb:b<=l.length) (hl:LtK lt key l):zd key l (zj lt a b l):=by
 obtain ⟨p,s,q,rfl,hp,hs,_⟩:=zmp hab hb;rw [qii hp (by simp; omega)];have h:=(qcs (l:=s) (hl.sub fun z hz=>ubq _ (ucg _ hz))).2;exact (zd.refl p).app (h.app (zd.refl q))
def qbp (lt:α->α->Bool) (d:α) (a m b:Nat) (l:List α):Nat:=
 bsG (fun c=>!lt (l.getD ((a+b)/2+m-1-c) d) (l.getD c d)) ((if (a+b)/2<m then (a+b)/2 else m)-(if (a+b)/2<m then (a+b)/2+m-b else a)) (if (a+b)/2<m then (a+b)/2+m-b else a) (if (a+b)/2<m then (a+b)/2 else m)
def xo (d:α) (m st en:Nat) (l:List α):List α:=if st<m/\m<en then qvr d st m en l else l
def qv7 (lt:α->α->Bool) (d:α) (a m b:Nat) (l:List α):List α:=
 if m-a=1 then upS d (bsG (fun h=>lt (l.getD h d) (l.getD a d)) (b-m) m b-1-a) a l
 else if b-m=1 then qk2 d (m-bsG (fun h=>!lt (l.getD m d) (l.getD h d)) (m-a) a m) m l
 else
  let st:=qbp lt d a m b l
  let mid:=(a+b)/2
  let en:=mid+m-st
  let l1:=xo d m st en l
  let l2:=if a<st/\st<mid then zj lt a mid l1 else l1
  if mid<en/\en<b then zj lt mid b l2 else l2
theorem qlx {l:List α} {i j:Nat} (hs:yj key l) (hij:i<=j) (hj:j<l.length):key (l.getD i d)<=key (l.getD j d):=by
 rcases uar i j with h|h
 ·have:=udp.1 hs i j (by omega) hj h;simpa [ua6,ua7 hj,ua7 (show i<l.length by omega)] using this
 ·have:i=j:=by omega
  subst this;exact ua4 _
theorem vu {l:List α} {i:Nat} (h:i<l.length):l.getD i d∈l:=by
 simp [ua6,ua7 h]
theorem qo9 {l:List α} {x:α} (h:x∈l):∃ i,i<l.length/\l.getD i d=x:=by
 obtain ⟨i,hi,rfl⟩:=List.getElem_of_mem h;exact ⟨i,hi,by simp [ua6,ua7 hi]⟩
theorem zfy {lt:α->α->Bool} {a m b:Nat} {p A B q:List α} (hp:p.length=a) (hA:A.length=m-a) (hB:B.length=b-m) (h1:a<m) (h2:m<b)
  (hl:LtK lt key (A++B)) (sA:yj key A) (sB:yj key B) :
  ∃ A1 A2 B1 B2,A=A1++A2/\B=B1++B2/\a+A1.length=qbp lt d a m b (p++(A++(B++q)))/\m+B1.length+qbp lt d a m b (p++(A++(B++q)))=(a+b)/2+m /\
   (∀ x∈A1,∀ y∈B2,key x<=key y)/\(∀ y∈B1,∀ x∈A2,key y<key x):=by
 have gA:∀ i,i<A.length->(p++(A++(B++q))).getD (a+i) d=A.getD i d:=fun i hi=>by rw [← hp]; exact qsp hi
 have gB:∀ i,i<B.length->(p++(A++(B++q))).getD (m+i) d=B.getD i d:=fun i hi=>by
  rw [show p++(A++(B++q))=(p++A)++(B++q) by simp,show m=(p++A).length by simp; omega];exact qsp hi
 generalize hL:p++(A++(B++q))=L at gA gB ⊢;have hQ:∀ c,a<=c->c<m->m<=(a+b)/2+m-1-c->(a+b)/2+m-1-c<b ->
   (!lt (L.getD ((a+b)/2+m-1-c) d) (L.getD c d))=decide (key (A.getD (c-a) d)<=key (B.getD ((a+b)/2+m-1-c-m) d)):=fun c c1 c2 c3 c4=>by
  have e1:=gA (c-a) (by omega);have e2:=gB ((a+b)/2+m-1-c-m) (by omega);rw [show a+(c-a)=c by omega] at e1;rw [show m+((a+b)/2+m-1-c-m)=(a+b)/2+m-1-c by omega] at e2;rw [e1,e2,hl _ (ubq _ (vu (by omega))) _ (ucg _ (vu (by omega)))];rw [uau];simp
 generalize hs0:(if (a+b)/2<m then (a+b)/2+m-b else a)=s0;generalize hr0:(if (a+b)/2<m then (a+b)/2 else m)=r0;have b1:a<=s0/\s0<=r0/\r0<=m/\r0<=(a+b)/2/\(a+b)/2+m<=b+s0/\(s0=a∨s0+b=(a+b)/2+m)/\(r0=m∨r0=(a+b)/2):=by
  subst hs0 hr0;split<;>omega
 obtain ⟨c1,c2,c3,c4,c5,c6,c7⟩:=b1;obtain ⟨r1,r2,r3,r4⟩:=qny (Q:=fun c=>!lt (L.getD ((a+b)/2+m-1-c) d) (L.getD c d)) (r0-s0) s0 r0 (ua3 _) c2 (fun u v hu huv hv h=>by
  rw [hQ v (by omega) (by omega) (by omega) (by omega)] at h;rw [hQ u (by omega) (by omega) (by omega) (by omega)];simp only [uab] at h ⊢;have k1:=qlx (d:=d) sA (i:=u-a) (j:=v-a) (by omega) (by omega);have k2:=qlx (d:=d) sB (i:=(a+b)/2+m-1-v-m) (j:=(a+b)/2+m-1-u-m) (by omega) (by omega);omega)
 have hS:qbp lt d a m b L=bsG (fun c=>!lt (L.getD ((a+b)/2+m-1-c) d) (L.getD c d)) (r0-s0) s0 r0:=by
  unfold qbp;rw [hs0,hr0]
 rw [hS];generalize bsG (fun c=>!lt (L.getD ((a+b)/2+m-1-c) d) (L.getD c d)) (r0-s0) s0 r0=st at r1 r2 r3 r4 ⊢;refine ⟨A.take (st-a),A.drop (st-a),B.take ((a+b)/2-st),B.drop ((a+b)/2-st),by simp,by simp,?_,?_,?_,?_⟩
 ·simp; omega
 ·simp; omega
 ·intro x hx y hy;obtain ⟨i,hi,rfl⟩:=qo9 (d:=d) hx;obtain ⟨j,hj,rfl⟩:=qo9 (d:=d) hy;simp at hi hj;have e1:(A.take (st-a)).getD i d=A.getD i d:=by simp [ua6,show i<st-a by omega]
  have e2:(B.drop ((a+b)/2-st)).getD j d=B.getD ((a+b)/2-st+j) d:=by simp [ua6]
  rw [e1,e2];have hq:=r3 (st-1) (by omega) (by omega);rw [hQ (st-1) (by omega) (by omega) (by omega) (by omega)] at hq;simp only [uab] at hq;have k1:=qlx (d:=d) sA (i:=i) (j:=st-1-a) (by omega) (by omega);have k2:=qlx (d:=d) sB (i:=(a+b)/2+m-1-(st-1)-m) (j:=(a+b)/2-st+j) (by omega) (by omega);omega
 ·intro y hy x hx;obtain ⟨i,hi,rfl⟩:=qo9 (d:=d) hx;obtain ⟨j,hj,rfl⟩:=qo9 (d:=d) hy;simp at hi hj;have e1:(A.drop (st-a)).getD i d=A.getD (st-a+i) d:=by simp [ua6]
  have e2:(B.take ((a+b)/2-st)).getD j d=B.getD j d:=by simp [ua6,show j<(a+b)/2-st by omega]
  rw [e1,e2];have hq:=r4 st (ua3 _) (by omega);rw [hQ st (by omega) (by omega) (by omega) (by omega)] at hq;simp only [ubi] at hq;have k1:=qlx (d:=d) sA (i:=st-a) (j:=st-a+i) (by omega) (by omega);have k2:=qlx (d:=d) sB (i:=j) (j:=(a+b)/2+m-1-st-m) (by omega) (by omega);omega
theorem ye0 {lt:α->α->Bool} {A1 A2 B1 B2:List α} (hl:LtK lt key ((A1++A2)++(B1++B2))) (sA:yj key (A1++A2)) (sB:yj key (B1++B2)) (h1:∀ x∈A1,∀ y∈B2,key x<=key y) (h2:∀ y∈B1,∀ x∈A2,key y<key x) :
  jq lt (A1++B1)++jq lt (A2++B2)=jq lt ((A1++A2)++(B1++B2)):=by
 have l1:LtK lt key (A1++B1):=hl.sub fun z hz=>by simp at hz ⊢; rcases hz with h|h<;>simp [h]
 have l2:LtK lt key (A2++B2):=hl.sub fun z hz=>by simp at hz ⊢; rcases hz with h|h<;>simp [h]
 obtain ⟨s1,k1⟩:=qcs l1;obtain ⟨s2,k2⟩:=qcs l2;have pA:=uc0.1 sA;have pB:=uc0.1 sB;refine qe4 hl (uc0.2 ⟨s1,s2,fun x hx y hy=>?_⟩) ?_
 ·rw [qpw] at hx hy;rcases ubc.1 hx with hx|hx<;>rcases ubc.1 hy with hy|hy
  ·exact pA.2.2 x hx y hy
  ·exact h1 x hx y hy
  ·exact ubs (h2 x hx y hy)
  ·exact pB.2.2 x hx y hy
 ·have e1:zd key (A1++(A2++B1)++B2) (A1++(B1++A2)++B2):=((zd.refl A1).app (zd.swap fun x hx y hy=>by have:=h2 y hy x hx; omega)).app (zd.refl B2);have e2:=k1.app k2;have e1':zd key ((A1++A2)++(B1++B2)) ((A1++B1)++(A2++B2)):=by simpa using e1
  exact e1'.trans e2
theorem yk9 {lt:α->α->Bool} {a m b:Nat} {p A B q:List α} (hp:p.length=a) (hA:A.length=m-a) (hB:B.length=b-m) (h1:a<m) (h2:m<b)
  (hl:LtK lt key (A++B)) (sA:yj key A) (sB:yj key B):qv7 lt d a m b (p++(A++(B++q)))=p++(jq lt (A++B)++q):=by
 unfold qv7;split
 ·
  rename_i hm;cases A with
  |nil=>simp at hA; omega
  |cons x A=>
   obtain rfl:A=[]:=by simp at hA; exact ucw.1 (by omega)
   have gx:(p++([x]++(B++q))).getD a d=x:=by subst hp; simp [ua6]
   have gB:∀ i,i<B.length->(p++([x]++(B++q))).getD (m+i) d=B.getD i d:=fun i hi=>by
    rw [show p++([x]++(B++q))=(p++[x])++(B++q) by simp,show m=(p++[x]).length by simp; omega];exact qsp hi
   have hQ:∀ k,m<=k->k<b->lt ((p++([x]++(B++q))).getD k d) ((p++([x]++(B++q))).getD a d)=decide (key (B.getD (k-m) d)<key x):=fun k k1 k2=>by
    have:=gB (k-m) (by omega);rw [show m+(k-m)=k by omega] at this;rw [this,gx];exact hl _ (ubq _ (vu (by omega))) _ (by simp)
   obtain ⟨r1,r2,r3,r4⟩:=qny (Q:=fun h=>lt ((p++([x]++(B++q))).getD h d) ((p++([x]++(B++q))).getD a d)) (b-m) m b (ua3 _) (by omega) (fun u v hu huv hv h=>by
    rw [hQ v (by omega) hv] at h;rw [hQ u hu (by omega)];simp only [uab] at h ⊢;have:=qlx (d:=d) sB (i:=u-m) (j:=v-m) (by omega) (by omega);omega)
   generalize bsG (fun h=>lt ((p++([x]++(B++q))).getD h d) ((p++([x]++(B++q))).getD a d)) (b-m) m b=r at r1 r2 r3 r4 ⊢;obtain ⟨B1,B2,rfl,hB1⟩:∃ B1 B2,B=B1++B2/\B1.length=r-m:=⟨B.take (r-m),B.drop (r-m),by simp,by simp; omega⟩;have hB':B1.length+B2.length=b-m:=by simpa using hB
   have f1:∀ y∈B1,key y<key x:=fun y hy=>by
    obtain ⟨j,hj,rfl⟩:=qo9 (d:=d) hy;have:=r3 (m+j) (by omega) (by omega);rw [hQ (m+j) (by omega) (by omega)] at this;simp only [uab,udn] at this
    rwa [show (B1++B2).getD j d=B1.getD j d by simp [ua6,uc3 hj]] at this
   have f2:∀ y∈B2,key x<=key y:=fun y hy=>by
    obtain ⟨j,hj,rfl⟩:=qo9 (d:=d) hy;have:=r4 (r+j) (by omega) (by omega);rw [hQ (r+j) (by omega) (by omega)] at this;simp only [ubi] at this;rw [show (B1++B2).getD (r+j-m) d=B2.getD j d by
     simp only [ua6];rw [ubr (by omega),show r+j-m-B1.length=j by omega]] at this
    omega
   rw [show r-1-a=B1.length by omega];have hup:=zz3 (d:=d) (x:=x) B1 p (B2++q);rw [hp] at hup;have e0:p++([x]++(B1++B2++q))=p++(x::(B1++(B2++q))):=by simp
   rw [e0,hup];have pB:=uc0.1 sB;have hS:B1++(x::B2)=jq lt ([x]++(B1++B2)):=by
    refine qe4 hl (uc0.2 ⟨pB.1,ub2.2 ⟨fun y hy=>f2 y hy,pB.2.1⟩,fun y hy z hz=>?_⟩) ?_
    ·rcases ua2.1 hz with rfl|hz
     ·exact ubs (f1 y hy)
     ·exact pB.2.2 y hy z hz
    ·have e1:zd key (([x]++B1)++B2) ((B1++[x])++B2):=(zd.swap fun u hu y hy=>by simp at hu; subst hu; have:=f1 y hy; omega).app (zd.refl B2);simpa using e1
   rw [← hS];simp
 ·split
  ·
   rename_i _ hm;cases B with
   |nil=>simp at hB; omega
   |cons x B=>
    obtain rfl:B=[]:=by simp at hB; exact ucw.1 (by omega)
    have gx:(p++(A++([x]++q))).getD m d=x:=by
     rw [show p++(A++([x]++q))=(p++A)++(x::q) by simp,show m=(p++A).length by simp; omega];simp only [ua6];rw [ubr (ua3 _)];simp
    have gA:∀ i,i<A.length->(p++(A++([x]++q))).getD (a+i) d=A.getD i d:=fun i hi=>by rw [← hp]; exact qsp hi
    have hQ:∀ k,a<=k->k<m->(!lt ((p++(A++([x]++q))).getD m d) ((p++(A++([x]++q))).getD k d))=decide (key (A.getD (k-a) d)<=key x):=fun k k1 k2=>by
     have:=gA (k-a) (by omega);rw [show a+(k-a)=k by omega] at this;rw [this,gx,hl _ (ubq _ (by simp)) _ (ucg _ (vu (by omega))),uau];simp
    obtain ⟨r1,r2,r3,r4⟩:=qny (Q:=fun h=>!lt ((p++(A++([x]++q))).getD m d) ((p++(A++([x]++q))).getD h d)) (m-a) a m (ua3 _) (by omega) (fun u v hu huv hv h=>by
     rw [hQ v (by omega) hv] at h;rw [hQ u hu (by omega)];simp only [uab] at h ⊢;have:=qlx (d:=d) sA (i:=u-a) (j:=v-a) (by omega) (by omega);omega)
    generalize bsG (fun h=>!lt ((p++(A++([x]++q))).getD m d) ((p++(A++([x]++q))).getD h d)) (m-a) a m=r at r1 r2 r3 r4 ⊢;obtain ⟨A1,A2,rfl,hA1⟩:∃ A1 A2,A=A1++A2/\A1.length=r-a:=⟨A.take (r-a),A.drop (r-a),by simp,by simp; omega⟩;have hA':A1.length+A2.length=m-a:=by simpa using hA
    have f1:∀ y∈A1,key y<=key x:=fun y hy=>by
     obtain ⟨j,hj,rfl⟩:=qo9 (d:=d) hy;have:=r3 (a+j) (by omega) (by omega);rw [hQ (a+j) (by omega) (by omega)] at this;simp only [uab,udn] at this
     rwa [show (A1++A2).getD j d=A1.getD j d by simp [ua6,uc3 hj]] at this
    have f2:∀ y∈A2,key x<key y:=fun y hy=>by
     obtain ⟨j,hj,rfl⟩:=qo9 (d:=d) hy;have:=r4 (r+j) (by omega) (by omega);rw [hQ (r+j) (by omega) (by omega)] at this;simp only [ubi] at this;rw [show (A1++A2).getD (r+j-a) d=A2.getD j d by
      simp only [ua6];rw [ubr (by omega),show r+j-a-A1.length=j by omega]] at this
     omega
    have hdn:=zje (d:=d) (x:=x) A2.length A2 (p++A1) q rfl;have e0:p++(A1++A2++([x]++q))=(p++A1)++(A2++(x::q)):=by simp
    have e1:m=(p++A1).length+A2.length:=by simp; omega
    rw [e0,show m-r=A2.length by omega];rw [← e1] at hdn;rw [hdn];have pA:=uc0.1 sA;have hS:A1++(x::A2)=jq lt ((A1++A2)++[x]):=by
     refine qe4 hl (uc0.2 ⟨pA.1,ub2.2 ⟨fun y hy=>ubs (f2 y hy),pA.2.1⟩,fun y hy z hz=>?_⟩) ?_
     ·rcases ua2.1 hz with rfl|hz
      ·exact f1 y hy
      ·exact pA.2.2 y hy z hz
     ·have e1:zd key (A1++(A2++[x])) (A1++([x]++A2)):=(zd.refl A1).app (zd.swap fun u hu y hy=>by simp at hy; subst hy; have:=f2 u hu; omega);simpa using e1
    rw [← hS];simp
  ·
   obtain ⟨A1,A2,B1,B2,rfl,rfl,e1,e2,f1,f2⟩:=zfy (d:=d) (q:=q) hp hA hB h1 h2 hl sA sB;simp only;generalize qbp lt d a m b (p++(A1++A2++(B1++B2++q)))=st at e1 e2 ⊢;simp only [uas] at hA hB;have hen:(a+b)/2+m-st=m+B1.length:=by omega
   rw [hen];have hR:xo d m st (m+B1.length) (p++(A1++A2++(B1++B2++q)))=p++(A1++B1++(A2++B2++q)):=by
    unfold xo;split
    ·rename_i hc;have:=zqj (d:=d) (a:=st) (m:=m) (b:=m+B1.length) (x:=A2) (y:=B1) (p:=p++A1) (q:=B2++q) (by omega) (by omega) (by simp; omega) (by omega) rfl;simpa using this
    ·rename_i hc;by_cases hb1:B1=[]
     ·subst hb1; simp
     ·have:=ufh.2 hb1;have:A2=[]:=ucw.1 (by omega);subst this; simp
   rw [hR];have l1:LtK lt key (A1++B1):=hl.sub fun z hz=>by simp at hz ⊢; rcases hz with h|h<;>simp [h]
   have l2:LtK lt key (A2++B2):=hl.sub fun z hz=>by simp at hz ⊢; rcases hz with h|h<;>simp [h]
   have pA:=uc0.1 sA;have pB:=uc0.1 sB;have hmid:(a+b)/2=a+(A1.length+B1.length):=by omega
   have hL:(if a<st/\st<(a+b)/2 then zj lt a ((a+b)/2) (p++(A1++B1++(A2++B2++q))) else p++(A1++B1++(A2++B2++q)))=p++(jq lt (A1++B1)++(A2++B2++q)):=by
    split
    ·exact qii hp (by simp; omega)
    ·rename_i hc;have:jq lt (A1++B1)=A1++B1:=by
      refine zby l1 ?_;by_cases ha1:A1=[]
      ·subst ha1; simpa [yj] using pB.1
      ·have:=ufh.2 ha1;have:B1=[]:=ucw.1 (by omega);subst this;simpa [yj] using pA.1
     rw [this]
   rw [hL];have hRt:(if (a+b)/2<m+B1.length/\m+B1.length<b then zj lt ((a+b)/2) b (p++(jq lt (A1++B1)++(A2++B2++q))) else p++(jq lt (A1++B1)++(A2++B2++q)))=p++(jq lt (A1++B1)++(jq lt (A2++B2)++q)):=by
    split
    ·have:=qii (lt:=lt) (a:=(a+b)/2) (b:=b) (p:=p++jq lt (A1++B1)) (s:=A2++B2) (q:=q) (by simp [qaq]; omega) (by simp [qaq]; omega);simpa using this
    ·rename_i hc;have:jq lt (A2++B2)=A2++B2:=by
      refine zby l2 ?_;by_cases ha1:A2=[]
      ·subst ha1; simpa [yj] using pB.2.1
      ·have:=ufh.2 ha1;have:B2=[]:=ucw.1 (by omega);subst this;simpa [yj] using pA.2.1
     rw [this]
   rw [hRt,← ye0 hl sA sB f1 f2];simp
end
end Go.Ab

namespace Go.Ab
section
variable {α:Type} {key:α->Int}
theorem zbs {lt:α->α->Bool} {a b a' b':Nat} {l:List α} (h1:b'<=a) (h2:a<=l.length):seg a' b' (zj lt a b l)=seg a' b' l:=by
 unfold seg zj;rw [List.take_append_of_le_length (by simp; omega),List.take_take,Nat.min_eq_left h1]
theorem zbt {a b:Nat} {l:List α}:(seg a b l).length=min b l.length-a:=by simp [seg]
theorem zmg {lt:α->α->Bool} {a b:Nat} {l:List α} (h1:a<=b) (h2:b<=l.length):seg a b (zj lt a b l)=jq lt (seg a b l):=by
 unfold zj;exact qol (by simp; omega) (by rw [qaq]; simp; omega)
theorem qz3 {lt:α->α->Bool} {a b c:Nat} {l:List α} (h1:a<=b) (h2:b<=l.length) (h3:b<=c):(zj lt a b l).drop c=l.drop c:=by
 unfold zj;rw [← List.append_assoc,List.drop_append,List.drop_eq_nil_of_le (by simp [qaq]; omega)];simp [qaq];congr 1;omega
theorem qlg {a b c:Nat} {l s:List α} (h:l.drop c=s.drop c) (hc:c<=a):seg a b l=seg a b s:=by
 unfold seg;rw [List.drop_take,List.drop_take];have:∀ t:List α,t.drop a=(t.drop c).drop (a-c):=fun t=>by rw [List.drop_drop]; congr 1; omega
 rw [this l,this s,h]
def zhs (key:α->Int) (w:Nat) (l:List α):Prop:=∀ k,yj key (seg (k*w) (k*w+w) l)
def qc3 (lt:α->α->Bool) (w n:Nat):Nat->Nat->List α->Nat×List α
 |0,a,l=>(a,l)
 |f+1,a,l=>if a+w<=n then qc3 lt w n f (a+w) (zj lt a (a+w) l) else (a,l)
structure BlkW (key:α->Int) (w n:Nat) (l:List α) (r:Nat×List α):Prop where
 mul:∃ c,r.1=c*w
 le:r.1<=n
 lt:n<r.1+w
 len:r.2.length=n
 same:zd key l r.2
 drop:r.2.drop r.1=l.drop r.1
 done:∀ k,k*w+w<=r.1->yj key (seg (k*w) (k*w+w) r.2)
theorem qll {lt:α->α->Bool} {w n:Nat} (hw:0<w):(f a:Nat)->(l:List α)->n<f+a->a<=n->l.length=n->(∃ c,a=c*w)->LtK lt key l->(∀ k,k*w+w<=a->yj key (seg (k*w) (k*w+w) l)) ->
  BlkW key w n l (qc3 lt w n f a l)
 |0,a,l,h,ha,_,_,_,_=>by omega
 |f+1,a,l,h,ha,hn,⟨c,hc⟩,hl,hd=>by
  simp only [qc3];split
  ·rename_i hle;have hsame:=qta (key:=key) (lt:=lt) (a:=a) (b:=a+w) (by omega) (by omega) hl;have hseg:yj key (seg a (a+w) (zj lt a (a+w) l)):=by
    rw [zmg (by omega) (by omega)];refine (qcs (hl.sub fun z hz=>?_)).1;exact uep (ucm hz)
   have r:=qll hw f (a+w) (zj lt a (a+w) l) (by omega) hle (by rw [qc9 (by omega) (by omega)]; exact hn) ⟨c+1,by rw [hc,uay]⟩ (hl.sub fun z hz=>hsame.mem.1 hz) (fun k hk=>by
    rcases udm k c with h|h|h
    ·have h1:(k+1)*w<=c*w:=uam _ h;rw [uay] at h1;rw [zbs (by omega) (by omega)];exact hd k (by omega)
    ·subst h;rw [← hc];exact hseg
    ·have h1:(c+1)*w<=k*w:=uam _ h;rw [uay] at h1;omega)
   refine ⟨r.mul,r.le,r.lt,r.len,hsame.trans r.same,?_,r.done⟩;rw [r.drop];obtain ⟨c',hc'⟩:=r.mul;have:a+w<=(qc3 lt w n f (a+w) (zj lt a (a+w) l)).1:=by
    clear r hc' c';have:∀ (f a:Nat) (l:List α),a<=(qc3 lt w n f a l).1:=by
     intro f
     induction f with
     |zero=>intro a l; exact ua3 _
     |succ f ih=>
      intro a l;simp only [qc3];split
      ·exact ual (by omega) (ih _ _)
      ·exact ua3 _
    exact this _ _ _
   exact qz3 (by omega) (by omega) this
  ·exact ⟨⟨c,hc⟩,ha,by omega,hn,zd.refl _,rfl,fun k hk=>hd k hk⟩
theorem BlkW.last {lt:α->α->Bool} {w n:Nat} {l:List α} {r:Nat×List α} (h:BlkW key w n l r) (hl:LtK lt key l):zhs key w (zj lt r.1 n r.2)/\zd key l (zj lt r.1 n r.2)/\(zj lt r.1 n r.2).length=n:=by
 have hlen:=h.len;have hl2:LtK lt key r.2:=hl.sub fun z hz=>h.same.mem.1 hz;refine ⟨fun k=>?_,h.same.trans (qta h.le (by omega) hl2),by rw [qc9 h.le (by omega)]; exact hlen⟩;obtain ⟨c,hc⟩:=h.mul;have hle:=h.le;have hlt:=h.lt;rcases udm k c with hk|hk|hk
 ·have h1:(k+1)*w<=c*w:=uam _ hk;rw [uay] at h1;rw [zbs (by omega) (by omega)];exact h.done k (by omega)
 ·subst hk;rw [← hc];have:seg r.1 (r.1+w) (zj lt r.1 n r.2)=seg r.1 n (zj lt r.1 n r.2):=by
   have e:=qc9 (lt:=lt) h.le (Nat.le_of_eq hlen.symm);unfold seg;rw [List.take_of_length_le (by omega),List.take_of_length_le (by omega)]
  rw [this,zmg h.le (by omega)];exact (qcs (hl2.sub fun z hz=>uep (ucm hz))).1
 ·have h1:(c+1)*w<=k*w:=uam _ hk;rw [uay] at h1;have:seg (k*w) (k*w+w) (zj lt r.1 n r.2)=[]:=by
   have e:=qc9 (lt:=lt) h.le (Nat.le_of_eq hlen.symm);apply ucr;rw [zbt];omega
  rw [this];exact List.Pairwise.nil
def qh4 (lt:α->α->Bool) (w n:Nat) (l:List α):List α:=
 let r:=qc3 lt (2*w) n (n+1) 0 l
 if r.1+w<n then zj lt r.1 n r.2 else r.2
theorem zbf {lt:α->α->Bool} {w n:Nat} {l:List α} (hw:0<w) (hn:l.length=n) (hl:LtK lt key l) (hb:zhs key w l) :
  zhs key (2*w) (qh4 lt w n l)/\zd key l (qh4 lt w n l)/\(qh4 lt w n l).length=n:=by
 have r:=qll (key:=key) (lt:=lt) (w:=2*w) (n:=n) (by omega) (n+1) 0 l (by omega) (by omega) hn ⟨0,by simp⟩ hl (fun k hk=>by omega);unfold qh4;generalize qc3 lt (2*w) n (n+1) 0 l=r0 at r ⊢;simp only;split
 ·exact r.last hl
 ·rename_i hc;refine ⟨fun k=>?_,r.same,r.len⟩;obtain ⟨c,hcc⟩:=r.mul;have hle:=r.le;have hlt:=r.lt;have hlen:=r.len;rcases udm k c with hk|hk|hk
  ·have h1:(k+1)*(2*w)<=c*(2*w):=uam _ hk;rw [uay] at h1;exact r.done k (by omega)
  ·subst hk;have h1:k*(2*w)=(2*k)*w:=by rw [ud5 2 k,ueq]
   have h2:seg (k*(2*w)) (k*(2*w)+2*w) r0.2=seg ((2*k)*w) ((2*k)*w+w) r0.2:=by
    rw [← h1];unfold seg;rw [List.take_of_length_le (by omega),List.take_of_length_le (by omega)]
   rw [h2,qlg (c:=r0.1) r.drop (by omega)];exact hb (2*k)
  ·have h1:(c+1)*(2*w)<=k*(2*w):=uam _ hk;rw [uay] at h1;have:seg (k*(2*w)) (k*(2*w)+2*w) r0.2=[]:=by
    apply ucr;rw [zbt];omega
   rw [this];exact List.Pairwise.nil
def xm (lt:α->α->Bool) (n:Nat):Nat->Nat->List α->List α
 |0,_,l=>l
 |f+1,w,l=>if w<n then xm lt n f (2*w) (qh4 lt w n l) else l
theorem qx3 {lt:α->α->Bool} {n:Nat}:(f w:Nat)->(l:List α)->0<w->n<=f+w->l.length=n->LtK lt key l->zhs key w l->xm lt n f w l=jq lt l
 |0,w,l,hw,hf,hn,hl,hb=>by
  simp only [xm];refine qe4 hl ?_ (zd.refl l);have:=hb 0;unfold seg at this;simpa [List.take_of_length_le (show l.length<=w by omega)] using this
 |f+1,w,l,hw,hf,hn,hl,hb=>by
  simp only [xm];split
  ·obtain ⟨h1,h2,h3⟩:=zbf hw hn hl hb;rw [qx3 f (2*w) _ (by omega) (by omega) h3 (hl.sub fun z hz=>h2.mem.1 hz) h1];obtain ⟨k1,k2⟩:=qcs (l:=qh4 lt w n l) (hl.sub fun z hz=>h2.mem.1 hz);exact qe4 hl k1 (h2.trans k2)
  ·refine qe4 hl ?_ (zd.refl l);have:=hb 0;unfold seg at this;simpa [List.take_of_length_le (show l.length<=w by omega)] using this
def zdz (lt:α->α->Bool) (l:List α):List α:=
 let r:=qc3 lt 20 l.length (l.length+1) 0 l
 xm lt l.length l.length 20 (zj lt r.1 l.length r.2)
theorem zu6 {lt:α->α->Bool} {l:List α} (hl:LtK lt key l):zdz lt l=jq lt l:=by
 have r:=qll (key:=key) (lt:=lt) (w:=20) (n:=l.length) (by omega) (l.length+1) 0 l (by omega) (by omega) rfl ⟨0,by simp⟩ hl (fun k hk=>by omega);unfold zdz;obtain ⟨h1,h2,h3⟩:=r.last hl;simp only;rw [qx3 _ 20 _ (by omega) (by omega) h3 (hl.sub fun z hz=>h2.mem.1 hz) h1];obtain ⟨k1,k2⟩:=qcs (hl.sub fun z hz=>h2.mem.1 hz);exact qe4 hl k1 (h2.trans k2)
end
end Go.Ab

namespace Go.Ab
open Go Go.RowKit
def Tr.jn (l:Nat):Tr->Tr
 |.leaf (.jump i) s=>if i=l then .leaf .normal s else .need False (.leaf .ret s)
 |.leaf .normal s=>.need False (.leaf .ret s)
 |.leaf e s=>.leaf e s
 |.br b x y=>.br b (x.jn l) (y.jn l)
 |.need p x=>.need p (x.jn l)
 |.two p x y=>.two p (x.jn l) (y.jn l)
theorem Tr.sat_jn {l:Nat} {Q:XE->St->Prop}:{t:Tr}->(t.jn l).sat Q->t.sat fun e s=>match e with
  |.jump i=>i=l/\Q .normal s
  |.normal=>False
  |e=>Q e s
 |.leaf e s,hq=>by
  cases e with
  |normal=>exact hq.1
  |exit i=>exact hq
  |ret=>exact hq
  |panic p=>exact hq
  |val v=>exact hq
  |jump i=>
   simp only [Tr.jn] at hq;split at hq
   ·rename_i h;exact ⟨h,hq⟩
   ·exact hq.1.elim
 |.br b x y,hq=>⟨fun hb=>Tr.sat_jn (hq.1 hb),fun hb=>Tr.sat_jn (hq.2 hb)⟩
 |.need p x,hq=>⟨hq.1,Tr.sat_jn hq.2⟩
 |.two p x y,hq=>⟨fun hb=>Tr.sat_jn (hq.1 hb),Tr.sat_jn hq.2⟩
def ylp (P:Program) (E:Env) (l:Nat) (p:Pt) (Q:p.Out->Prop) (e:Exit) (a:Act) (w:World):Prop:=
 ∃ r,Q r/\match r with
  |.next m=>e = .goto l/\I P E (p.M.tpl p.n m) a w
  |.out y=>e = .exit p.id/\I P E (p.E.tpl p.n y) a w
  |.back z=>e = .ret/\I P E (p.R.tpl p.n z) a w
  |.pan v=>e = .panic [{ v:=v.val,recovered:=false }]/\∃ s,s.n=p.n/\I P E s a w
def qco (P:Program) (l:Nat) (c:Code) (L:LS) (p:Pt) (f:L.X->Fr p.Out):Prop:=
 ∀ (E:Env) (a:Act) (w:World) (x:L.X) (Q:p.Out->Prop),I P E (L.tpl p.n x) a w->(f x).satP Q->c.wp P (ylp P E l p Q) a w
def zfp (P:Program) (C:Cx) (bs:Nat) (Λ:Nat->St->Option Tr) (l:Nat) (c:Code) (L:LS) (p:Pt) (x:L.X):Option (Fr p.Out):=
 match ja P C bs Λ c 0 (L.tpl p.n x) with
 |some t=>p.lp.rdOf C.Γ (t.jn l)
 |none=>none
def qkz (P:Program) (E:Env) (c:Code) (run:St->Option Tr):Prop:=
 ∀ s t,run s=some t->∀ Q:XE->St->Prop,t.sat Q->∀ (a:Act) (w:World),I P E s a w->c.wp P (qa8 P E Q) a w
def qtq (r1 r2:St->Option Tr) (s:St):Option Tr:=
 match r1 s with
 |some t=>t.bind r2
 |none=>none
def zuv (P:Program) (run:St->Option Tr) (fn:Func) (ps:List PT) (rs:List Ty) (xs:qn ps):Option (Fr (qi rs)):=
 if (fn.name == "runtime.NumGoroutine")=false/\ps.length<=fn.ntmps then match run (qos fn.ntmps (qg2 ps xs)) with
  |some t=>qig P fn.results.toList rs t
  |none=>none
 else none
section
variable {P:Program} {E:Env}
theorem qco.of_run {C:Cx} (hC:CxOK P C) {bs l:Nat} {Λ:Nat->St->Option Tr} {c:Code} {L:LS} {p:Pt} (hM:p.M.low=true) (hE:p.E.low=true) (hR:p.R.low=true) (hΛ:∀ E,jw P E Λ c 0) {f:L.X->Fr p.Out}
  (hr:∀ x,zfp P C bs Λ l c L p x=some (f x)):qco P l c L p f:=by
 intro E a w x Q hi hq;have hrx:=hr x;unfold zfp at hrx;split at hrx<;>try trivial
 rename_i t ht;have hsat:=Tr.sat_jn (p.lp.rd_sat hrx hq);refine wp_mono (yx hC c 0 (hΛ E) ht hsat hi) ?_;rintro e a' w' ⟨xe,s',rfl,his,hqs⟩;cases xe with
 |normal=>exact hqs.elim
 |exit i=>
  obtain ⟨rfl,hn',y,n',hy,hn,hqy⟩:=hqs;have:=qaz hC.ct hE his hy hn;rw [hn'] at this;exact ⟨.out y,hqy,rfl,this⟩
 |ret=>
  obtain ⟨hn',y,n',hy,hn,hqy⟩:=hqs;have:=qaz hC.ct hR his hy hn;rw [hn'] at this;exact ⟨.back y,hqy,rfl,this⟩
 |panic v=>exact ⟨.pan v,hqs.2,rfl,s',hqs.1,his⟩
 |val _=>exact hqs.elim
 |jump _=>
  obtain ⟨rfl,hn',y,n',hy,hn,hqy⟩:=hqs;have:=qaz hC.ct hM his hy hn;rw [hn'] at this;exact ⟨.next y,hqy,rfl,this⟩
theorem qco.scope {c rest:Code} {L N Eo R:LS} {n id l:Nat} {f:L.X->Fr (Rd L.X Eo.X R.X)} (hf:findLabel c l=some rest) (h1:qco P l c L ⟨n,id,L,Eo,R⟩ f) (h2:qco P l rest L ⟨n,id,L,Eo,R⟩ f)
  {F:L.X->Fr (Rd N.X Eo.X R.X)} {inv:L.X->Prop} {μ:L.X->Nat}
  (hlaw:∀ x,inv x->∀ Q:Rd N.X Eo.X R.X->Prop,(F x).satP Q->(f x).satP fun
   |.next x'=>inv x'/\μ x'<μ x/\(F x').satP Q
   |.out y=>Q (.out y)
   |.back z=>Q (.back z)
   |.pan p=>Q (.pan p)) (hinv:∀ x Q,(F x).satP Q->inv x):qf P (.scope c) L ⟨n,id,N,Eo,R⟩ F:=by
 intro E a w x Q hi hq;have key:∀ x a w (c':Code) (J:Nat->Act->World->Prop),(∀ a w (x':L.X),inv x'->μ x'<μ x->I P E (L.tpl n x') a w->(F x').satP Q->∃ m,m<μ x/\J m a w)->qco P l c' L ⟨n,id,L,Eo,R⟩ f->inv x->I P E (L.tpl n x) a w->(F x).satP Q ->
   c'.wp P (Exit.jump l (fun a w=>∃ m,m<μ x/\J m a w) (qqu P E ⟨n,id,N,Eo,R⟩ Q)) a w:=by
  intro x a w c' J hJ h hx hix hFx;refine wp_mono (h E a w x _ hix (hlaw x hx Q hFx)) ?_;rintro e a' w' ⟨r,hr,hm⟩;cases r with
  |next x'=>
   obtain ⟨rfl,hi'⟩:=hm;exact ⟨rfl,hJ a' w' x' hr.1 hr.2.1 hi' hr.2.2⟩
  |out y=>
   obtain ⟨rfl,hi'⟩:=hm;exact ⟨.out y,hr,rfl,hi'⟩
  |back z=>
   obtain ⟨rfl,hi'⟩:=hm;exact ⟨.back z,hr,rfl,hi'⟩
  |pan v=>
   obtain ⟨rfl,hi'⟩:=hm;exact ⟨.pan v,hr,rfl,hi'⟩
 have hmono:∀ {J J':Act->World->Prop} {c':Code} {a:Act} {w:World},(∀ a w,J a w->J' a w)->c'.wp P (Exit.jump l J (qqu P E ⟨n,id,N,Eo,R⟩ Q)) a w->c'.wp P (Exit.jump l J' (qqu P E ⟨n,id,N,Eo,R⟩ Q)) a w:=by
  intro J J' c' a w hJ h;refine wp_mono h fun e a' w' he=>?_;cases e with
  |goto l'=>exact ⟨he.1,hJ _ _ he.2⟩
  |_=>exact he
 refine wp_scope_jumps l (fun a w=>∃ m,∃ x,inv x/\μ x=m/\I P E (L.tpl n x) a w/\(F x).satP Q) (fun a w=>qnn fun m=>∃ x,inv x/\μ x=m/\I P E (L.tpl n x) a w/\(F x).satP Q) hf ?_ ?_
 ·exact hmono (fun a w ⟨m,_,h⟩=>⟨m,h⟩) (key x a w c (fun m a w=>∃ x,inv x/\μ x=m/\I P E (L.tpl n x) a w/\(F x).satP Q) (fun a w x' q1 q2 q3 q4=>⟨μ x',q2,x',q1,rfl,q3,q4⟩) h1 (hinv x Q hq) hi hq)
 ·rintro a w ⟨m,hm⟩;obtain ⟨⟨x',q1,q2,q3,q4⟩,_⟩:=qek (p:=fun m=>∃ x,inv x/\μ x=m/\I P E (L.tpl n x) a w/\(F x).satP Q) ⟨m,hm⟩;refine hmono (fun a1 w1 ⟨m1,r1,r2⟩=>⟨⟨m1,r2⟩,?_⟩) (key x' a w rest (fun m a w=>∃ x,inv x/\μ x=m/\I P E (L.tpl n x) a w/\(F x).satP Q) (fun a w x' q1 q2 q3 q4=>⟨μ x',q2,x',q1,rfl,q3,q4⟩) h2 q1 q3 q4);rw [← q2];exact ug5 ((qek (p:=fun m=>∃ x,inv x/\μ x=m/\I P E (L.tpl n x) a1 w1/\(F x).satP Q) ⟨m1,r2⟩).2 m1 r2) r1
theorem qf.run {C:Cx} (hC:CxOK P C) {c:Code} {L:LS} {p:Pt} {F:L.X->Fr p.Out} (hL:L.low=true) (h:qf P c L p F):qkz P E c (p.han C.Γ L F):=by
 intro s t hs Q hq a w hi;unfold Pt.han at hs;split at hs<;>try trivial
 rename_i hsn;split at hs<;>try trivial
 rename_i x n hx;cases hs;obtain ⟨hq1,hq2⟩:=qa0 _ hq;have hi':=qaz hC.ct hL hi hx hq1;rw [hsn] at hi';refine wp_mono (h E a w x _ hi' (p.toTr_sat hq2)) ?_;rintro e a' w' ⟨r,hr,hm⟩;cases r with
 |next m=>
  obtain ⟨rfl,hi'⟩:=hm;exact ⟨.normal,_,rfl,hi',hr⟩
 |out y=>
  obtain ⟨rfl,hi'⟩:=hm;exact ⟨.exit p.id,_,rfl,hi',hr⟩
 |back z=>
  obtain ⟨rfl,hi'⟩:=hm;exact ⟨.ret,_,rfl,hi',hr⟩
 |pan v=>
  obtain ⟨rfl,s',hn',hi'⟩:=hm;have hdead:I P E ⟨p.n,fun _=>.dead,fun _=>none,fun _=>.dead⟩ a' w':=by
   have:=qaz hC.ct (L:=⟨[],[]⟩) rfl hi' (x:=((),())) (n:=[]) rfl trivial;rw [hn'] at this;obtain ⟨F',γ',h⟩:=this;exact ⟨F',γ',h.n,h.df,h.step,h.mem,fun t=>trivial,fun t g want v ht=>(nomatch ht),fun t=>trivial⟩
  exact ⟨.panic v,_,rfl,hdead,hr⟩
theorem qim {C:Cx} (hC:CxOK P C) {bs:Nat} {Λ:Nat->St->Option Tr} {c:Code} (hΛ:jw P E Λ c 0):qkz P E c (ja P C bs Λ c 0):=
 fun _ _ h _ hq _ _ hi=>yx hC c 0 hΛ h hq hi
theorem qmb {x y:Code} {r1 r2:St->Option Tr} (h1:qkz P E x r1) (h2:qkz P E y r2):qkz P E (.seq x y) (qtq r1 r2):=by
 intro s t h Q hq a w hi;unfold qtq at h;split at h<;>try trivial
 rename_i t1 ht1;refine wp_seq (wp_mono (h1 s t1 ht1 _ (Tr.sat_bind h hq) a w hi) ?_);rintro e a' w' ⟨xe,s',rfl,hi',hq'⟩;cases xe with
 |normal=>
  obtain ⟨u,hu,hqu⟩:=hq';exact h2 _ u hu Q hqu a' w' hi'
 |exit i=>exact ⟨.exit i,s',rfl,hi',hq'⟩
 |ret=>exact ⟨.ret,s',rfl,hi',hq'⟩
 |panic p=>exact ⟨.panic p,s',rfl,hi',hq'⟩
 |val v=>exact ⟨.val v,s',rfl,hi',hq'⟩
 |jump l=>exact ⟨.jump l,s',rfl,hi',hq'⟩
theorem zkz {f:FuncId} {fn:Func} {c:Code} {run:St->Option Tr} {ps:List PT} {rs:List Ty} {fr:qn ps->Fr (qi rs)} (x0:qn ps)
  (hf:P.funcs[f]? = some fn) (hb:fn.body=some c) (hrn:∀ E,qkz P E c run) (hrun:∀ xs,zuv P run fn ps rs xs=some (fr xs)):qa P f ⟨ps,rs,fun xs=>(fr xs).get,fun xs=>[(fr xs).ok]⟩:=by
 have h0:=hrun x0;unfold zuv at h0;split at h0<;>try trivial
 rename_i hc;obtain ⟨hname,hn⟩:=hc;refine ⟨enters hf hb hname,fun w F xs vs hbd hr hok=>calls_of_wp hf hb ?_⟩;have hr':=hrun xs;unfold zuv at hr';rw [if_pos ⟨hname,hn⟩] at hr';split at hr'<;>try (cases hr'; done)
 rename_i t ht;have hlen:vs.length=ps.length:=by
  have:∀ {ps:List PT} {xs:qn ps} {vs:List Value},wt P w F ps xs vs->vs.length=ps.length:=by
   intro ps
   induction ps with
   |nil=>intro xs vs h; cases h; rfl
   |cons p r ih=>
    intro xs vs h;obtain ⟨v,vs',rfl,_,h3⟩:=h;simp [ih h3]
  exact this hr
 have hstart:=qi3 (D:=[]) (n:=fn.ntmps) hbd (fun R=>qex (R:=R) hr) (by omega);have hwp:=hrn _ _ t ht _ (qoc hr' hok) _ _ hstart;have hsz:(vs.toArray).size=vs.length:=by simp
 rw [hsz];refine wp_mono hwp ?_;rintro e a' w' ⟨xe,s,rfl,⟨F',γ',hi⟩,hxe,n,hend,hnn⟩;have hfin:a'.defers=[]/\∃ v,(results fn a'.tmps).run P w' = .ok v w'/\qd1 w F rs (fr xs).get (.returned v) w':=by
  unfold qa7 at hend;split at hend<;>try trivial
  rename_i avs n' hres;split at hend<;>try trivial
  rename_i axs u hrs;split at hend<;>try trivial
  rename_i y hdec;injection hend with hend
  obtain ⟨hn',hy⟩:=ql0 hend hnn;subst hy;obtain ⟨us,hran,hreps⟩:=qiw hi hres hn';obtain ⟨F'',hs,hm',_,hxs⟩:=wv hi.mem (kj hi) (qa6.of fun _ _ h=>h) hrs hreps;obtain ⟨γ0,h0⟩:=hi.step;have hst:=h0.trans hs;refine ⟨hi.df,_,qd3 hran,_,F'',rfl,⟨hst.os,hst.tape,hst.output,hst.size,hst.old⟩,hst.hF,fun b hb=>⟨hst.new b hb,hst.bd b hb⟩,qrq (qdv hdec hxs)⟩
 rcases hxe with rfl|rfl
 ·exact hfin
 ·exact hfin
end
end Go.Ab
namespace Go.Proofs.YtgieagiaagoogaaGreat
open Go Go.Ab Go.RowKit Go.Proofs
abbrev zi:PT:=.pf [i64,i64] [i64]
def zb (g:zi.den) (x y:Int):Bool:=decide ((g.1 (x,y,())).1<0)
def qhx (g:zi.den) (l:List Int):Prop:=∀ x∈l,∀ y∈l,g.2 (x,y,())
theorem qhx.sub {g:zi.den} {l s:List Int} (h:qhx g l) (hs:∀ x∈s,x∈l):qhx g s:=fun x hx y hy=>h x (hs x hx) y (hs y hy)
theorem ycw {i j:Nat} (h:i+j<=9223372036854775807):IntKind.i64.wrap ((IntKind.u64.wrap (IntKind.i64.wrap ((i:Int)+j))).fdiv (2 ^ min (Int.toNat 1) IntKind.u64.bits))=((i+j)/2:Nat):=by
 have h1:IntKind.i64.wrap ((i:Int)+j)=(i:Int)+j:=uag _ (by omega);have h2:IntKind.u64.wrap ((i:Int)+j)=(i:Int)+j:=IntWalk.u64_in _ (by omega);have h3:(2:Int) ^ min (Int.toNat 1) IntKind.u64.bits=2:=by decide
 rw [h1,h2,h3,uen _ (by decide),uag _ (by omega)];omega
theorem zcj {i j:Nat} (h:i+j<=9223372036854775807):IntKind.i64.wrap ((i:Int)+j)=(i+j:Nat):=by
 rw [uag _ (by omega)];omega
theorem qot {i:Nat} (h:i+1<=9223372036854775807):IntKind.i64.wrap ((i:Int)+1)=(i+1:Nat):=by
 rw [uag _ (by omega)];omega
theorem qru {i j:Nat} (h:j<=i) (h2:i<=9223372036854775807):IntKind.i64.wrap ((i:Int)-j)=(i-j:Nat):=by
 rw [uag _ (by omega)];omega
theorem zlx {i:Nat} (h:1<=i) (h2:i<=9223372036854775807):IntKind.i64.wrap ((i:Int)-1)=(i-1:Nat):=by
 rw [uag _ (by omega)];omega
theorem kz {l:List Int} {i j:Nat}:(qcd l 0 i j).length=l.length:=by simp [qcd]
theorem zfu {l:List Int} {i j:Nat} (hi:i<l.length) (hj:j<l.length) {x:Int} (h:x∈qcd l 0 i j):x∈l:=by
 unfold qcd at h;have h1:l.getD i 0∈l:=vu hi;have h2:l.getD j 0∈l:=vu hj;rcases List.mem_or_eq_of_mem_set h with h|rfl
 ·rcases ugp h with h|rfl
  ·exact h
  ·exact h2
 ·exact h1
abbrev qeo:Pt:=⟨53,2,⟨[(1,.d i64),(2,.d i64),(3,zi),(8,.d i64),(9,.d i64)],[.al 10000 0,.o 0 3 i64]⟩,⟨[(1,.d i64),(2,.d i64),(3,zi),(8,.d i64)],[.al 10000 0,.o 0 3 i64]⟩,⟨[],[]⟩⟩
noncomputable def zdc:Code:=((Go.Ab.loopB (qo Tryz.f202 0) 0).getD .skip)
noncomputable def CI0:Cx:=cx [] []
theorem vw:CxOK Tryz.prog CI0:=zc qv trivial trivial
def zc6 (x:qeo.M.X):Fr qeo.Out:=
 let a:=x.1.1; let j:=x.1.2.2.2.2.1; let g:=x.1.2.2.1; let l:=x.2.1
 Fr.need (decide (j>a)=true->0<=j/\j<l.length)
  (Fr.need (decide (j>a)=true->j.toNat<l.length)
   (Fr.need (decide (j>a)=true->0<=IntKind.i64.wrap (j-1)/\IntKind.i64.wrap (j-1)<l.length)
    (Fr.need (decide (j>a)=true->(IntKind.i64.wrap (j-1)).toNat<l.length)
     (Fr.need (decide (j>a)=true->g.2 (l.getD j.toNat i64.dflt,l.getD (IntKind.i64.wrap (j-1)).toNat i64.dflt,()))
      (Fr.br (bif decide (j>a) then decide ((g.1 (l.getD j.toNat i64.dflt,l.getD (IntKind.i64.wrap (j-1)).toNat i64.dflt,())).1<0) else false)
       (Fr.need (0<=IntKind.i64.wrap (j-1)/\IntKind.i64.wrap (j-1)<l.length)
        (Fr.need ((IntKind.i64.wrap (j-1)).toNat<l.length)
         (Fr.need (0<=j/\j<l.length)
          (Fr.need (j.toNat<l.length)
           (Fr.need (0<=j/\j<l.length)
            (Fr.need (j.toNat<l.length)
             (Fr.need (0<=IntKind.i64.wrap (j-1)/\IntKind.i64.wrap (j-1)<(l.set j.toNat (l.getD (IntKind.i64.wrap (j-1)).toNat i64.dflt)).length)
              (Fr.need ((IntKind.i64.wrap (j-1)).toNat<(l.set j.toNat (l.getD (IntKind.i64.wrap (j-1)).toNat i64.dflt)).length)
               (Fr.val (Rd.next ((a,x.1.2.1,(g.1,g.2),x.1.2.2.2.1,IntKind.i64.wrap (j-1),()),
                ((l.set j.toNat (l.getD (IntKind.i64.wrap (j-1)).toNat i64.dflt)).set (IntKind.i64.wrap (j-1)).toNat (l.getD j.toNat i64.dflt),()))))))))))))
       (Fr.val (Rd.out ((a,x.1.2.1,(g.1,g.2),x.1.2.2.2.1,()),(l,())))))))))
theorem yex:qf Tryz.prog zdc qeo.M qeo zc6:=
 qf.of_run vw (bs:=0) (Λ:=qq) rfl rfl rfl (fun E=>qe _ 0) (fun x=>by kernel_rfl)
structure InvInsI (a j:Int) (g:zi.den) (l:List Int):Prop where
 a0:0<=a
 aj:a<=j
 jl:j<l.length
 big:(l.length:Int)<=9223372036854775807
 dom:qhx g l
def zq2 (x:qeo.M.X):Fr qeo.Out:=
 Fr.need (InvInsI x.1.1 x.1.2.2.2.2.1 x.1.2.2.1 x.2.1) (Fr.val (Rd.out ((x.1.1,x.1.2.1,x.1.2.2.1,x.1.2.2.2.1,()),(wj (zb x.1.2.2.1) 0 x.1.1.toNat x.1.2.2.2.2.1.toNat x.2.1,()))))
theorem yjr (a b i j:Int) (g:zi.den) (l:List Int) (hinv:InvInsI a j g l) (Q:qeo.Out->Prop)
  (hq:Q (Rd.out ((a,b,g,i,()),(wj (zb g) 0 a.toNat j.toNat l,())))):(zc6 ((a,b,g,i,j,()),(l,()))).satP fun
   |.next x'=>InvInsI x'.1.1 x'.1.2.2.2.2.1 x'.1.2.2.1 x'.2.1/\x'.1.2.2.2.2.1.toNat<j.toNat/\(zq2 x').satP Q
   |.out y=>Q (.out y)
   |.back z=>Q (.back z)
   |.pan p=>Q (.pan p):=by
 obtain ⟨h0,h1,h2,h3,h4⟩:=hinv;obtain ⟨a',rfl⟩:∃ n:Nat,a=n:=⟨a.toNat,by omega⟩;obtain ⟨j',rfl⟩:∃ n:Nat,j=n:=⟨j.toNat,by omega⟩;dsimp only [zc6,Fr.satP,Ty.den,PT.den];by_cases hj:a'<j'
 ·obtain ⟨k,rfl⟩:∃ k,j'=k+1:=⟨j'-1,by omega⟩;have hkl:k+1<l.length:=by omega
  have hw:IntKind.i64.wrap (((k+1:Nat):Int)-1)=(k:Nat):=by rw [zlx (by omega) (by omega)]; rfl
  have hd:decide (((k+1:Nat):Int)>(a':Int))=true:=uan (by omega);have t1:((k+1:Nat):Int).toNat=k+1:=rfl;have t2:((k:Nat):Int).toNat=k:=rfl;rw [hw,hd,t1,t2];simp only [uct];refine ⟨fun _=>⟨by omega,by omega⟩,fun _=>by omega,fun _=>⟨by omega,by omega⟩,fun _=>by omega,fun _=>h4 _ (vu hkl) _ (vu (by omega)),fun hc=>?_,fun hc=>?_⟩
  ·refine ⟨⟨by omega,by omega⟩,by omega,⟨by omega,by omega⟩,by omega,⟨by omega,by omega⟩,by omega,⟨by omega,by omega⟩,by omega,?_⟩;have hI:InvInsI a' k g (qcd l 0 (k+1) k):=⟨by omega,by omega,by rw [kz]; omega,by rw [kz]; omega,h4.sub fun x hx=>zfu hkl (by omega) hx⟩;refine ⟨hI,by omega,hI,?_⟩;simp only [ucn,wj] at hq ⊢;rw [if_pos (by omega)] at hq;have hc':zb g (l.getD (k+1) 0) (l.getD k 0)=true:=hc;rw [hc'] at hq;exact hq
  ·simp only [ucn,wj] at hq;rw [if_pos (by omega)] at hq;have hc':zb g (l.getD (k+1) 0) (l.getD k 0)=false:=hc;rw [hc'] at hq;exact hq
 ·have hd:decide ((j':Int)>(a':Int))=false:=uao (by omega);rw [hd];refine ⟨fun h=>(by cases h),fun h=>(by cases h),fun h=>(by cases h),fun h=>(by cases h),fun h=>(by cases h),fun hc=>(by cases hc),fun _=>?_⟩;have hx:wj (zb g) 0 a' j' l=l:=by
   cases j' with
   |zero=>rfl
   |succ k=>simp only [wj]; rw [if_neg (by omega)]
  simp only [ucn,hx] at hq;exact hq
theorem ydi:qf Tryz.prog (.loop zdc) qeo.M qeo zq2:=by
 refine qf.loop (n:=53) (id:=2) yex (inv:=fun x=>InvInsI x.1.1 x.1.2.2.2.2.1 x.1.2.2.1 x.2.1) (μ:=fun x=>x.1.2.2.2.2.1.toNat) ?_ (fun x Q h=>h.1);rintro ⟨⟨a,b,g,i,j,_⟩,⟨l,_⟩⟩ hinv Q hq;exact yjr a b i j g l hinv Q hq.2
abbrev qep:Pt:=⟨53,0,⟨[(1,.d i64),(2,.d i64),(3,zi),(8,.d i64)],[.al 10000 0,.o 0 3 i64]⟩,⟨[],[.al 10000 0,.o 0 3 i64]⟩,⟨[],[]⟩⟩
noncomputable def yg9:Nat->St->Option Tr:=fun _=>qeo.han CI0.Γ qeo.M zq2
def zc7 (x:qep.M.X):Fr qep.Out:=
 let a:=x.1.1; let b:=x.1.2.1; let g:=x.1.2.2.1; let i:=x.1.2.2.2.1; let l:=x.2.1
 Fr.br (decide (i<b))
  (Fr.need (InvInsI a i (g.1,g.2) l) (Fr.val (Rd.next ((a,b,(g.1,g.2),IntKind.i64.wrap (i+1),()),(wj (zb (g.1,g.2)) 0 a.toNat i.toNat l,())))))
  (Fr.val (Rd.out ((),(l,()))))
theorem yde {E:Env}:jw Tryz.prog E yg9 (qo Tryz.f202 0) 0:=
 ydd (b:=zdc) (by kernel_rfl) (by kernel_rfl) (qf.han vw rfl ydi)
theorem yey:qf Tryz.prog (qo Tryz.f202 0) qep.M qep zc7:=
 qf.of_run vw (bs:=0) (Λ:=yg9) rfl rfl rfl (fun E=>yde) (fun x=>by kernel_rfl)
theorem qx0 {lt:Int->Int->Bool} {a:Nat}:(j:Nat) -> {l:List Int}->j<l.length->∀ x∈wj lt 0 a j l,x∈l
 |0,_,_,_,h=>h
 |j+1,l,hj,x,h=>by
  simp only [wj] at h;split at h
  ·cases hc:lt (l.getD (j+1) 0) (l.getD j 0) with
   |true=>
    rw [hc] at h;exact zfu hj (by omega) (qx0 j (by rw [kz]; omega) x h)
   |false=>
    rw [hc] at h;exact h
  ·exact h
theorem qkj {lt:Int->Int->Bool} {a:Nat}:(j:Nat) -> {l:List Int}->(wj lt 0 a j l).length=l.length
 |0,_=>rfl
 |j+1,l=>by
  simp only [wj];split
  ·cases lt (l.getD (j+1) 0) (l.getD j 0) with
   |true=>rw [ue4,qkj j,kz]
   |false=>rfl
  ·rfl
structure InvInsO (a b i:Int) (g:zi.den) (l:List Int):Prop where
 a0:0<=a
 ai:a<i
 bl:b<=l.length
 il:i<=9223372036854775807
 big:(l.length:Int)<=9223372036854775807
 dom:qhx g l
def zq3 (x:qep.M.X):Fr qep.Out:=
 Fr.need (InvInsO x.1.1 x.1.2.1 x.1.2.2.2.1 x.1.2.2.1 x.2.1) (Fr.val (Rd.out ((),(qej (zb x.1.2.2.1) 0 x.1.1.toNat (x.1.2.1-x.1.2.2.2.1).toNat x.1.2.2.2.1.toNat x.2.1,()))))
theorem yjs (a b i:Int) (g:zi.den) (l:List Int) (hinv:InvInsO a b i g l) (Q:qep.Out->Prop)
  (hq:Q (Rd.out ((),(qej (zb g) 0 a.toNat (b-i).toNat i.toNat l,())))):(zc7 ((a,b,g,i,()),(l,()))).satP fun
   |.next x'=>InvInsO x'.1.1 x'.1.2.1 x'.1.2.2.2.1 x'.1.2.2.1 x'.2.1/\(x'.1.2.1-x'.1.2.2.2.1).toNat<(b-i).toNat/\(zq3 x').satP Q
   |.out y=>Q (.out y)
   |.back z=>Q (.back z)
   |.pan p=>Q (.pan p):=by
 obtain ⟨h0,h1,h2,h3,h4,h5⟩:=hinv;dsimp only [zc7,Fr.satP,Ty.den,PT.den];refine ⟨fun hi=>?_,fun hi=>?_⟩
 ·have hlt:i<b:=ua5 hi;have hw:IntKind.i64.wrap (i+1)=i+1:=uag _ (by omega);have hI:InvInsO a b (i+1) g (wj (zb g) 0 a.toNat i.toNat l):=⟨h0,by omega,by rw [qkj]; exact h2,by omega,by rw [qkj]; exact h4,h5.sub fun x hx=>qx0 _ (by omega) x hx⟩;refine ⟨⟨h0,by omega,by omega,h4,h5⟩,?_⟩;rw [hw];refine ⟨hI,by omega,hI,?_⟩;have e1:(b-i).toNat=(b-(i+1)).toNat+1:=by omega
  have e2:(i+1).toNat=i.toNat+1:=by omega
  rw [e1] at hq;simp only [qej] at hq;dsimp only;rw [e2];exact hq
 ·have hge:¬ i<b:=uac hi;have e1:(b-i).toNat=0:=by omega
  rw [e1] at hq;exact hq
theorem ydj:qf Tryz.prog (.loop (qo Tryz.f202 0)) qep.M qep zq3:=by
 refine qf.loop (n:=53) (id:=0) yey (inv:=fun x=>InvInsO x.1.1 x.1.2.1 x.1.2.2.2.1 x.1.2.2.1 x.2.1) (μ:=fun x=>(x.1.2.1-x.1.2.2.2.1).toNat) ?_ (fun x Q h=>h.1);rintro ⟨⟨a,b,g,i,_⟩,⟨l,_⟩⟩ hinv Q hq;exact yjs a b i g l hinv Q hq.2
noncomputable def yrv:Nat->St->Option Tr:=fun _=>qep.han CI0.Γ qep.M zq3
def qgu (g:zi.den) (l:List Int):Prop:=qhx g l/\∃ key:Int->Int,LtK (zb g) key l
theorem qgu.sub {g:zi.den} {l s:List Int} (h:qgu g l) (hs:∀ x∈s,x∈l):qgu g s:=by
 obtain ⟨h1,key,h2⟩:=h;exact ⟨h1.sub hs,key,h2.sub hs⟩
noncomputable def qkm:Mt:=⟨3,i64,[.d i64,.d i64,zi],[],fun l x=>(zj (zb x.2.2.1) x.1.toNat x.2.1.toNat l,()),fun l x=>[0<=x.1,x.1<=x.2.1,x.2.1<=l.length,(l.length:Int)<=4611686018427387903,qgu x.2.2.1 l]⟩
def zer (l:List Int) (x:qn [.d i64,.d i64,zi]):Fr (List Int×qi []):=
 Fr.need (InvInsO x.1 x.2.1 (IntKind.i64.wrap (x.1+1)) (x.2.2.1.1,x.2.2.1.2) l)
  (Fr.val (qej (zb (x.2.2.1.1,x.2.2.1.2)) 0 x.1.toNat (x.2.1-IntKind.i64.wrap (x.1+1)).toNat (IntKind.i64.wrap (x.1+1)).toNat l,()))
theorem zxv:SoundMt Tryz.prog 202 qkm:=
 qrb (qkn vw (Λ:=yrv) (fn:=Tryz.f202) (fr:=zer) (e:=3) (T:=i64) (ps:=[.d i64,.d i64,zi]) (rs:=[]) (0,0,(fun _=>(0,()),fun _=>True),()) (by kernel_rfl) rfl rfl
  (fun c E hc=>jb hc (by kernel_rfl) (b:=qo Tryz.f202 0) (by kernel_rfl) (qf.han vw rfl ydj)) (fun l x=>by kernel_rfl)) _ _ fun w F l xs vs _ _ _ hok=>by
  obtain ⟨a,b,g,rfl⟩:∃ (a b:Int) (g:zi.den),xs=(a,b,g,()):=⟨xs.1,xs.2.1,xs.2.2.1,rfl⟩;have hok':(0:Int)<=a/\(a:Int)<=b/\(b:Int)<=(List.length (α:=Int) l:Int)/\(List.length (α:=Int) l:Int)<=4611686018427387903/\qgu g l:=hok;obtain ⟨h1,h2,h3,hlen,h4,key,h5⟩:=hok';have hw:IntKind.i64.wrap (a+1)=a+1:=IntWalk.i64_in _ (by omega);dsimp only [zer,Fr.ok,Fr.get,Ty.den,PT.den];rw [hw];refine ⟨⟨⟨h1,by omega,h3,by omega,by omega,h4⟩,trivial⟩,?_⟩;have:=zla (key:=key) (lt:=zb g) (d:=(0:Int)) (a:=a.toNat) (b:=b.toNat) (l:=l) (by omega) (by omega) h5;show (qej (zb g) 0 a.toNat (b-(a+1)).toNat (a+1).toNat l,())=(zj (zb g) a.toNat b.toNat l,());rw [← this,show (b-(a+1)).toNat=b.toNat-(a.toNat+1) by omega,show (a+1).toNat=a.toNat+1 by omega]
abbrev qgk:Pt:=⟨38,0,⟨[(1,.d i64),(2,.d i64),(3,.d i64),(10,.d i64)],[.al 10000 0,.o 0 3 i64]⟩,⟨[],[.al 10000 0,.o 0 3 i64]⟩,⟨[],[]⟩⟩
def zkx (x:qgk.M.X):Fr qgk.Out:=
 let a:=x.1.1; let b:=x.1.2.1; let n:=x.1.2.2.1; let i:=x.1.2.2.2.1; let l:=x.2.1
 Fr.br (decide (i<n))
  (Fr.need (0<=IntKind.i64.wrap (b+i)/\IntKind.i64.wrap (b+i)<l.length)
   (Fr.need ((IntKind.i64.wrap (b+i)).toNat<l.length)
    (Fr.need (0<=IntKind.i64.wrap (a+i)/\IntKind.i64.wrap (a+i)<l.length)
     (Fr.need ((IntKind.i64.wrap (a+i)).toNat<l.length)
      (Fr.need (0<=IntKind.i64.wrap (a+i)/\IntKind.i64.wrap (a+i)<l.length)
       (Fr.need ((IntKind.i64.wrap (a+i)).toNat<l.length)
        (Fr.need (0<=IntKind.i64.wrap (b+i)/\IntKind.i64.wrap (b+i)<(l.set (IntKind.i64.wrap (a+i)).toNat (l.getD (IntKind.i64.wrap (b+i)).toNat i64.dflt)).length)
         (Fr.need ((IntKind.i64.wrap (b+i)).toNat<(l.set (IntKind.i64.wrap (a+i)).toNat (l.getD (IntKind.i64.wrap (b+i)).toNat i64.dflt)).length)
          (Fr.val (Rd.next ((a,b,n,IntKind.i64.wrap (i+1),()),
           ((l.set (IntKind.i64.wrap (a+i)).toNat (l.getD (IntKind.i64.wrap (b+i)).toNat i64.dflt)).set (IntKind.i64.wrap (b+i)).toNat (l.getD (IntKind.i64.wrap (a+i)).toNat i64.dflt),()))))))))))))
  (Fr.val (Rd.out ((),(l,()))))
theorem yk1:qf Tryz.prog (qo Tryz.f231 0) qgk.M qgk zkx:=
 qf.of_run vw (bs:=0) (Λ:=qq) rfl rfl rfl (fun E=>qe _ 0) (fun x=>by kernel_rfl)
structure InvSwp (a b n i:Int) (l:List Int):Prop where
 a0:0<=a
 b0:0<=b
 i0:0<=i
 al:a+n<=l.length
 bl:b+n<=l.length
 big:(l.length:Int)<=9223372036854775807
def yau (x:qgk.M.X):Fr qgk.Out:=
 Fr.need (InvSwp x.1.1 x.1.2.1 x.1.2.2.1 x.1.2.2.2.1 x.2.1) (Fr.val (Rd.out ((),(qaw 0 (x.1.2.2.1-x.1.2.2.2.1).toNat (x.1.1+x.1.2.2.2.1).toNat (x.1.2.1+x.1.2.2.2.1).toNat x.2.1,()))))
theorem yol (a b n i:Int) (l:List Int) (hinv:InvSwp a b n i l) (Q:qgk.Out->Prop)
  (hq:Q (Rd.out ((),(qaw 0 (n-i).toNat (a+i).toNat (b+i).toNat l,())))):(zkx ((a,b,n,i,()),(l,()))).satP fun
   |.next x'=>InvSwp x'.1.1 x'.1.2.1 x'.1.2.2.1 x'.1.2.2.2.1 x'.2.1/\(x'.1.2.2.1-x'.1.2.2.2.1).toNat<(n-i).toNat/\(yau x').satP Q
   |.out y=>Q (.out y)
   |.back z=>Q (.back z)
   |.pan p=>Q (.pan p):=by
 obtain ⟨h0,h1,h2,h3,h4,h5⟩:=hinv;dsimp only [zkx,Fr.satP,Ty.den,PT.den];refine ⟨fun hi=>?_,fun hi=>?_⟩
 ·have hlt:i<n:=of_decide_eq_true hi;have w1:IntKind.i64.wrap (b+i)=b+i:=IntWalk.i64_in _ (by omega);have w2:IntKind.i64.wrap (a+i)=a+i:=IntWalk.i64_in _ (by omega);have w3:IntKind.i64.wrap (i+1)=i+1:=IntWalk.i64_in _ (by omega);rw [w1,w2,w3];simp only [List.length_set];refine ⟨⟨by omega,by omega⟩,by omega,⟨by omega,by omega⟩,by omega,⟨by omega,by omega⟩,by omega,⟨by omega,by omega⟩,by omega,?_⟩;have hI:InvSwp a b n (i+1) (qcd l 0 (a+i).toNat (b+i).toNat):=⟨h0,h1,by omega,by rw [kz]; omega,by rw [kz]; omega,by rw [kz]; omega⟩;refine ⟨hI,by omega,hI,?_⟩;rw [show (n-i).toNat=(n-(i+1)).toNat+1 by omega] at hq;simp only [qaw] at hq;dsimp only;rw [show (a+(i+1)).toNat=(a+i).toNat+1 by omega,show (b+(i+1)).toNat=(b+i).toNat+1 by omega];exact hq
 ·have hge:¬ i<n:=uac hi;rw [show (n-i).toNat=0 by omega] at hq;exact hq
theorem yj3:qf Tryz.prog (.loop (qo Tryz.f231 0)) qgk.M qgk yau:=by
 refine qf.loop (n:=38) (id:=0) yk1 (inv:=fun x=>InvSwp x.1.1 x.1.2.1 x.1.2.2.1 x.1.2.2.2.1 x.2.1) (μ:=fun x=>(x.1.2.2.1-x.1.2.2.2.1).toNat) ?_ (fun x Q h=>h.1);rintro ⟨⟨a,b,n,i,_⟩,⟨l,_⟩⟩ hinv Q hq;exact yol a b n i l hinv Q hq.2
noncomputable def ytf:Nat->St->Option Tr:=fun _=>qgk.han CI0.Γ qgk.M yau
noncomputable def qsy:Mt:=⟨3,i64,[.d i64,.d i64,.d i64,zi],[],fun l x=>(qaw 0 x.2.2.1.toNat x.1.toNat x.2.1.toNat l,()),fun l x=>[0<=x.1,0<=x.2.1,x.1+x.2.2.1<=l.length,x.2.1+x.2.2.1<=l.length]⟩
def yi6 (l:List Int) (x:qn [.d i64,.d i64,.d i64,zi]):Fr (List Int×qi []):=
 Fr.need (InvSwp x.1 x.2.1 x.2.2.1 0 l) (Fr.val (qaw 0 (x.2.2.1-0).toNat (x.1+0).toNat (x.2.1+0).toNat l,()))
theorem yk8:SoundMt Tryz.prog 231 qsy:=
 qrb (qkn vw (Λ:=ytf) (fn:=Tryz.f231) (fr:=yi6) (e:=3) (T:=i64) (ps:=[.d i64,.d i64,.d i64,zi]) (rs:=[]) (0,0,0,(fun _=>(0,()),fun _=>True),()) (by kernel_rfl) rfl rfl
  (fun c E hc=>jb hc (by kernel_rfl) (b:=qo Tryz.f231 0) (by kernel_rfl) (qf.han vw rfl yj3)) (fun l x=>by kernel_rfl)) _ _ fun w F l xs vs _ hlen _ hok=>by
  obtain ⟨a,b,n,g,rfl⟩:∃ (a b n:Int) (g:zi.den),xs=(a,b,n,g,()):=⟨xs.1,xs.2.1,xs.2.2.1,xs.2.2.2.1,rfl⟩;have hok':(0:Int)<=a/\(0:Int)<=b/\(a:Int)+n<=(List.length (α:=Int) l:Int)/\(b:Int)+n<=(List.length (α:=Int) l:Int):=hok;obtain ⟨h1,h2,h3,h4⟩:=hok';have hlen:List.length (α:=Int) l<=maxLen:=hlen;simp only [maxLen] at hlen;refine ⟨⟨⟨h1,h2,ua4 _,h3,h4,by omega⟩,trivial⟩,?_⟩;show (qaw 0 (n-0).toNat (a+0).toNat (b+0).toNat l,())=(qaw 0 n.toNat a.toNat b.toNat l,());rw [ufq,ugd,ugd]
end Go.Proofs.YtgieagiaagoogaaGreat
