/-
  Parts of the proof, one behind the other: S4, S6, S7, S8, S9, S10, S14, S21, S15, S16, S17, S18, I31, I33, I35, L0, L2, L3, L4, L5, L1, L6, L7, N1, N2, N3, N4, K2, N5, N6, S19, S11, S12, S13, S20.
-/
import Derived.Test.YtgieagiaagoogaaGreatMf
import Derived.Lib.Overlaps
import Derived.Lib.AppendZerosOnto
import Derived.Laws.NewBlocks
import Derived.Deep.RegionLaw
import Derived.Lib.AppendZeros
import Derived.Maps.OwnIn
import Derived.RegionTactic
set_option linter.all false
abbrev uc2:=@Go.setCell_eq_setRow
abbrev uc7:=@List.drop_zero
abbrev udh:=@Go.Proofs.Tryz.underlying27
abbrev uet:=@Go.bodyPost_end
abbrev ufp:=@Go.Proofs.Tryz.func305
namespace Go.Proofs.YtgieagiaagoogaaGreat
open Go Go.Ab Go.RowKit Go.Proofs Go.Shelf Go.Lib
set_option maxRecDepth 100000 in
theorem zk9:(Tryz.prog.info? 44).map (fun i=>(i.zero,i.size,i.bytes))=some (some (.agg #[.int .i64 0,.int .i64 0,.int .i64 0,.int .i64 0,.int .i64 0,.int .i64 0,.int .i64 0,.int .i64 0,.int .i64 0]),9,72):=by kernel_rfl
set_option maxHeartbeats 4000000 in
set_option maxRecDepth 100000 in
theorem yc4 (w:World) (B n:Nat) (s v:Value) (xs news:List Value) (hB:B<=w.heap.size) (hs:w.ownsRow B 44 9 s n xs) (hv:w.ownsRow B 44 9 v 1 news) (h1:∀ u∈news,u.oneCell'=true) (h63:n+1<=maxLen) (hby:(n+1)*72<=140737488355328) :
  Calls Tryz.prog 305 #[s,.int .i64 n,v] w fun en w'=>∃ v',en = .returned v'/\w.grownBy w' s.ownBlock/\w'.ownsRow B 44 9 v' (n+1) (xs++news)/\(v'.ownBlock=s.ownBlock∨v'.ownBlock=some w.heap.size):=by
 obtain ⟨i0,hi0,hz0,hz1,hz2⟩:=ucq zk9;obtain ⟨vb,vc,vcur,rfl,hvb,hvg,hv1,hv2,hv3,hv4⟩:∃ g cap cur,v = .slice (some ⟨g,0,none⟩) 1 cap/\B<=g/\w.heap[g]? = some (.cells cur 44 (0,0))/\1<=cap/\cap<=maxLen/\cur.size=cap*9/\cur.toList.take (1*9)=news:=by
  rcases hv.2 with ⟨_,h0⟩|h'
  ·exact absurd h0 (by omega)
  ·exact h'
 obtain ⟨v',w',hr,e2,e3,e4⟩:=qcp (P:=Tryz.prog) (w:=w) (B:=B) 27 27 44 i0 _ 9 Tryz.underlying27 hi0 hz0 hz1 rfl (by decide) s n xs hs (some ⟨vb,0,none⟩) 1 vc news (fun h=>by cases h) hv.1 (fun ad e=>by cases e; exact hv.cells rfl) h1 h63 (by rw [hz2]; exact hby) hB;have hr':∀ ty,(Builtin.append_ #[27,27] ty #[s,.slice (some ⟨vb,0,none⟩) 1 vc]).run Tryz.prog w = .ok v' w':=fun ty=>hr;have hn:(n:Int)<=9223372036854775807:=by unfold maxLen at h63; omega
 clear hr
 go_enter ufp,Tryz.ntmps305
 rcases hs.2 with ⟨rfl,rfl⟩|⟨g,cap,cur,rfl,hbg,hg,hnc,hcm,hcs,htake⟩
 ·go_wp2_with (at_builtin; refine uce _ rfl _ _ _ _ rfl _ _ rfl rfl _ _ (hr' _) ?_)
  go_ret
  exact ⟨_,rfl,e3,e2,e4⟩
 ·go_wp2_with (at_builtin; refine uce _ rfl _ _ _ _ rfl _ _ rfl rfl _ _ (hr' _) ?_)
  all_goals (go_ret; exact ⟨_,rfl,e3,e2,e4⟩)
set_option maxHeartbeats 4000000 in
set_option maxRecDepth 100000 in
theorem ztj (w:World) (n i g cap vb vc:Nat) (cur:Array Value) (xs news:List Value) (hi:i<n) (hg:w.heap[g]? = some (.cells cur 44 (0,0))) (hcs:cur.size=cap*9) (hroom:n+1<=cap) (hcm:cap<=maxLen) (htake:cur.toList.take (n*9)=xs)
  (vcur:Array Value) (hvg:w.heap[vb]? = some (.cells vcur 44 (0,0))) (hne:vb≠g) (hnl:news.length=9) (hvt:vcur.toList.take 9=news) (hvc:1<=vc) (hvs:vcur.size=vc*9) (h1x:∀ u∈xs,u.oneCell'=true) (h1:∀ u∈news,u.oneCell'=true) :
  Calls Tryz.prog 305 #[.slice (some ⟨g,0,none⟩) n cap,.int .i64 i,.slice (some ⟨vb,0,none⟩) 1 vc] w fun en w'=>∃ cur',en = .returned (.slice (some ⟨g,0,none⟩) (n+1) cap)/\w'=w.drew.setRow g cur'/\cur'.size=cur.size/\cur'.toList.take ((n+1)*9)=xs.take (i*9)++news++xs.drop (i*9):=by
 have hc63:cap<=9223372036854775807:=by unfold maxLen at hcm; omega
 have hz2:¬ ((i:Int)=(n:Int)):=by omega
 have hw1:IntKind.i64.wrap ((i:Int)+(1:Int))=(i:Int)+(1:Int):=by rw [ub0]; omega
 have hb1:(0:Int)<=(i:Int)+(1:Int):=by omega
 have htn:((i:Int)+(1:Int)).toNat=i+1:=by omega
 have hin:i<=n:=by omega
 have hb2:¬ (cap=i+1):=by omega
 have hb3:(i:Int)<=(n:Int)+(1:Int):=by omega
 have hb4:¬ (cap=i):=by omega
 have hov:∀ lb cb,(callFunc 308 #[.slice (some ⟨vb,0,none⟩) 1 vc,.slice (some ⟨g,(i+1)*9,none⟩) lb cb]).run Tryz.prog w = .ok (.value (.bool false)) w:=fun lb cb=>by
  rw [ugh Tryz.func308 (by kernel_rfl) (by kernel_rfl) (by kernel_rfl) (e:=Extern.SlicesOverlaps.overlaps #[27,27] #[4]) (by kernel_rfl),
   ugi w 27 4 44 udh 9 (fun w=>by kernel_rfl) ⟨vb,0,none⟩ ⟨g,(i+1)*9,none⟩ 1 vc lb cb hne 44 44 vcur.size cur.size (by simp [World.shape?,hvg]) (by simp [World.shape?,hg]) (by omega) (by simp [World.frozen?,hvg]) (by simp [World.frozen?,hvg])]
  rfl
 have hsz:(Tryz.prog.info? 44).map (·.size)=some 9:=by kernel_rfl
 have hxl:xs.length=n*9:=by rw [← htake,uae,uad]; omega
 have hdl:(xs.drop (i*9)).length=(n-i)*9:=by rw [ubl,hxl]; omega
 obtain ⟨C1,hC1⟩:∃ C1:Array Value,C1=(cur.toList.take ((i+1)*9)++xs.drop (i*9)++cur.toList.drop ((i+1)*9+(xs.drop (i*9)).length)).toArray:=⟨_,rfl⟩;obtain ⟨C2,hC2⟩:∃ C2:Array Value,C2=(C1.toList.take (i*9)++news++C1.toList.drop (i*9+news.length)).toArray:=⟨_,rfl⟩;obtain ⟨k1,k2,k3⟩:=qva cur.toList xs news (n*9) (i*9) 9 htake (by simp only [uad]; omega) (by omega) hnl C1.toList C2.toList (by rw [hC1]; simp only [show i*9+9=(i+1)*9 by omega]) (by rw [hC2]);have hcp1:∀ ty dc sc,(Builtin.copy_ #[27,27] ty #[.slice (some ⟨g,(i+1)*9,none⟩) (n-i) dc,.slice (some ⟨g,i*9,none⟩) (n+1-i) sc]).run Tryz.prog w.drew = .ok (goInt (Nat.min (n+1-i) (n-i))) (w.drew.setRow g C1):=fun ty dc sc=>by
  rw [hC1];exact yxd w.drew _ _ ty 44 9 g ((i+1)*9) (n-i) dc ⟨g,i*9,none⟩ (n+1-i) sc (xs.drop (i*9)) cur 44 udh hsz (by rw [hdl,show Nat.min (n+1-i) (n-i)=n-i from ugj (by omega)])
   (fun j v hj=>by rw [uc1]; exact wl (w:=w) hg htake (by rwa [ubd] at hj)) hg (by rw [hdl]; omega) (fun v hv=>h1x v (ucm hv))
 have hcp2:∀ ty dc,(Builtin.copy_ #[27,27] ty #[.slice (some ⟨g,i*9,none⟩) (n+1-i) dc,.slice (some ⟨vb,0,none⟩) 1 vc]).run Tryz.prog (w.drew.setRow g C1) = .ok (goInt (Nat.min 1 (n+1-i))) ((w.drew.setRow g C1).setRow g C2):=fun ty dc=>by
  rw [hC2];exact yxd (w.drew.setRow g C1) _ _ ty 44 9 g (i*9) (n+1-i) dc ⟨vb,0,none⟩ 1 vc news C1 44 udh hsz (by rw [hnl,show Nat.min 1 (n+1-i)=1 from ubo (by omega)])
   (fun j v hj=>by
    rw [uc1,uai];exact wl (q:=9) ((uaw w.drew g vb C1 hne).trans hvg) hvt hj) (uba w.drew g cur C1 _ _ hg) (by rw [hnl,← uad,k1,uad]; omega) h1
 rw [ugk] at hcp2;have h1u:=h1;clear hC1 hC2
 go_enter ufp,Tryz.ntmps305
 go_wp2_with (simp only [hov])
 go_region_law (refine qet rfl _ _ 27 27 rfl _ _ (by simp [Act.eval,Act.put]) (by simp [Act.eval,Act.put]) (hcp1 _ _ _) ?_)
 go_wp2_with (at_builtin; refine wx _ rfl _ _ 27 27 rfl _ _ rfl rfl (hcp2 _ _) ?_)
 go_ret
 exact ⟨C2,rfl,rfl,by rw [← uad,k2,uad],by rw [show (n+1)*9=n*9+9 by omega]; exact k3⟩
set_option maxHeartbeats 4000000 in
set_option maxRecDepth 100000 in
theorem zxu (w:World) (n i g cap vb vc:Nat) (cur:Array Value) (xs news:List Value) (hi:i<n) (hg:w.heap[g]? = some (.cells cur 44 (0,0))) (hcs:cur.size=cap*9) (hnc:n<=cap) (hroom:cap<n+1) (htake:cur.toList.take (n*9)=xs)
  (vcur:Array Value) (hvg:w.heap[vb]? = some (.cells vcur 44 (0,0))) (hnl:news.length=9) (hvt:vcur.toList.take 9=news) (h1x:∀ u∈xs,u.oneCell'=true) (h1:∀ u∈news,u.oneCell'=true) (h63:n+1<=maxLen) (hby:(n+1)*72<=140737488355328) :
  Calls Tryz.prog 305 #[.slice (some ⟨g,0,none⟩) n cap,.int .i64 i,.slice (some ⟨vb,0,none⟩) 1 vc] w fun en w'=>∃ G C,en = .returned (.slice (some ⟨w.heap.size,0,none⟩) (n+1) G)/\w.grownBy w' none/\w'.heap[w.heap.size]? = some (.cells C 44 (0,0))/\n+1<=G/\G<=maxLen/\C.size=G*9/\C.toList.take ((n+1)*9)=xs.take (i*9)++news++xs.drop (i*9):=by
 have h63':n+1<=9223372036854775807:=by unfold maxLen at h63; omega
 obtain ⟨i0,hi0,hz0,hz1,hz2⟩:=ucq zk9;have hsz:(Tryz.prog.info? 44).map (·.size)=some 9:=by kernel_rfl
 have hxl:xs.length=n*9:=by rw [← htake,uae,uad]; omega
 have hdl:(xs.drop (i*9)).length=(n-i)*9:=by rw [ubl,hxl]; omega
 have hgw:g<w.heap.size:=(uaa.1 hg).1;have hvw:vb<w.heap.size:=(uaa.1 hvg).1;have hkk:(n:Int)+1-(i:Int)=((n+1-i:Nat):Int):=by omega
 have hik:i+(n+1-i)=n+1:=by omega
 have hold:(Builtin.firstCells i0.size i (.slice (some ⟨g,0,none⟩) i cap)).run Tryz.prog w.drew = .ok (xs.take (i*9)).toArray w.drew:=by
  rw [hz1];exact ugl w.drew 9 i ⟨g,0,none⟩ i cap (xs.take (i*9)) (by rw [uae]; omega) (fun j v hj=>by
   rw [uc1,uai];rw [uap] at hj;split at hj
   ·exact wl (w:=w) hg htake hj
   ·cases hj)
 obtain ⟨G,hG⟩:∃ G,G=grownCap w (n+1) cap 44:=⟨_,rfl⟩;have hGn:n+1<=G:=by rw [hG]; exact uef w _ _ _
 have hGm:G<=maxLen:=by rw [hG]; exact ueg w _ _ _ h63
 obtain ⟨Z,hZ⟩:∃ Z:Array Value,Z=(Value.agg #[.int .i64 0,.int .i64 0,.int .i64 0,.int .i64 0,.int .i64 0,.int .i64 0,.int .i64 0,.int .i64 0,.int .i64 0]).cells:=⟨_,rfl⟩;have hZ9:Z.size=9:=by rw [hZ]; rfl
 obtain ⟨ROW,hROW⟩:∃ ROW:Array Value,ROW=(xs.take (i*9)).toArray++Builtin.zeroCells Z (n+1-i)++Builtin.zeroCells Z (G-(n+1)):=⟨_,rfl⟩;have hrz:∀ ty,(Builtin.append_ #[27,3] ty #[.slice (some ⟨g,0,none⟩) i cap,.int .i64 ((n:Int)+1-(i:Int))]).run Tryz.prog w =
   .ok (.slice (some ⟨w.heap.size,0,none⟩) (n+1) G) (w.drew.alloc (.cells ROW 44)):=fun ty=>by
  have h:=ugm w 27 3 ty 44 i0 _ .i64 .i64 udh Tryz.underlying3 hi0 hz0 (some ⟨g,0,none⟩) i cap (xs.take (i*9)) hold (n+1-i) (by omega) (by omega) (by omega) (by omega) (by rw [hz2]; omega) (by rw [hz2,hik]; exact uex hroom hby);rw [hik,← hG,← hZ,← hROW] at h;rw [hkk];exact h
 have hRs:ROW.size=G*9:=by
  rw [hROW];simp only [udz,ub5,ueh,hZ9,uae,hxl];omega
 have hRt:ROW.toList.take (i*9)=xs.take (i*9):=by
  rw [hROW,udk,udk,ubf];exact udr (by rw [uae]; omega)
 obtain ⟨C1,hC1⟩:∃ C1:Array Value,C1=(ROW.toList.take (i*9)++news++ROW.toList.drop (i*9+news.length)).toArray:=⟨_,rfl⟩;obtain ⟨C2,hC2⟩:∃ C2:Array Value,C2=(C1.toList.take ((i+1)*9)++xs.drop (i*9)++C1.toList.drop ((i+1)*9+(xs.drop (i*9)).length)).toArray:=⟨_,rfl⟩;obtain ⟨k1,k2,k3⟩:=qy7 ROW.toList xs news (n*9) (i*9) 9 hxl (by omega) hRt (by rw [uad]; omega) hnl C1.toList C2.toList (by rw [hC1]) (by rw [hC2]; simp only [show i*9+9=(i+1)*9 by omega]);have hnew:(w.drew.alloc (.cells ROW 44)).heap[w.heap.size]? = some (.cells ROW 44 (0,0)):=ud6 w.drew _;have hcpA:∀ ty dc,(Builtin.copy_ #[27,27] ty #[.slice (some ⟨w.heap.size,i*9,none⟩) (n+1-i) dc,.slice (some ⟨vb,0,none⟩) 1 vc]).run Tryz.prog (w.alloc (.cells ROW 44)).drew = .ok (goInt (Nat.min 1 (n+1-i))) ((w.alloc (.cells ROW 44)).drew.setRow w.heap.size C1):=fun ty dc=>by
  rw [hC1];exact yxd _ _ _ ty 44 9 w.heap.size (i*9) (n+1-i) dc ⟨vb,0,none⟩ 1 vc news ROW 44 udh hsz (by rw [hnl,show Nat.min 1 (n+1-i)=1 from ubo (by omega)])
   (fun j v hj=>by
    rw [uc1,uai];exact wl (q:=9) ((yh w.drew _ vb hvw).trans hvg) hvt hj) hnew (by omega) h1
 have hcpB:∀ ty dc sc,(Builtin.copy_ #[27,27] ty #[.slice (some ⟨w.heap.size,(i+1)*9,none⟩) (n-i) dc,.slice (some ⟨g,i*9,none⟩) (n-i) sc]).run Tryz.prog ((w.alloc (.cells ROW 44)).drew.setRow w.heap.size C1).drew = .ok (goInt (Nat.min (n-i) (n-i))) (((w.alloc (.cells ROW 44)).drew.setRow w.heap.size C1).drew.setRow w.heap.size C2):=fun ty dc sc=>by
  rw [hC2];exact yxd _ _ _ ty 44 9 w.heap.size ((i+1)*9) (n-i) dc ⟨g,i*9,none⟩ (n-i) sc (xs.drop (i*9)) C1 44 udh hsz (by rw [hdl,show Nat.min (n-i) (n-i)=n-i from uf1 _])
   (fun j v hj=>by
    rw [uc1];exact wl (q:=n*9) (((uaw (w.alloc (.cells ROW 44)).drew w.heap.size g C1 (by omega)).trans (yh w.drew _ g hgw)).trans hg) htake (by rwa [ubd] at hj))
   (uba (w.alloc (.cells ROW 44)).drew w.heap.size ROW C1 _ _ hnew) (by rw [hdl,← uad,k1,uad]; omega) (fun v hv=>h1x v (ucm hv))
 have hz2:¬ ((i:Int)=(n:Int)):=by omega
 have hz3:(cap:Int)<(n:Int)+(1:Int):=by omega
 have hGi:¬ (G=i):=by omega
 have hGim:¬ (G=i+1):=by omega
 have hci:¬ (cap=i):=by omega
 have hw1:IntKind.i64.wrap ((i:Int)+(1:Int))=(i:Int)+(1:Int):=by rw [ub0]; omega
 have hb1:(0:Int)<=(i:Int)+(1:Int):=by omega
 have hin:i<=n:=by omega
 have htn:((i:Int)+(1:Int)).toNat=i+1:=by omega
 have hb3:(i:Int)<=(n:Int):=by omega
 have hG63:G<=9223372036854775807:=by unfold maxLen at hGm; omega
 clear hkk hik hold hROW hC1 hC2 hG hRt hZ
 go_enter ufp,Tryz.ntmps305
 go_wp2_with (first
  |(at_builtin; refine uce _ rfl _ _ _ _ rfl _ _ rfl rfl _ _ (hrz _) ?_)
  |(at_builtin; refine wx _ rfl _ _ 27 27 rfl _ _ rfl rfl (hcpA _ _) ?_)
  |(at_builtin; refine wx _ rfl _ _ 27 27 rfl _ _ rfl rfl (hcpB _ _ _) ?_))
 go_region_law (refine qet rfl _ _ 27 27 rfl _ _ (by simp [Act.eval,Act.put]) (by simp [Act.eval,Act.put]) (hcpB _ _ _) ?_)
 go_wp2
 go_ret
 refine ⟨G,C2,rfl,⟨rfl,rfl,rfl,?_,fun k hk _=>?_⟩,?_,hGn,hGm,by rw [← uad,k2,uad,hRs],by rw [show (n+1)*9=n*9+9 by omega]; exact k3⟩
 ·simp
 ·exact (uaw ((w.alloc (.cells ROW 44)).drew.setRow w.heap.size C1).drew w.heap.size k C2 (by omega)).trans ((uaw (w.alloc (.cells ROW 44)).drew w.heap.size k C1 (by omega)).trans (yh w _ k hk))
 ·exact uba ((w.alloc (.cells ROW 44)).drew.setRow w.heap.size C1).drew w.heap.size C1 C2 _ _ (uba (w.alloc (.cells ROW 44)).drew w.heap.size ROW C1 _ _ hnew)
theorem yjh:InsOK Tryz.prog 305 44 qb 72:=by
 refine ⟨ubz ufp (by kernel_rfl) rfl,fun w B n i s v xs news hB hs hv hne hi h1x h1 h63 hby=>?_⟩;rcases uar i n with hin|hin
 ·obtain ⟨vb,vc,vcur,rfl,hvb,hvg,hv1,hv2,hv3,hv4⟩:∃ g cap cur,v = .slice (some ⟨g,0,none⟩) 1 cap/\B<=g/\w.heap[g]? = some (.cells cur 44 (0,0))/\1<=cap/\cap<=maxLen/\cur.size=cap*qb.size/\cur.toList.take (1*qb.size)=news:=by
   rcases hv.2 with ⟨_,h0⟩|h'
   ·exact absurd h0 (by omega)
   ·exact h'
  rcases hs.2 with ⟨rfl,h0⟩|⟨g,cap,cur,rfl,hbg,hg,hnc,hcm,hcs,htake⟩
  ·omega
  ·have hne':vb≠g:=fun e=>hne vb rfl (by rw [e]; rfl);rcases uar cap (n+1) with hr|hr
   ·refine (zxu w n i g cap vb vc cur xs news hin hg hcs hnc hr htake vcur hvg hv.1 hv4 h1x h1 h63 hby).mono fun en w' hp=>?_;obtain ⟨G,C,rfl,hgr,hh,a1,a2,a3,a4⟩:=hp;refine ⟨_,rfl,⟨hgr.os,hgr.tape,hgr.output,hgr.size,fun k hk _=>hgr.block k hk (by simp)⟩,⟨?_,.inr ⟨_,_,_,rfl,hB,hh,a1,a2,a3,a4⟩⟩,.inr rfl⟩;show (xs.take (i*9)++news++xs.drop (i*9)).length=(n+1)*9;rw [← a4,uae,uad,a3];exact ubo (uam _ a1)
   ·refine (ztj w n i g cap vb vc cur xs news hin hg hcs hr hcm htake vcur hvg hne' hv.1 hv4 hv1 hv3 h1x h1).mono fun en w' hp=>?_;obtain ⟨cur',rfl,rfl,a3,a4⟩:=hp;have a5:cur'.size=cap*9:=a3.trans hcs;refine ⟨_,rfl,⟨rfl,rfl,rfl,by simp,fun k _ hk=>uaw w.drew g k _ (fun e=>hk (by simp [Value.ownBlock,e]))⟩,⟨?_,.inr ⟨g,cap,cur',rfl,hbg,uba w.drew g cur cur' _ _ hg,hr,hcm,a5,a4⟩⟩,.inl rfl⟩;show (xs.take (i*9)++news++xs.drop (i*9)).length=(n+1)*9;rw [← a4,uae,uad,a5];exact ubo (uam _ hr)
 ·have he:i=n:=by omega
  subst he;refine (yc4 w B i s v xs news hB hs hv h1 h63 hby).mono fun en w' hp=>?_;obtain ⟨v',rfl,a1,a2,a3⟩:=hp;refine ⟨v',rfl,a1,?_,a3⟩;have hx:xs.length=i*qb.size:=hs.1;rw [udc (by omega),uc5 (by omega),ud1];exact a2
set_option maxHeartbeats 4000000 in
set_option maxRecDepth 100000 in
theorem zr0:CloneOK Tryz.prog 306 44 qb 72:=by
 refine ⟨ubz Tryz.func306 (by kernel_rfl) rfl,fun w n c A xs hnc hA hxl hxc h1 h63 hby=>?_⟩;obtain ⟨i0,hi0,hz0,hz1,hz2⟩:=ucq zk9;have hcmp:∀ (A:Option Addr) (n c:Nat),(binOp .eql 27 (.slice A n c) (.slice none 0 0)).run Tryz.prog w = .ok (.bool A.isNone) w:=fun A n c=>by
  have h1:binOp .eql 27 (.slice A n c) (.slice none 0 0)=(do pure (.bool (← Op.equal 27 (.slice A n c) (.slice none 0 0)))):=rfl;have h2:Op.equal 27 (.slice A n c) (.slice none 0 0)=Op.equalIn (9999+1) 27 (.slice A n c) (.slice none 0 0):=rfl;rw [h1,h2];simp [ql1 udh]
 go_enter Tryz.func306,Tryz.ntmps306
 cases A with
 |none=>
  have h0:=hA rfl;subst h0;have hx:xs=[]:=ucr (by simpa using hxl);subst hx
  go_wp2_with (simp only [hcmp])
  go_ret
  exact ⟨_,rfl,⟨rfl,rfl,rfl,ua3 _,fun _ _ _=>rfl⟩,ucz _ _ _ _⟩
 |some ad=>
  have hW:(w.alloc (.cells #[] 44)).ownsRow w.heap.size 44 9 (.slice (some ⟨w.heap.size,0,none⟩) 0 0) 0 []:=World.ownsRow_lit w #[] 0 (Nat.le_refl _) (by unfold maxLen; omega) rfl;have hcell:∀ (j:Nat) u,xs[j]? = some u->(w.alloc (.cells #[] 44)).cell? (ad.add j)=some u:=fun j u hj=>by
   have h:=hxc ad rfl j u hj;have hb:=ufn h;rw [ucf (yh w _ _ hb)];exact h
  obtain ⟨v',w',hr,e2,e3,e4⟩:=qcp (P:=Tryz.prog) (w:=w.alloc (.cells #[] 44)) (B:=w.heap.size) 27 27 44 i0 _ 9 udh hi0 hz0 hz1 rfl (by decide) _ 0 [] hW (some ad) n c xs (fun h=>by cases h) hxl (fun ad' e=>by cases e; exact hcell) h1 (by rw [uai]; exact h63) (by rw [hz2,uai]; exact hby) (by simp);have hr':∀ ty,(Builtin.append_ #[27,27] ty #[.slice (some ⟨w.heap.size,0,none⟩) 0 0,.slice (some ad) n c]).run Tryz.prog (w.alloc (.cells #[] 44)) = .ok v' w':=fun ty=>hr;clear hr
  go_wp2_with (first|(simp only [hcmp]; done)|simp only [hcmp]|(at_builtin; refine uce _ rfl _ _ _ _ rfl _ _ rfl rfl _ _ (hr' _) ?_))
  go_ret
  rw [uai,uav] at e2;refine ⟨v',rfl,⟨e3.os,e3.tape,e3.output,ual (by simp) e3.size,fun k hk _=>(e3.block k (by simp; omega) (fun e=>?_)).trans (yh w _ k hk)⟩,e2⟩;have:k=w.heap.size:=by simpa [Value.ownBlock] using e
  omega
end Go.Proofs.YtgieagiaagoogaaGreat
namespace Go.Proofs.YtgieagiaagoogaaGreat
open Go Go.Ab Go.RowKit Go.Proofs
def plI {α:Type} (g:α->Int) (l:List α) (x:α):Int:=qki (fun y=>decide (g y>g x)) l
def qbe {α:Type} (g:α->Int) (l:List α) (x:α):List α:=qkk (if plI g l x<0 then (l.length:Int) else plI g l x) l [x]
abbrev PPl (T:Ty):List PT:=[.d (.sl T),.d T,.fn [T] [i64]]
def zkf (T:Ty) (n:Nat) (x:qn (PPl T)):Fr (qi [.sl T]):=
 Fr.need (∀ y:qi [T],WfL [T] y->qr ([]:List Prop)) (Fr.br (decide (plI (fun y=>(x.2.2.1 (y,())).1) x.1 x.2.1<0))
  (Fr.need (x.1.length<=maxLen) (Fr.need (x.1.length*n<=140737488355328) (Fr.need (0<=(x.1.length:Int)/\(x.1.length:Int)<=x.1.length) (Fr.need ([x.2.1].length=1) (Fr.need (x.1.length+1<=maxLen/\(x.1.length+1)*n<=140737488355328)
   (Fr.val (qkk (x.1.length:Int) x.1 [x.2.1],())))))))
  (Fr.need (x.1.length<=maxLen) (Fr.need (x.1.length*n<=140737488355328) (Fr.need (0<=plI (fun y=>(x.2.2.1 (y,())).1) x.1 x.2.1/\plI (fun y=>(x.2.2.1 (y,())).1) x.1 x.2.1<=x.1.length) (Fr.need ([x.2.1].length=1) (Fr.need (x.1.length+1<=maxLen/\(x.1.length+1)*n<=140737488355328)
   (Fr.val (qkk (plI (fun y=>(x.2.2.1 (y,())).1) x.1 x.2.1) x.1 [x.2.1],()))))))))
def qym (T:Ty):Ct:=⟨PPl T,[.sl T],fun x=>(qbe (fun y=>(x.2.2.1 (y,())).1) x.1 x.2.1,()),fun x=>[x.1.length<=100000]⟩
theorem zua (T:Ty) {n:Nat} (hn:n<=1000) (x:qn (PPl T)) (hl:x.1.length<=100000):(zkf T n x).ok/\(zkf T n x).get=(qbe (fun y=>(x.2.2.1 (y,())).1) x.1 x.2.1,()):=by
 have h1:x.1.length<=maxLen:=by unfold maxLen; omega
 have h2:x.1.length*n<=140737488355328:=by
  have:x.1.length*n<=100000*1000:=Nat.mul_le_mul hl hn;omega
 have h3:x.1.length+1<=maxLen/\(x.1.length+1)*n<=140737488355328:=by
  refine ⟨by unfold maxLen; omega,?_⟩;have:(x.1.length+1)*n<=100001*1000:=Nat.mul_le_mul (by omega) hn;omega
 refine Fr.need_ (fun _ _=>trivial) ?_;by_cases hp:plI (fun y=>(x.2.2.1 (y,())).1) x.1 x.2.1<0
 ·exact Fr.br_t (decide_eq_true hp) (Fr.need_ h1 (Fr.need_ h2 (Fr.need_ ⟨by omega,by omega⟩ (Fr.need_ rfl (Fr.need_ h3 ⟨trivial,by unfold qbe; rw [if_pos hp]; rfl⟩)))))
 ·refine Fr.br_f (decide_eq_false hp) (Fr.need_ h1 (Fr.need_ h2 (Fr.need_ ⟨by omega,?_⟩ (Fr.need_ rfl (Fr.need_ h3 ⟨trivial,by unfold qbe; rw [if_neg hp]; rfl⟩)))));exact Int.le_of_lt (qrk (by unfold plI at hp; omega)).1
theorem zzu {i:Int} {n:Nat} (a:0<=i) (b:i<(n:Int)):i.toNat<n:=by omega
abbrev PWi (T:Ty):List PT:=[.d (.sl T),.d i64,.d T]
def zs4 (T:Ty) (n:Nat) (x:qn (PWi T)):Fr (qi [.sl T]):=
 Fr.need (x.1.length<=maxLen) (Fr.need (x.1.length*n<=140737488355328) (Fr.need (0<=x.2.1/\x.2.1<(x.1.length:Int)) (Fr.need (x.2.1.toNat<x.1.length) (Fr.val (x.1.set x.2.1.toNat x.2.2.1,())))))
def zrs (T:Ty):Ct:=⟨PWi T,[.sl T],fun x=>(x.1.set x.2.1.toNat x.2.2.1,()),fun x=>[x.1.length<=100000,0<=x.2.1/\x.2.1<(x.1.length:Int)]⟩
theorem yg8 (T:Ty) {n:Nat} (hn:n<=1000) (x:qn (PWi T)) (hl:x.1.length<=100000) (hi:0<=x.2.1/\x.2.1<(x.1.length:Int)):(zs4 T n x).ok/\(zs4 T n x).get=(x.1.set x.2.1.toNat x.2.2.1,()):=by
 obtain ⟨l,i,y,_⟩:=x;have h1:l.length<=maxLen:=by unfold maxLen; exact Nat.le_trans hl (by decide)
 have h2:l.length*n<=140737488355328:=by
  have:l.length*n<=100000*1000:=Nat.mul_le_mul hl hn;omega
 have h3:i.toNat<l.length:=zzu hi.1 hi.2;exact Fr.need_ h1 (Fr.need_ h2 (Fr.need_ hi (Fr.need_ h3 ⟨trivial,rfl⟩)))
def qic (T:Ty):Ct:=⟨[.d T,.pfn [T] [i64],.ptr T],[.bool],fun x=>(decide ((x.2.1 (x.1,())).1>(x.2.1 (x.2.2.1,())).1),()),fun _=>[]⟩
noncomputable def CS6:Cx:=cx [] []
theorem xk:CxOK Tryz.prog CS6:=zc (cs:=[]) (ps:=[]) qv trivial trivial
theorem ykg:qa Tryz.prog 260 (qic zf):=
 conv (qg xk (Λ:=qq) (fn:=Tryz.f260) (fr:=fun x=>Fr.val (decide ((x.2.1 (x.1,())).1>(x.2.1 (x.2.2.1,())).1),())) (ps:=(qic zf).ps) (rs:=[.bool]) (dfP (qic zf).ps) (by kernel_rfl) (fun c E _=>qe c 0) (fun x=>by kernel_rfl)) _ _ (fun _ _ _ _ _ _=>⟨trivial,rfl⟩)
noncomputable def ysj:Cx:=cxR [(80,qdg zf),(260,qic zf)] [] [(262,.clone 56 zf 120),(261,.ins 56 zf 120)] (fun _ _ _ _=>none)
theorem zo1:CxOK Tryz.prog ysj:=qul (cs:=[(80,qdg zf),(260,qic zf)]) (ps:=[]) (rs:=[(262,.clone 56 zf 120),(261,.ins 56 zf 120)]) qv ⟨zpt,ykg,trivial⟩ trivial ⟨zrx,yjf,trivial⟩ (fun _ _ _ _ _ h=>(nomatch h))
theorem zyr:qa Tryz.prog 257 (qym zf):=
 conv (qg zo1 (Λ:=qq) (fn:=Tryz.f257) (fr:=zkf zf 120) (ps:=PPl zf) (rs:=[.sl zf]) (dfP (PPl zf)) (by kernel_rfl) (fun c E _=>qe c 0) (fun x=>by kernel_rfl)) _ _ (fun _ _ x _ _ h=>zua zf (by decide) x h)
theorem yfu:qa Tryz.prog 271 (zrs zf):=
 conv (qg zo1 (Λ:=qq) (fn:=Tryz.f271) (fr:=zs4 zf 120) (ps:=PWi zf) (rs:=[.sl zf]) (dfP (PWi zf)) (by kernel_rfl) (fun c E _=>qe c 0) (fun x=>by kernel_rfl)) _ _ (fun _ _ x _ _ h=>yg8 zf (by decide) x h.1 h.2)
theorem ykh:qa Tryz.prog 277 (qic qt):=
 conv (qg xk (Λ:=qq) (fn:=Tryz.f277) (fr:=fun x=>Fr.val (decide ((x.2.1 (x.1,())).1>(x.2.1 (x.2.2.1,())).1),())) (ps:=(qic qt).ps) (rs:=[.bool]) (dfP (qic qt).ps) (by kernel_rfl) (fun c E _=>qe c 0) (fun x=>by kernel_rfl)) _ _ (fun _ _ _ _ _ _=>⟨trivial,rfl⟩)
noncomputable def ysk:Cx:=cxR [(93,qdg qt),(277,qic qt)] [] [(279,.clone 76 qt 72),(278,.ins 76 qt 72)] (fun _ _ _ _=>none)
theorem zo2:CxOK Tryz.prog ysk:=qul (cs:=[(93,qdg qt),(277,qic qt)]) (ps:=[]) (rs:=[(279,.clone 76 qt 72),(278,.ins 76 qt 72)]) qv ⟨zdb,ykh,trivial⟩ trivial ⟨zrz,yjg,trivial⟩ (fun _ _ _ _ _ h=>(nomatch h))
theorem zys:qa Tryz.prog 274 (qym qt):=
 conv (qg zo2 (Λ:=qq) (fn:=Tryz.f274) (fr:=zkf qt 72) (ps:=PPl qt) (rs:=[.sl qt]) (dfP (PPl qt)) (by kernel_rfl) (fun c E _=>qe c 0) (fun x=>by kernel_rfl)) _ _ (fun _ _ x _ _ h=>zua qt (by decide) x h)
theorem yfv:qa Tryz.prog 286 (zrs qt):=
 conv (qg zo2 (Λ:=qq) (fn:=Tryz.f286) (fr:=zs4 qt 72) (ps:=PWi qt) (rs:=[.sl qt]) (dfP (PWi qt)) (by kernel_rfl) (fun c E _=>qe c 0) (fun x=>by kernel_rfl)) _ _ (fun _ _ x _ _ h=>yg8 qt (by decide) x h.1 h.2)
theorem yki:qa Tryz.prog 304 (qic qb):=
 conv (qg xk (Λ:=qq) (fn:=Tryz.f304) (fr:=fun x=>Fr.val (decide ((x.2.1 (x.1,())).1>(x.2.1 (x.2.2.1,())).1),())) (ps:=(qic qb).ps) (rs:=[.bool]) (dfP (qic qb).ps) (by kernel_rfl) (fun c E _=>qe c 0) (fun x=>by kernel_rfl)) _ _ (fun _ _ _ _ _ _=>⟨trivial,rfl⟩)
noncomputable def ysl:Cx:=cxR [(301,qdg qb),(304,qic qb)] [] [(306,.clone 44 qb 72),(305,.ins 44 qb 72)] (fun _ _ _ _=>none)
theorem yhq:CxOK Tryz.prog ysl:=qul (cs:=[(301,qdg qb),(304,qic qb)]) (ps:=[]) (rs:=[(306,.clone 44 qb 72),(305,.ins 44 qb 72)]) qv ⟨zpu,yki,trivial⟩ trivial ⟨zr0,yjh,trivial⟩ (fun _ _ _ _ _ h=>(nomatch h))
theorem zyt:qa Tryz.prog 300 (qym qb):=
 conv (qg yhq (Λ:=qq) (fn:=Tryz.f300) (fr:=zkf qb 72) (ps:=PPl qb) (rs:=[.sl qb]) (dfP (PPl qb)) (by kernel_rfl) (fun c E _=>qe c 0) (fun x=>by kernel_rfl)) _ _ (fun _ _ x _ _ h=>zua qb (by decide) x h)
abbrev kr (s:stateT.den):List zf.den:=s.2.1
abbrev xb (s:stateT.den):List qt.den:=s.2.2.1
abbrev yw (s:stateT.den):List qb.den:=s.2.2.2.1
abbrev qmr (s:stateT.den):Int:=s.2.2.2.2.1
abbrev zt (f:factT.den):Int:=f.1
abbrev za (f:factT.den):Int:=f.2.1
abbrev fId (f:factT.den):Int:=f.2.2.1
abbrev qif (f:factT.den):Int:=f.2.2.2.1
abbrev qfw (f:factT.den):Int:=f.2.2.2.2.1
abbrev qhp (f:factT.den):zo.den:=f.2.2.2.2.2.1
abbrev qei (f:factT.den):qd.den:=f.2.2.2.2.2.2.1
abbrev qao (f:factT.den):jx.den:=f.2.2.2.2.2.2.2.1
abbrev qsj (f:factT.den):zh.den:=f.2.2.2.2.2.2.2.2.1
abbrev jh (f:factT.den):qb.den:=f.2.2.2.2.2.2.2.2.2.1
abbrev aId (a:zf.den):Int:=a.1.1
abbrev gId (g:qt.den):Int:=g.1.1
def qhe (s:stateT.den) (id:Int):Int:=qki (fun a=>aId a==id) (kr s)
def qe5 (s:stateT.den) (id:Int):Int:=qki (fun g=>gId g==id) (xb s)
def qi7 (s:stateT.den) (id:Int):zf.den×Bool:=if qhe s id≥0 then ((kr s).getD (qhe s id).toNat zf.dflt,true) else (zf.dflt,false)
def qpe (s:stateT.den) (id:Int):qt.den×Bool:=if qe5 s id≥0 then ((xb s).getD (qe5 s id).toNat qt.dflt,true) else (qt.dflt,false)
def zih:Ct:=⟨[.d zf,.ptr i64],[.bool],fun x=>(aId x.1==x.2.1,()),fun _=>[]⟩
def zio:Ct:=⟨[.d qt,.ptr i64],[.bool],fun x=>(gId x.1==x.2.1,()),fun _=>[]⟩
theorem ymo:qa Tryz.prog 81 zih:=
 conv (qg xk (Λ:=qq) (fn:=Tryz.f81) (fr:=fun x=>Fr.val (aId x.1==x.2.1,())) (ps:=zih.ps) (rs:=[.bool]) (dfP zih.ps) (by kernel_rfl) (fun c E _=>qe c 0) (fun x=>by kernel_rfl)) _ _ (fun _ _ _ _ _ _=>⟨trivial,rfl⟩)
theorem ynu:qa Tryz.prog 94 zio:=
 conv (qg xk (Λ:=qq) (fn:=Tryz.f94) (fr:=fun x=>Fr.val (gId x.1==x.2.1,())) (ps:=zio.ps) (rs:=[.bool]) (dfP zio.ps) (by kernel_rfl) (fun c E _=>qe c 0) (fun x=>by kernel_rfl)) _ _ (fun _ _ _ _ _ _=>⟨trivial,rfl⟩)
noncomputable def CS7:Cx:=cx [(80,qdg zf),(93,qdg qt),(81,zih),(94,zio)] []
theorem zvn:CxOK Tryz.prog CS7:=zc (cs:=[(80,qdg zf),(93,qdg qt),(81,zih),(94,zio)]) (ps:=[]) qv ⟨zpt,zdb,ymo,ynu,trivial⟩ trivial
abbrev PSI:List PT:=[.d stateT,.d i64]
def zg0:Ct:=⟨PSI,[i64],fun x=>(qhe x.1 x.2.1,()),fun _=>[]⟩
def zg4:Ct:=⟨PSI,[i64],fun x=>(qe5 x.1 x.2.1,()),fun _=>[]⟩
theorem zo4:qa Tryz.prog 48 zg0:=
 conv (qg zvn (Λ:=qq) (fn:=Tryz.f48) (fr:=fun x=>Fr.need (∀ y:qi [zf],WfL [zf] y->qr ([]:List Prop)) (Fr.val (qhe x.1 x.2.1,()))) (ps:=PSI) (rs:=[i64]) (dfP PSI) (by kernel_rfl) (fun c E _=>qe c 0) (fun x=>by kernel_rfl)) _ _ (fun _ _ _ _ _ _=>Fr.need_ (fun _ _=>trivial) ⟨trivial,rfl⟩)
theorem zpm:qa Tryz.prog 60 zg4:=
 conv (qg zvn (Λ:=qq) (fn:=Tryz.f60) (fr:=fun x=>Fr.need (∀ y:qi [qt],WfL [qt] y->qr ([]:List Prop)) (Fr.val (qe5 x.1 x.2.1,()))) (ps:=PSI) (rs:=[i64]) (dfP PSI) (by kernel_rfl) (fun c E _=>qe c 0) (fun x=>by kernel_rfl)) _ _ (fun _ _ _ _ _ _=>Fr.need_ (fun _ _=>trivial) ⟨trivial,rfl⟩)
noncomputable def ysm:Cx:=cx [(48,zg0),(60,zg4)] []
theorem zo3:CxOK Tryz.prog ysm:=zc (cs:=[(48,zg0),(60,zg4)]) (ps:=[]) qv ⟨zo4,zpm,trivial⟩ trivial
def qzt:Ct:=⟨PSI,[zf,.bool],fun x=>((qi7 x.1 x.2.1).1,(qi7 x.1 x.2.1).2,()),fun _=>[]⟩
def ziq:Ct:=⟨PSI,[qt,.bool],fun x=>((qpe x.1 x.2.1).1,(qpe x.1 x.2.1).2,()),fun _=>[]⟩
theorem zh7:qa Tryz.prog 21 qzt:=
 conv (qg zo3 (Λ:=qq) (fn:=Tryz.f21) (fr:=fun x=>Fr.br (decide (qhe x.1 x.2.1≥0)) (Fr.need (0<=qhe x.1 x.2.1/\qhe x.1 x.2.1<((kr x.1).length:Int)) (Fr.val ((kr x.1).getD (qhe x.1 x.2.1).toNat zf.dflt,true,()))) (Fr.val (zf.dflt,false,()))) (ps:=PSI) (rs:=[zf,.bool]) (dfP PSI) (by kernel_rfl) (fun c E _=>qe c 0) (fun x=>by kernel_rfl)) _ _ (fun _ _ x _ _ _=>by
  by_cases h:qhe x.1 x.2.1≥0
  ·refine Fr.br_t (decide_eq_true h) (Fr.need_ ⟨h,(qrk h).1⟩ ⟨trivial,?_⟩);show _=((qi7 x.1 x.2.1).1,(qi7 x.1 x.2.1).2,());unfold qi7; rw [if_pos h]; rfl
  ·refine Fr.br_f (decide_eq_false h) ⟨trivial,?_⟩;show _=((qi7 x.1 x.2.1).1,(qi7 x.1 x.2.1).2,());unfold qi7; rw [if_neg h]; rfl)
theorem ycf:qa Tryz.prog 31 ziq:=
 conv (qg zo3 (Λ:=qq) (fn:=Tryz.f31) (fr:=fun x=>Fr.br (decide (qe5 x.1 x.2.1≥0)) (Fr.need (0<=qe5 x.1 x.2.1/\qe5 x.1 x.2.1<((xb x.1).length:Int)) (Fr.val ((xb x.1).getD (qe5 x.1 x.2.1).toNat qt.dflt,true,()))) (Fr.val (qt.dflt,false,()))) (ps:=PSI) (rs:=[qt,.bool]) (dfP PSI) (by kernel_rfl) (fun c E _=>qe c 0) (fun x=>by kernel_rfl)) _ _ (fun _ _ x _ _ _=>by
  by_cases h:qe5 x.1 x.2.1≥0
  ·refine Fr.br_t (decide_eq_true h) (Fr.need_ ⟨h,(qrk h).1⟩ ⟨trivial,?_⟩);show _=((qpe x.1 x.2.1).1,(qpe x.1 x.2.1).2,());unfold qpe; rw [if_pos h]; rfl
  ·refine Fr.br_f (decide_eq_false h) ⟨trivial,?_⟩;show _=((qpe x.1 x.2.1).1,(qpe x.1 x.2.1).2,());unfold qpe; rw [if_neg h]; rfl)
def qmk (t:ze.den):stateT.den:=(t,[],[],[],0,())
def qr5:Ct:=⟨[.d ze],[stateT],fun x=>(qmk x.1,()),fun _=>[]⟩
theorem zya:qa Tryz.prog 28 qr5:=
 conv (qg xk (Λ:=qq) (fn:=Tryz.f28) (fr:=fun x=>Fr.val (qmk x.1,())) (ps:=[.d ze]) (rs:=[stateT]) (dfP [.d ze]) (by kernel_rfl) (fun c E _=>qe c 0) (fun x=>by kernel_rfl)) _ _ (fun _ _ _ _ _ _=>⟨trivial,rfl⟩)
def qp2 (n a b:Int):Bool:=bif decide (n≥a) then decide (n<=b) else false
theorem zz8 {n a b:Int}:qp2 n a b=true↔a<=n/\n<=b:=by
 unfold qp2;by_cases h:a<=n<;>simp [h]
abbrev zh4:List PT:=[.d i64,.d i64,.d i64]
def qai:Ct:=⟨zh4,[.bool],fun x=>(qp2 x.1 x.2.1 x.2.2.1,()),fun _=>[]⟩
theorem zf4:qa Tryz.prog 59 qai:=
 conv (qg xk (Λ:=qq) (fn:=Tryz.f59) (fr:=fun x=>Fr.val (qp2 x.1 x.2.1 x.2.2.1,())) (ps:=zh4) (rs:=[.bool]) (dfP zh4) (by kernel_rfl) (fun c E _=>qe c 0) (fun x=>by kernel_rfl)) _ _ (fun _ _ _ _ _ _=>⟨trivial,rfl⟩)
def ygf:Ct:=⟨[.d jx],[qt],fun x=>((x.1,[],()),()),fun _=>[]⟩
theorem ykc:qa Tryz.prog 275 ygf:=
 conv (qg xk (Λ:=qq) (fn:=Tryz.f275) (fr:=fun x=>Fr.val ((x.1,[],()),())) (ps:=[.d jx]) (rs:=[qt]) (dfP [.d jx]) (by kernel_rfl) (fun c E _=>qe c 0) (fun x=>by kernel_rfl)) _ _ (fun _ _ _ _ _ _=>⟨trivial,rfl⟩)
def za4 (g:qt.den):Int:=match g.2.1.getLast? with
 |some a=>a.1
 |none=>g.1.2.2.2.2.1
def qw0 (g:qt.den):Fr (qi [i64]):=Fr.br (decide (((List.length g.2.1):Int)>0)) (Fr.need (0<=IntKind.i64.wrap (((List.length g.2.1):Int)-1)/\IntKind.i64.wrap (((List.length g.2.1):Int)-1)<((List.length g.2.1):Int)) (Fr.val ((List.getD g.2.1 (IntKind.i64.wrap (((List.length g.2.1):Int)-1)).toNat zh.dflt).1,()))) (Fr.val (g.1.2.2.2.2.1,()))
theorem yjp {c:jx.den} {l:List zh.den} (hlen:(l.length:Int)<=9223372036854775807):(qw0 (c,l,())).ok/\(qw0 (c,l,())).get=(za4 (c,l,()),()):=by
 cases l with
 |nil=>exact Fr.br_f rfl ⟨trivial,rfl⟩
 |cons a r=>
  have hw:IntKind.i64.wrap (((a::r).length:Int)-1)=r.length:=by
   rw [uag _ (by simp only [uaf] at hlen ⊢; omega)]; simp
  unfold qw0;refine Fr.br_t (by simp) ?_;dsimp only;rw [hw];refine Fr.need_ ⟨by omega,by simp only [List.length_cons]; omega⟩ ⟨trivial,?_⟩;show ((List.getD (a::r) ((r.length:Int)).toNat zh.dflt).1,())=_;unfold za4;rw [List.getLast?_eq_getElem?,List.getD_eq_getElem?_getD];have:((r.length:Int)).toNat=(a::r).length-1:=by simp
  rw [this,ua7 (by simp)];rfl
def qzw:Ct:=⟨[.d qt],[i64],fun x=>(za4 x.1,()),fun _=>[]⟩
theorem ydf:qa Tryz.prog 288 qzw:=
 conv (qg xk (Λ:=qq) (fn:=Tryz.f288) (fr:=fun x=>qw0 x.1) (ps:=[.d qt]) (rs:=[i64]) (dfP [.d qt]) (by kernel_rfl) (fun c E _=>qe c 0) (fun x=>by kernel_rfl)) _ _ (fun w F x vs hr _=>by
  obtain ⟨⟨c,l,_⟩,_⟩:=x;obtain ⟨v,vs',rfl,hv,_⟩:=hr;have h1:l.length<=maxLen:=(qs.wf hv.2.2).2.1.1;have hlen:(l.length:Int)<=9223372036854775807:=by
   unfold maxLen at h1;omega
  exact yjp hlen)
abbrev qwT:Ty:=.pair i64 (.pair i64 .unit)
noncomputable def CS8:Cx:=cx [] []
theorem ymc:CxOK Tryz.prog CS8:=zc (cs:=[]) (ps:=[]) qv trivial trivial
abbrev qay:Pt:=⟨24,0,⟨[(9,.d i64),(8,.d i64),(7,.d jg)],[.x 2 146 qwT,.r 2 2 0]⟩,⟨[],[]⟩,⟨[(4,.d .bool)],[]⟩⟩
def zpp (x:qay.M.X):Fr qay.Out:=
 Fr.br (decide (x.1.1<x.1.2.1)) (Fr.need (0<=x.1.1/\x.1.1<((List.length x.1.2.2.1):Int)) (Fr.br (bif decide (List.getD x.1.2.2.1 (Int.toNat x.1.1) i64.dflt<x.2.1.1) then true else decide (List.getD x.1.2.2.1 (Int.toNat x.1.1) i64.dflt>x.2.1.2.1)) (Fr.val (Rd.back ((false,()),()))) (Fr.val (Rd.next ((IntKind.i64.wrap (x.1.1+1),x.1.2.1,x.1.2.2.1,()),(x.2.1.1,x.2.1.2.1,()),()))))) (Fr.val (Rd.out ((),())))
theorem yez:qf Tryz.prog (qo Tryz.f67 0) qay.M qay zpp:=
 qf.of_run ymc (bs:=0) (Λ:=qq) rfl rfl rfl (fun E=>qe _ 0) (fun x=>by kernel_rfl)
abbrev qns:Type:=qn []×jd [.x 2 146 qwT,.r 2 2 0]
def qd0 (e:i64.den) (s:qns):Fr (qns ⊕ qay.R.X):=
 Fr.br (bif decide (e<s.2.1.1) then true else decide (e>s.2.1.2.1)) (Fr.val (.inr ((false,()),()))) (Fr.val (.inl ((),(s.2.1.1,s.2.1.2.1,()),())))
def qev (x:qay.M.X):Int×List i64.den×qns:=(x.1.1,x.1.2.2.1,x.1.2.2.2,x.2)
def qpk (x:qay.M.X):Prop:=x.1.2.1=(x.1.2.2.1.length:Int)
def qzg (s:qns):qay.E.X:=((),())
def zcs:qns:=(dfP _,dfM _)
def qrc:qay.R.X:=(dfP _,dfM _)
theorem zx4:qf Tryz.prog (.loop (qo Tryz.f67 0)) qay.M qay (FL qd0 qev qpk qzg Rd.back zcs qrc):=by
 refine qf.list yez qd0 qev qpk qzg Rd.back zcs qrc ?_ ?_
 ·rintro ⟨⟨i,n,l,s⟩,m⟩ hg h0 h1 hb e he Q h;have hg:n=(l.length:Int):=hg;subst hg;have h0:0<=i:=h0;have h1:i<(l.length:Int):=h1;have hb:(l.length:Int)<=9223372036854775807:=hb;have hd:l.getD i.toNat i64.dflt=e:=zp he;have hw:=zu h0 h1 hb;dsimp only [qev,qd0,zpp,Fr.satP] at h ⊢;simp only [hd,hw] at h ⊢;refine ⟨fun _=>?_,fun hn=>absurd h1 (of_decide_eq_false hn)⟩
  repeat' first
   |exact h
   |exact ⟨h0,h1⟩
   |exact fun _=>⟨h0,h1⟩
   |exact h _ rfl rfl
   |(refine ⟨fun hc=>?_,fun hc=>?_⟩<;>first|replace h:=h.1 hc|replace h:=h.2 hc)
   |(refine ⟨h.1,?_⟩; replace h:=h.2)
   |refine ⟨⟨h0,h1⟩,?_⟩
   |exact h.1
   |exact h.2.1
   |exact h.2.2.1
   |refine ⟨?_,?_⟩
   |(intro (hc:_=true); replace h:=h.1 hc)
   |(intro (hc:_=false); replace h:=h.2 hc)
   |(replace h:=h.2)
 ·rintro ⟨⟨i,n,l,s⟩,m⟩ hg h1 Q h;have hg:n=(l.length:Int):=hg;subst hg;exact ⟨fun hn=>absurd (ua5 hn) h1,fun _=>h⟩
def yqa (Γ:Gm):St->Option Tr:=qay.han Γ qay.M (FL qd0 qev qpk qzg Rd.back zcs qrc)
def qks (y:qay.M.X):qns ⊕ qay.R.X:=goL qd0 ((qev y).2.1.drop (qev y).1.toNat) (qev y).2.2
def ydo (y:qay.M.X):Prop:=okL qd0 ((qev y).2.1.drop (qev y).1.toNat) (qev y).2.2
theorem qc8 {T σ ρ:Type} {step:T->σ->Fr (σ ⊕ ρ)}:(l:List T)->(∀ e∈l,∀ s,(step e s).ok)->(s:σ)->okL step l s
 |[],_,_=>trivial
 |e::l,h,s=>⟨h e ubk s,by
   split
   ·exact qc8 l (fun e he=>h e (ua8 _ he)) _
   ·trivial⟩
theorem qc7 {T σ ρ:Type} {step:T->σ->Fr (σ ⊕ ρ)} {I:σ->Prop} {p:T->Bool} {c:ρ} (h:∀ e s,I s->(step e s).get=if p e=true then .inl s else .inr c):(l:List T)->(s:σ)->I s->goL step l s=if l.all p=true then .inl s else .inr c
 |[],_,_=>rfl
 |e::l,s,hs=>by
  by_cases hp:p e=true
  ·simp only [goL,h e s hs,hp,if_true,uc8,ud9];exact qc7 h l s hs
  ·simp only [goL,h e s hs,hp,ub3,uc8,Bool.false_and,ubt]
noncomputable def CS9:Cx:=cx [] []
theorem zvo:CxOK Tryz.prog CS9:=zc (cs:=[]) (ps:=[]) qv trivial trivial
def qwx (x:qn [.d qwT,.d jg]):Fr (qi [.bool]):=
 Fr.need (InL (qpk ((0,((List.length x.2.1):Int),x.2.1,()),(x.1.1,x.1.2.1,()),())) (qev ((0,((List.length x.2.1):Int),x.2.1,()),(x.1.1,x.1.2.1,()),()))) (Fr.need (ydo ((0,((List.length x.2.1):Int),x.2.1,()),(x.1.1,x.1.2.1,()),())) (Fr.br (isL (qks ((0,((List.length x.2.1):Int),x.2.1,()),(x.1.1,x.1.2.1,()),()))) (Fr.val (true,())) (Fr.val ((jk qrc (qks ((0,((List.length x.2.1):Int),x.2.1,()),(x.1.1,x.1.2.1,()),()))).1.1,()))))
theorem zss:qa Tryz.prog 67 ⟨[.d qwT,.d jg],[.bool],fun xs=>(qwx xs).get,fun xs=>[(qwx xs).ok]⟩:=
 qg zvo (Λ:=(fun _=>yqa CS9.Γ)) (fn:=Tryz.f67) (dfP [.d qwT,.d jg]) (by kernel_rfl) (fun c E hc=>jb hc (by kernel_rfl) (b:=qo Tryz.f67 0) (by kernel_rfl) (qf.han zvo rfl zx4)) (fun x=>by kernel_rfl)
def qkg (a b:Int) (l:List Int):Bool:=l.all fun x=>decide (a<=x)&&decide (x<=b)
def vr:Ct:=⟨[.d qwT,.d jg],[.bool],fun x=>(qkg x.1.1 x.1.2.1 x.2.1,()),fun _=>[]⟩
theorem ynz (a b:Int) (l:List Int):goL qd0 l ((),(a,b,()),())=if qkg a b l=true then .inl ((),(a,b,()),()) else .inr ((false,()),()):=
 qc7 (I:=fun s=>s=((),(a,b,()),())) (fun e s hs=>by
  subst hs;by_cases h1:e<a
  ·rw [if_neg (by simp; omega)];exact if_pos (by simp [h1])
  ·by_cases h2:e>b
   ·rw [if_neg (by simp; omega)];exact if_pos (by simp [h2])
   ·rw [if_pos (by simp; omega)];exact if_neg (by simp; omega)) l _ rfl
theorem yn0:qa Tryz.prog 67 vr:=
 conv zss _ _ (fun w F x vs hr _=>by
  obtain ⟨⟨a,b,_⟩,l,_⟩:=x;obtain ⟨v,vs',rfl,hv,hr'⟩:=hr;obtain ⟨v',vs'',rfl,hv',_⟩:=hr';have hlen:((List.length (α:=Int) l:Nat):Int)<=9223372036854775807:=qcn hv';show (qwx ((a,b,()),l,())).ok/\(qwx ((a,b,()),l,())).get=(qkg a b l,());refine Fr.need_ ⟨rfl,ua4 _,uak _,hlen⟩ (Fr.need_ (qc8 (step:=qd0) _ (fun e _ s=>⟨fun _=>trivial,fun _=>trivial⟩) _) ?_);have hg:qks ((0,((List.length (α:=Int) l:Nat):Int),l,()),(a,b,()),())=if qkg a b l=true then .inl ((),(a,b,()),()) else .inr ((false,()),()):=by
   show goL qd0 (List.drop 0 l) ((),(a,b,()),())=_;rw [uc7,ynz]
  cases hc:qkg a b l
  ·rw [hc,if_neg (by decide)] at hg;refine Fr.br_f (by show isL (qks ((0,((List.length (α:=Int) l:Nat):Int),l,()),(a,b,()),()))=false; rw [hg]; rfl) ⟨trivial,?_⟩;show ((jk qrc (qks ((0,((List.length (α:=Int) l:Nat):Int),l,()),(a,b,()),()))).1.1,())=_;rw [hg];rfl
  ·rw [hc,if_pos rfl] at hg;exact Fr.br_t (by show isL (qks ((0,((List.length (α:=Int) l:Nat):Int),l,()),(a,b,()),()))=true; rw [hg]; rfl) ⟨trivial,rfl⟩)
noncomputable def yr2:Cx:=cx [(67,vr),(68,qi9),(43,cIn),(59,qai)] []
theorem qnc:CxOK Tryz.prog yr2:=zc (cs:=[(67,vr),(68,qi9),(43,cIn),(59,qai)]) (ps:=[]) qv ⟨yn0,zlh,qlv,zf4,trivial⟩ trivial
def qge (x:qn [.d qb]):Fr (qi [.bool]):=
 Fr.br (!(vr.f ((1,1000000000,()),[x.1.1],())).1) (Fr.br true (Fr.val (false,())) (Fr.br (x.1.2.1==1) (Fr.br (vr.f ((1,10000,()),[x.1.2.2.2.1],())).1 (Fr.val ((vr.f ((0,0,()),[x.1.2.2.2.2.1,x.1.2.2.2.2.2.1,x.1.2.2.2.2.2.2.1],())).1,())) (Fr.val (false,()))) (Fr.br (x.1.2.1==2) (Fr.br (x.1.2.1==2) (Fr.br (x.1.2.2.2.1==0) (Fr.br (vr.f ((0,1000000000000000,()),[x.1.2.2.2.2.1,x.1.2.2.2.2.2.1],())).1 (Fr.br (decide (x.1.2.2.2.2.2.1>0)) (Fr.val ((vr.f ((0,100,()),[x.1.2.2.2.2.2.2.1],())).1,())) (Fr.val (false,()))) (Fr.val (false,()))) (Fr.val (false,()))) (Fr.val (false,()))) (Fr.br (x.1.2.1==3) (Fr.br (x.1.2.2.2.1==0) (Fr.br (vr.f ((0,1000000000000000,()),[x.1.2.2.2.2.1,x.1.2.2.2.2.2.1],())).1 (Fr.br (decide (x.1.2.2.2.2.2.1>0)) (Fr.val ((vr.f ((0,100,()),[x.1.2.2.2.2.2.2.1],())).1,())) (Fr.val (false,()))) (Fr.val (false,()))) (Fr.val (false,()))) (Fr.val (false,())))))) (Fr.br ((qi9.f ((x.1.2.2.1.1,x.1.2.2.1.2.1,()),())).1==0) (Fr.br true (Fr.val (false,())) (Fr.br (x.1.2.1==1) (Fr.br (vr.f ((1,10000,()),[x.1.2.2.2.1],())).1 (Fr.val ((vr.f ((0,0,()),[x.1.2.2.2.2.1,x.1.2.2.2.2.2.1,x.1.2.2.2.2.2.2.1],())).1,())) (Fr.val (false,()))) (Fr.br (x.1.2.1==2) (Fr.br (x.1.2.1==2) (Fr.br (x.1.2.2.2.1==0) (Fr.br (vr.f ((0,1000000000000000,()),[x.1.2.2.2.2.1,x.1.2.2.2.2.2.1],())).1 (Fr.br (decide (x.1.2.2.2.2.2.1>0)) (Fr.val ((vr.f ((0,100,()),[x.1.2.2.2.2.2.2.1],())).1,())) (Fr.val (false,()))) (Fr.val (false,()))) (Fr.val (false,()))) (Fr.val (false,()))) (Fr.br (x.1.2.1==3) (Fr.br (x.1.2.2.2.1==0) (Fr.br (vr.f ((0,1000000000000000,()),[x.1.2.2.2.2.1,x.1.2.2.2.2.2.1],())).1 (Fr.br (decide (x.1.2.2.2.2.2.1>0)) (Fr.val ((vr.f ((0,100,()),[x.1.2.2.2.2.2.2.1],())).1,())) (Fr.val (false,()))) (Fr.val (false,()))) (Fr.val (false,()))) (Fr.val (false,())))))) (Fr.br (!(vr.f ((1,255,()),[x.1.2.2.2.2.2.2.2.1],())).1) (Fr.val (false,())) (Fr.br (x.1.2.1==1) (Fr.br (vr.f ((1,10000,()),[x.1.2.2.2.1],())).1 (Fr.val ((vr.f ((0,0,()),[x.1.2.2.2.2.1,x.1.2.2.2.2.2.1,x.1.2.2.2.2.2.2.1],())).1,())) (Fr.val (false,()))) (Fr.br (x.1.2.1==2) (Fr.br (x.1.2.1==2) (Fr.br (x.1.2.2.2.1==0) (Fr.br (vr.f ((0,1000000000000000,()),[x.1.2.2.2.2.1,x.1.2.2.2.2.2.1],())).1 (Fr.br (decide (x.1.2.2.2.2.2.1>0)) (Fr.val ((vr.f ((0,100,()),[x.1.2.2.2.2.2.2.1],())).1,())) (Fr.val (false,()))) (Fr.val (false,()))) (Fr.val (false,()))) (Fr.val (false,()))) (Fr.br (x.1.2.1==3) (Fr.br (x.1.2.2.2.1==0) (Fr.br (vr.f ((0,1000000000000000,()),[x.1.2.2.2.2.1,x.1.2.2.2.2.2.1],())).1 (Fr.br (decide (x.1.2.2.2.2.2.1>0)) (Fr.val ((vr.f ((0,100,()),[x.1.2.2.2.2.2.2.1],())).1,())) (Fr.val (false,()))) (Fr.val (false,()))) (Fr.val (false,()))) (Fr.val (false,())))))))
theorem zjy:qa Tryz.prog 41 ⟨[.d qb],[.bool],fun xs=>(qge xs).get,fun xs=>[(qge xs).ok]⟩:=
 qg qnc (Λ:=qq) (fn:=Tryz.f41) (dfP [.d qb]) (by kernel_rfl) (fun c E _=>qe c 0) (fun x=>by kernel_rfl)
def qyw (x:qn [.d jx]):Fr (qi [.bool]):=
 Fr.val (bif bif bif bif (qai.f (x.1.1,1,1000000000,())).1 then (qai.f (x.1.2.1,1,1000000000,())).1 else false then (qai.f (x.1.2.2.2.2.2.1,0,1000000000,())).1 else false then bif (qai.f (x.1.2.2.2.1,1,292194,())).1 then (qai.f (x.1.2.2.2.2.1,1,292194,())).1 else false else false then (qai.f (x.1.2.2.1,0,7,())).1 else false,())
theorem znq:qa Tryz.prog 100 ⟨[.d jx],[.bool],fun xs=>(qyw xs).get,fun xs=>[(qyw xs).ok]⟩:=
 qg qnc (Λ:=qq) (fn:=Tryz.f100) (dfP [.d jx]) (by kernel_rfl) (fun c E _=>qe c 0) (fun x=>by kernel_rfl)
def qlt (x:qn [.d zh]):Fr (qi [.bool]):=
 Fr.br (bif x.1.2.1==4 then true else x.1.2.1==5) (Fr.val (bif bif (qai.f (x.1.1,1,292194,())).1 then (qai.f (x.1.2.1,1,5,())).1 else false then (qai.f (x.1.2.2.1,0,0,())).1 else false,())) (Fr.val (bif bif (qai.f (x.1.1,1,292194,())).1 then (qai.f (x.1.2.1,1,5,())).1 else false then (qai.f (x.1.2.2.1,0,1000000000000000,())).1 else false,()))
theorem zjt:qa Tryz.prog 27 ⟨[.d zh],[.bool],fun xs=>(qlt xs).get,fun xs=>[(qlt xs).ok]⟩:=
 qg qnc (Λ:=qq) (fn:=Tryz.f27) (dfP [.d zh]) (by kernel_rfl) (fun c E _=>qe c 0) (fun x=>by kernel_rfl)
def zcy (x:qn [.d factT]):Fr (qi [.bool]):=
 Fr.val (bif bif bif bif bif bif bif bif bif bif bif bif bif bif ((List.length x.1.2.2.2.2.2.2.1.2.2.2.2.1):Int)==0 then ((List.length x.1.2.2.2.2.2.1.2.2.1):Int)==0 else false then x.1.2.2.1==0 else false then x.1.2.2.2.1==0 else false then x.1.2.2.2.2.1==0 else false then x.1.2.2.2.2.2.1.1.1==0&&(x.1.2.2.2.2.2.1.1.2.1==0&&true) else false then x.1.2.2.2.2.2.1.2.1.1==0&&(x.1.2.2.2.2.2.1.2.1.2.1==0&&(x.1.2.2.2.2.2.1.2.1.2.2.1==0&&(x.1.2.2.2.2.2.1.2.1.2.2.2.1==0&&true))) else false then x.1.2.2.2.2.2.2.1.1==0 else false then x.1.2.2.2.2.2.2.1.2.1==0 else false then x.1.2.2.2.2.2.2.1.2.2.1==0 else false then x.1.2.2.2.2.2.2.1.2.2.2.2.2.1==0 else false then x.1.2.2.2.2.2.2.1.2.2.2.1.1==0&&(x.1.2.2.2.2.2.2.1.2.2.2.1.2.1==0&&(x.1.2.2.2.2.2.2.1.2.2.2.1.2.2.1==0&&(x.1.2.2.2.2.2.2.1.2.2.2.1.2.2.2.1==0&&true))) else false then x.1.2.2.2.2.2.2.2.1.1==0&&(x.1.2.2.2.2.2.2.2.1.2.1==0&&(x.1.2.2.2.2.2.2.2.1.2.2.1==0&&(x.1.2.2.2.2.2.2.2.1.2.2.2.1==0&&(x.1.2.2.2.2.2.2.2.1.2.2.2.2.1==0&&(x.1.2.2.2.2.2.2.2.1.2.2.2.2.2.1==0&&true))))) else false then x.1.2.2.2.2.2.2.2.2.1.1==0&&(x.1.2.2.2.2.2.2.2.2.1.2.1==0&&(x.1.2.2.2.2.2.2.2.2.1.2.2.1==0&&true)) else false then x.1.2.2.2.2.2.2.2.2.2.1.1==0&&(x.1.2.2.2.2.2.2.2.2.2.1.2.1==0&&(x.1.2.2.2.2.2.2.2.2.2.1.2.2.1.1==0&&(x.1.2.2.2.2.2.2.2.2.2.1.2.2.1.2.1==0&&true)&&(x.1.2.2.2.2.2.2.2.2.2.1.2.2.2.1==0&&(x.1.2.2.2.2.2.2.2.2.2.1.2.2.2.2.1==0&&(x.1.2.2.2.2.2.2.2.2.2.1.2.2.2.2.2.1==0&&(x.1.2.2.2.2.2.2.2.2.2.1.2.2.2.2.2.2.1==0&&(x.1.2.2.2.2.2.2.2.2.2.1.2.2.2.2.2.2.2.1==0&&true))))))) else false,())
theorem zsm:qa Tryz.prog 97 ⟨[.d factT],[.bool],fun xs=>(zcy xs).get,fun xs=>[(zcy xs).ok]⟩:=
 qg qnc (Λ:=qq) (fn:=Tryz.f97) (dfP [.d factT]) (by kernel_rfl) (fun c E _=>qe c 0) (fun x=>by kernel_rfl)
def qww (x:qn [.d qb,.d i64,.d i64]):Fr (qi [i64]):=
 Fr.need ((bif x.1.2.1 != 1 then true else !(cIn.f ((x.1.2.2.1.1,x.1.2.2.1.2.1,()),x.2.1,())).1)=false->¬x.2.2.1<0) (Fr.br (bif bif x.1.2.1 != 1 then true else !(cIn.f ((x.1.2.2.1.1,x.1.2.2.1.2.1,()),x.2.1,())).1 then true else IntKind.i64.wrap ((BitVec.ofInt IntKind.i64.bits (Int.fdiv x.1.2.2.2.2.2.2.2.1 (2 ^ min (Int.toNat x.2.2.1) IntKind.i64.bits)) &&& BitVec.ofInt IntKind.i64.bits 1).toNat:Int)==0) (Fr.val (0,())) (Fr.val (x.1.2.2.2.1,())))
theorem zsr:qa Tryz.prog 307 ⟨[.d qb,.d i64,.d i64],[i64],fun xs=>(qww xs).get,fun xs=>[(qww xs).ok]⟩:=
 qg qnc (Λ:=qq) (fn:=Tryz.f307) (dfP [.d qb,.d i64,.d i64]) (by kernel_rfl) (fun c E _=>qe c 0) (fun x=>by kernel_rfl)
def qab (t:qb.den):Bool:=(qge (t,())).get.1
def zv3 (c:jx.den):Bool:=(qyw (c,())).get.1
def qng (a:zh.den):Bool:=(qlt (a,())).get.1
def qzr (f:factT.den):Bool:=(zcy (f,())).get.1
def jc (t:qb.den) (day peril:Int):Int:=(qww (t,day,peril,())).get.1
def qj8:Ct:=⟨[.d qb],[.bool],fun x=>(qab x.1,()),fun _=>[]⟩
def zii:Ct:=⟨[.d jx],[.bool],fun x=>(zv3 x.1,()),fun _=>[]⟩
def qne:Ct:=⟨[.d zh],[.bool],fun x=>(qng x.1,()),fun _=>[]⟩
def zg1:Ct:=⟨[.d factT],[.bool],fun x=>(qzr x.1,()),fun _=>[]⟩
def qzy:Ct:=⟨[.d qb,.d i64,.d i64],[i64],fun x=>(jc x.1 x.2.1 x.2.2.1,()),fun x=>[¬ x.2.2.1<0]⟩
theorem zfh:qa Tryz.prog 41 qj8:=conv zjy _ _ (fun _ _ x _ _ _=>⟨by show (qge x).ok; unfold qge; (repeat' first|exact trivial|(refine ⟨fun _=>?_,fun _=>?_⟩)),rfl⟩)
theorem ybe:qa Tryz.prog 100 zii:=conv znq _ _ (fun _ _ x _ _ _=>⟨trivial,rfl⟩)
theorem zd7:qa Tryz.prog 27 qne:=conv zjt _ _ (fun _ _ x _ _ _=>⟨by show (qlt x).ok; unfold qlt; (repeat' first|exact trivial|(refine ⟨fun _=>?_,fun _=>?_⟩)),rfl⟩)
theorem yh7:qa Tryz.prog 97 zg1:=conv zsm _ _ (fun _ _ x _ _ _=>⟨trivial,rfl⟩)
theorem ykf:qa Tryz.prog 307 qzy:=conv zsr _ _ (fun _ _ x _ _ h=>⟨⟨fun _=>h,by (repeat' first|exact trivial|(refine ⟨fun _=>?_,fun _=>?_⟩))⟩,rfl⟩)
end Go.Proofs.YtgieagiaagoogaaGreat
namespace Go.Proofs.YtgieagiaagoogaaGreat
open Go Go.Ab Go.RowKit Go.Proofs Go.Shelf Go.Lib
abbrev wu:Ty:=.pair i64 (.pair i64 (.pair i64 (.pair i64 (.pair i64 (.pair .bool .unit)))))
theorem qrp {w:World} {F:Nat->Prop} {x:wu.den} {arr:Array Value} (hs:arr.size=wu.size) (h:qs w F wu x (fun j u=>arr[j]? = some u)) :
  arr = #[.int .i64 x.1,.int .i64 x.2.1,.int .i64 x.2.2.1,.int .i64 x.2.2.2.1,.int .i64 x.2.2.2.2.1,.bool x.2.2.2.2.2.1]:=by
 obtain ⟨h0,h1,h2,h3,h4,h5,_⟩:=h;refine Array.ext_getElem? fun j=>?_
 match j with
 |0=>exact h0.1
 |1=>exact h1.1
 |2=>exact h2.1
 |3=>exact h3.1
 |4=>exact h4.1
 |5=>exact h5
 |j+6=>
  rw [uel (by rw [hs]; show 6<=j+6; omega)];simp
theorem qbl {w:World} {F:Nat->Prop} {x:wu.den} (h0:inR .i64 x.1) (h1:inR .i64 x.2.1) (h2:inR .i64 x.2.2.1) (h3:inR .i64 x.2.2.2.1) (h4:inR .i64 x.2.2.2.2.1) :
  qs w F wu x (fun j u=>[Value.int .i64 x.1,.int .i64 x.2.1,.int .i64 x.2.2.1,.int .i64 x.2.2.2.1,.int .i64 x.2.2.2.2.1,.bool x.2.2.2.2.2.1][j]? = some u):=
 ⟨⟨rfl,h0⟩,⟨rfl,h1⟩,⟨rfl,h2⟩,⟨rfl,h3⟩,⟨rfl,h4⟩,rfl,trivial⟩
theorem qnm {w:World} {F:Nat->Prop} {y:qi [i64]} {vs:List Value} (h:qad w F [i64] y vs):vs=[.int .i64 y.1]/\inR .i64 y.1:=by
 obtain ⟨v,vs',rfl,⟨_,hw,h3⟩,h4⟩:=h;have h4:vs'=[]:=h4;subst h4;obtain ⟨h5,h6⟩:v.cells[0]? = some (Value.int .i64 y.1)/\inR .i64 y.1:=h3;have hv:v.cells = #[v]:=by
  cases v<;>first|rfl|(exact absurd (hw.2 ⟨_,rfl⟩) (by decide))
 rw [hv] at h5;cases h5;exact ⟨rfl,h6⟩
theorem qj9 {w:World} {b:Nat} {arr:Array Value} {ty:TypeId} (hg:w.heap[b]? = some (.cells arr ty (0,0))) (k:Nat):w.cell? ⟨b,k,none⟩=arr[k]? := by
 simp [World.cell?,hg]
theorem qlu {w:World} {b:Nat} {arr:Array Value} {ty:TypeId} (hg:w.heap[b]? = some (.cells arr ty (0,0))) (k:Nat):w.frozen? ⟨b,k,none⟩=false:=by
 simp [World.frozen?,hg]
set_option maxHeartbeats 4000000 in
set_option maxRecDepth 100000 in
theorem ycs:UpdOK Tryz.prog 290 wu [i64] (fun x y=>(y.1,x.2.1,x.2.2.1,x.2.2.2.1,x.2.2.2.2.1,x.2.2.2.2.2.1,())):=by
 refine ⟨ubz Tryz.func290 (by kernel_rfl) rfl,fun w F b ety arr x y vs hg hs ho hx hy=>?_⟩;obtain ⟨rfl,hr⟩:=qnm hy;have ha:=qrp hs hx;subst ha
 go_enter Tryz.func290,Tryz.ntmps290
 have hc:=qj9 hg;have hf:=qlu hg;obtain ⟨h0,h1,h2,h3,h4,h5,_⟩:=hx
 go_wp2_with (simp only [hc,hf])
 first
  |exact ⟨⟨_,rfl⟩,[.int .i64 y.1,.int .i64 x.2.1,.int .i64 x.2.2.1,.int .i64 x.2.2.2.1,.int .i64 x.2.2.2.2.1,.bool x.2.2.2.2.2.1],rfl,(uc2 w b 0 _ ety (0,0) _ hg).trans (by simp [wrap64,ub0]),qbl (x:=(y.1,x.2.1,x.2.2.1,x.2.2.2.1,x.2.2.2.2.1,x.2.2.2.2.2.1,())) (hr) (h1.2) (h2.2) (h3.2) (h4.2)⟩
  |exact ⟨.tuple #[],[.int .i64 y.1,.int .i64 x.2.1,.int .i64 x.2.2.1,.int .i64 x.2.2.2.1,.int .i64 x.2.2.2.2.1,.bool x.2.2.2.2.2.1],rfl,rfl,(uc2 w b 0 _ ety (0,0) _ hg).trans (by simp [wrap64,ub0]),qbl (x:=(y.1,x.2.1,x.2.2.1,x.2.2.2.1,x.2.2.2.2.1,x.2.2.2.2.2.1,())) (hr) (h1.2) (h2.2) (h3.2) (h4.2)⟩
  |exact uet (v:=.tuple #[]) (udq rfl _ _ _) rfl ⟨⟨_,rfl⟩,[.int .i64 y.1,.int .i64 x.2.1,.int .i64 x.2.2.1,.int .i64 x.2.2.2.1,.int .i64 x.2.2.2.2.1,.bool x.2.2.2.2.2.1],rfl,(uc2 w b 0 _ ety (0,0) _ hg).trans (by simp [wrap64,ub0]),qbl (x:=(y.1,x.2.1,x.2.2.1,x.2.2.2.1,x.2.2.2.2.1,x.2.2.2.2.2.1,())) (hr) (h1.2) (h2.2) (h3.2) (h4.2)⟩
set_option maxHeartbeats 4000000 in
set_option maxRecDepth 100000 in
theorem ypa:UpdOK Tryz.prog 291 wu [i64] (fun x y=>(x.1,IntKind.i64.wrap (x.2.1+y.1),x.2.2.1,x.2.2.2.1,x.2.2.2.2.1,x.2.2.2.2.2.1,())):=by
 refine ⟨ubz Tryz.func291 (by kernel_rfl) rfl,fun w F b ety arr x y vs hg hs ho hx hy=>?_⟩;obtain ⟨rfl,hr⟩:=qnm hy;have ha:=qrp hs hx;subst ha
 go_enter Tryz.func291,Tryz.ntmps291
 have hc:=qj9 hg;have hf:=qlu hg;obtain ⟨h0,h1,h2,h3,h4,h5,_⟩:=hx
 go_wp2_with (simp only [hc,hf])
 first
  |exact ⟨⟨_,rfl⟩,[.int .i64 x.1,.int .i64 (IntKind.i64.wrap (x.2.1+y.1)),.int .i64 x.2.2.1,.int .i64 x.2.2.2.1,.int .i64 x.2.2.2.2.1,.bool x.2.2.2.2.2.1],rfl,(uc2 w b 1 _ ety (0,0) _ hg).trans (by simp [wrap64,ub0]),qbl (x:=(x.1,IntKind.i64.wrap (x.2.1+y.1),x.2.2.1,x.2.2.2.1,x.2.2.2.2.1,x.2.2.2.2.2.1,())) (h0.2) (wq .i64 _) (h2.2) (h3.2) (h4.2)⟩
  |exact ⟨.tuple #[],[.int .i64 x.1,.int .i64 (IntKind.i64.wrap (x.2.1+y.1)),.int .i64 x.2.2.1,.int .i64 x.2.2.2.1,.int .i64 x.2.2.2.2.1,.bool x.2.2.2.2.2.1],rfl,rfl,(uc2 w b 1 _ ety (0,0) _ hg).trans (by simp [wrap64,ub0]),qbl (x:=(x.1,IntKind.i64.wrap (x.2.1+y.1),x.2.2.1,x.2.2.2.1,x.2.2.2.2.1,x.2.2.2.2.2.1,())) (h0.2) (wq .i64 _) (h2.2) (h3.2) (h4.2)⟩
  |exact uet (v:=.tuple #[]) (udq rfl _ _ _) rfl ⟨⟨_,rfl⟩,[.int .i64 x.1,.int .i64 (IntKind.i64.wrap (x.2.1+y.1)),.int .i64 x.2.2.1,.int .i64 x.2.2.2.1,.int .i64 x.2.2.2.2.1,.bool x.2.2.2.2.2.1],rfl,(uc2 w b 1 _ ety (0,0) _ hg).trans (by simp [wrap64,ub0]),qbl (x:=(x.1,IntKind.i64.wrap (x.2.1+y.1),x.2.2.1,x.2.2.2.1,x.2.2.2.2.1,x.2.2.2.2.2.1,())) (h0.2) (wq .i64 _) (h2.2) (h3.2) (h4.2)⟩
set_option maxHeartbeats 4000000 in
set_option maxRecDepth 100000 in
theorem zud:UpdOK Tryz.prog 292 wu [i64] (fun x y=>(x.1,x.2.1,x.2.2.1,IntKind.i64.wrap (x.2.2.2.1+y.1),x.2.2.2.2.1,x.2.2.2.2.2.1,())):=by
 refine ⟨ubz Tryz.func292 (by kernel_rfl) rfl,fun w F b ety arr x y vs hg hs ho hx hy=>?_⟩;obtain ⟨rfl,hr⟩:=qnm hy;have ha:=qrp hs hx;subst ha
 go_enter Tryz.func292,Tryz.ntmps292
 have hc:=qj9 hg;have hf:=qlu hg;obtain ⟨h0,h1,h2,h3,h4,h5,_⟩:=hx
 go_wp2_with (simp only [hc,hf])
 first
  |exact ⟨⟨_,rfl⟩,[.int .i64 x.1,.int .i64 x.2.1,.int .i64 x.2.2.1,.int .i64 (IntKind.i64.wrap (x.2.2.2.1+y.1)),.int .i64 x.2.2.2.2.1,.bool x.2.2.2.2.2.1],rfl,(uc2 w b 3 _ ety (0,0) _ hg).trans (by simp [wrap64,ub0]),qbl (x:=(x.1,x.2.1,x.2.2.1,IntKind.i64.wrap (x.2.2.2.1+y.1),x.2.2.2.2.1,x.2.2.2.2.2.1,())) (h0.2) (h1.2) (h2.2) (wq .i64 _) (h4.2)⟩
  |exact ⟨.tuple #[],[.int .i64 x.1,.int .i64 x.2.1,.int .i64 x.2.2.1,.int .i64 (IntKind.i64.wrap (x.2.2.2.1+y.1)),.int .i64 x.2.2.2.2.1,.bool x.2.2.2.2.2.1],rfl,rfl,(uc2 w b 3 _ ety (0,0) _ hg).trans (by simp [wrap64,ub0]),qbl (x:=(x.1,x.2.1,x.2.2.1,IntKind.i64.wrap (x.2.2.2.1+y.1),x.2.2.2.2.1,x.2.2.2.2.2.1,())) (h0.2) (h1.2) (h2.2) (wq .i64 _) (h4.2)⟩
  |exact uet (v:=.tuple #[]) (udq rfl _ _ _) rfl ⟨⟨_,rfl⟩,[.int .i64 x.1,.int .i64 x.2.1,.int .i64 x.2.2.1,.int .i64 (IntKind.i64.wrap (x.2.2.2.1+y.1)),.int .i64 x.2.2.2.2.1,.bool x.2.2.2.2.2.1],rfl,(uc2 w b 3 _ ety (0,0) _ hg).trans (by simp [wrap64,ub0]),qbl (x:=(x.1,x.2.1,x.2.2.1,IntKind.i64.wrap (x.2.2.2.1+y.1),x.2.2.2.2.1,x.2.2.2.2.2.1,())) (h0.2) (h1.2) (h2.2) (wq .i64 _) (h4.2)⟩
set_option maxHeartbeats 4000000 in
set_option maxRecDepth 100000 in
theorem ybk:UpdOK Tryz.prog 293 wu [i64] (fun x y=>(x.1,x.2.1,x.2.2.1,x.2.2.2.1,x.2.2.2.2.1,false,())):=by
 refine ⟨ubz Tryz.func293 (by kernel_rfl) rfl,fun w F b ety arr x y vs hg hs ho hx hy=>?_⟩;obtain ⟨rfl,hr⟩:=qnm hy;have ha:=qrp hs hx;subst ha
 go_enter Tryz.func293,Tryz.ntmps293
 have hc:=qj9 hg;have hf:=qlu hg;obtain ⟨h0,h1,h2,h3,h4,h5,_⟩:=hx
 go_wp2_with (simp only [hc,hf])
 first
  |exact ⟨⟨_,rfl⟩,[.int .i64 x.1,.int .i64 x.2.1,.int .i64 x.2.2.1,.int .i64 x.2.2.2.1,.int .i64 x.2.2.2.2.1,.bool false],rfl,(uc2 w b 5 _ ety (0,0) _ hg).trans (by simp [wrap64,ub0]),qbl (x:=(x.1,x.2.1,x.2.2.1,x.2.2.2.1,x.2.2.2.2.1,false,())) (h0.2) (h1.2) (h2.2) (h3.2) (h4.2)⟩
  |exact ⟨.tuple #[],[.int .i64 x.1,.int .i64 x.2.1,.int .i64 x.2.2.1,.int .i64 x.2.2.2.1,.int .i64 x.2.2.2.2.1,.bool false],rfl,rfl,(uc2 w b 5 _ ety (0,0) _ hg).trans (by simp [wrap64,ub0]),qbl (x:=(x.1,x.2.1,x.2.2.1,x.2.2.2.1,x.2.2.2.2.1,false,())) (h0.2) (h1.2) (h2.2) (h3.2) (h4.2)⟩
  |exact uet (v:=.tuple #[]) (udq rfl _ _ _) rfl ⟨⟨_,rfl⟩,[.int .i64 x.1,.int .i64 x.2.1,.int .i64 x.2.2.1,.int .i64 x.2.2.2.1,.int .i64 x.2.2.2.2.1,.bool false],rfl,(uc2 w b 5 _ ety (0,0) _ hg).trans (by simp [wrap64,ub0]),qbl (x:=(x.1,x.2.1,x.2.2.1,x.2.2.2.1,x.2.2.2.2.1,false,())) (h0.2) (h1.2) (h2.2) (h3.2) (h4.2)⟩
set_option maxHeartbeats 4000000 in
set_option maxRecDepth 100000 in
theorem zyz:UpdOK Tryz.prog 294 wu [i64] (fun x y=>(x.1,x.2.1,x.2.2.1,x.2.2.2.1,x.2.2.2.2.1,true,())):=by
 refine ⟨ubz Tryz.func294 (by kernel_rfl) rfl,fun w F b ety arr x y vs hg hs ho hx hy=>?_⟩;obtain ⟨rfl,hr⟩:=qnm hy;have ha:=qrp hs hx;subst ha
 go_enter Tryz.func294,Tryz.ntmps294
 have hc:=qj9 hg;have hf:=qlu hg;obtain ⟨h0,h1,h2,h3,h4,h5,_⟩:=hx
 go_wp2_with (simp only [hc,hf])
 first
  |exact ⟨⟨_,rfl⟩,[.int .i64 x.1,.int .i64 x.2.1,.int .i64 x.2.2.1,.int .i64 x.2.2.2.1,.int .i64 x.2.2.2.2.1,.bool true],rfl,(uc2 w b 5 _ ety (0,0) _ hg).trans (by simp [wrap64,ub0]),qbl (x:=(x.1,x.2.1,x.2.2.1,x.2.2.2.1,x.2.2.2.2.1,true,())) (h0.2) (h1.2) (h2.2) (h3.2) (h4.2)⟩
  |exact ⟨.tuple #[],[.int .i64 x.1,.int .i64 x.2.1,.int .i64 x.2.2.1,.int .i64 x.2.2.2.1,.int .i64 x.2.2.2.2.1,.bool true],rfl,rfl,(uc2 w b 5 _ ety (0,0) _ hg).trans (by simp [wrap64,ub0]),qbl (x:=(x.1,x.2.1,x.2.2.1,x.2.2.2.1,x.2.2.2.2.1,true,())) (h0.2) (h1.2) (h2.2) (h3.2) (h4.2)⟩
  |exact uet (v:=.tuple #[]) (udq rfl _ _ _) rfl ⟨⟨_,rfl⟩,[.int .i64 x.1,.int .i64 x.2.1,.int .i64 x.2.2.1,.int .i64 x.2.2.2.1,.int .i64 x.2.2.2.2.1,.bool true],rfl,(uc2 w b 5 _ ety (0,0) _ hg).trans (by simp [wrap64,ub0]),qbl (x:=(x.1,x.2.1,x.2.2.1,x.2.2.2.1,x.2.2.2.2.1,true,())) (h0.2) (h1.2) (h2.2) (h3.2) (h4.2)⟩
def esF:List (Int×TypeId):=[(1,173),(2,175),(3,177),(4,178),(5,179),(6,180),(7,218)]
def ofV (k:Int):Value:=match yy esF k with
 |some ty=>.iface ty (.agg #[])
 |none=>.nilIface
theorem qy6 {k:Int} (h:k<1∨k>7):yy esF k=none:=by
 have:esF.find? (fun x=>x.1==k)=none:=by
  rw [List.find?_eq_none];intro x hx;simp only [esF,ua2,ues,or_false] at hx;rcases hx with rfl|rfl|rfl|rfl|rfl|rfl|rfl<;>simp<;>omega
 unfold yy;rw [this];rfl
theorem qxd {k:Int} (h:1<=k/\k<=7):k=1∨k=2∨k=3∨k=4∨k=5∨k=6∨k=7:=by omega
set_option maxHeartbeats 4000000 in
set_option maxRecDepth 100000 in
theorem yix (k:Int) (R:Ending->World->Prop) (w:World) (hR:∀ o,R (.returned (ofV k)) (w.alloc o)):Calls Tryz.prog 96 #[.int .i64 k] w R:=by
 go_enter Tryz.func96,Tryz.ntmps96
 by_cases h1:k<1
 ·have hz:ofV k = .nilIface:=by unfold ofV; rw [qy6 (.inl h1)]
  rw [hz] at hR
  go_wp2
  exact hR _
 ·by_cases h2:k>7
  ·have hz:ofV k = .nilIface:=by unfold ofV; rw [qy6 (.inr h2)]
   rw [hz] at hR
   go_wp2
   exact hR _
  ·rcases qxd (k:=k) (by omega) with rfl|rfl|rfl|rfl|rfl|rfl|rfl
   all_goals
    go_wp2
    exact hR _
theorem ze3 {w:World} {F:Nat->Prop} {es:List (Int×TypeId)} {t:Ty} {x:Int×t.den} {ty:TypeId} {u:Value} (h:yy es x.1=some ty) (hu:zv w F t x.2 u):zv w F (.ic es t) x (.iface ty u):=
 ⟨rfl,⟨fun h=>(by cases h),fun h=>(by obtain ⟨_,h⟩:=h; cases h)⟩,.inl ⟨ty,u,h,rfl,hu⟩⟩
theorem zbb {w:World} {F:Nat->Prop} {es:List (Int×TypeId)} {t:Ty} {x:Int×t.den} (h:yy es x.1=none):zv w F (.ic es t) x .nilIface:=
 ⟨rfl,⟨fun h=>(by cases h),fun h=>(by obtain ⟨_,h⟩:=h; cases h)⟩,.inr ⟨h,rfl⟩⟩
theorem zbi {w:World} {F:Nat->Prop} {t:Ty} {y:t.den} {v:Value} {o:Obj} (hF:∀ b,F b->b<w.heap.size) (h:zv w F t y v):qd1 w F [t] (y,()) (.returned v) (w.alloc o):=
 ⟨v,F,rfl,(uat _ w).alloc (ua3 _) _,fun _ h=>h,fun b hb=>⟨.inl hb,by have:=hF b hb; simp; omega⟩,h.mono (fun _ h=>h) (fun b hb=>uaq _ _ _ (hF b hb))⟩
theorem ycy {w:World} {F:Nat->Prop} {k:Int} {u:Unit} {vs:List Value} (h:wt Tryz.prog w F [.d i64] (k,u) vs):vs=[.int .i64 k]/\inR .i64 k:=by
 obtain ⟨v,vs',rfl,h1,h2⟩:=h;exact qnm (w:=w) (F:=F) (y:=(k,())) ⟨v,vs',rfl,h1,h2⟩
def qaf:Ct:=⟨[.d i64],[.ic esF .unit],fun x=>((x.1,()),()),fun _=>[]⟩
theorem ynv:qa Tryz.prog 96 qaf:=by
 refine ⟨enters_of Tryz.func96 (by kernel_rfl) rfl,fun w F xs vs hbd hr _=>?_⟩;obtain ⟨k,_⟩:=xs;obtain ⟨rfl,_⟩:=ycy hr;refine yix k _ w fun o=>zbi hbd ?_;unfold ofV;split
 ·rename_i ty h;exact ze3 h ⟨rfl,⟨fun _=>⟨_,rfl⟩,fun _=>rfl⟩,trivial⟩
 ·rename_i h;exact zbb h
end Go.Proofs.YtgieagiaagoogaaGreat
namespace Go.Proofs.YtgieagiaagoogaaGreat
open Go Go.Ab Go.RowKit Go.Proofs
abbrev qoy:Ty:=.pair (.fc none) (.pair (.fc (some 290)) (.pair (.fc (some 291)) (.pair (.fc (some 292)) (.pair (.fc (some 293)) (.pair (.fc (some 294)) .unit)))))
noncomputable def yg4:List (FuncId×Row):=[(290,.upd wu [i64] (fun x y=>(y.1,x.2.1,x.2.2.1,x.2.2.2.1,x.2.2.2.2.1,x.2.2.2.2.2.1,()))),(291,.upd wu [i64] (fun x y=>(x.1,IntKind.i64.wrap (x.2.1+y.1),x.2.2.1,x.2.2.2.1,x.2.2.2.2.1,x.2.2.2.2.2.1,()))),(292,.upd wu [i64] (fun x y=>(x.1,x.2.1,x.2.2.1,IntKind.i64.wrap (x.2.2.2.1+y.1),x.2.2.2.2.1,x.2.2.2.2.2.1,()))),(293,.upd wu [i64] (fun x _=>(x.1,x.2.1,x.2.2.1,x.2.2.2.1,x.2.2.2.2.1,false,()))),(294,.upd wu [i64] (fun x _=>(x.1,x.2.1,x.2.2.1,x.2.2.2.1,x.2.2.2.2.1,true,())))]
noncomputable def yl7:Cx:=cxR [(59,qai)] [] yg4 (fun _ _ _ _=>none)
theorem zcb:CxOK Tryz.prog yl7:=qul (cs:=[(59,qai)]) (ps:=[]) (rs:=yg4) qv ⟨zf4,trivial⟩ trivial ⟨ycs,ypa,zud,ybk,zyz,trivial⟩ (fun _ _ _ _ _ h=>(nomatch h))
abbrev qbn:Pt:=⟨28,0,⟨[(12,.d i64),(11,.d i64),(10,.d (.sl zh))],[.x 2 319 wu,.r 2 2 0,.x 3 324 qoy,.r 3 3 0,.x 4 319 wu,.r 4 4 0]⟩,⟨[],[.x 2 319 wu,.r 2 2 0,.x 4 319 wu,.r 4 4 0]⟩,⟨[],[]⟩⟩
def zkw (x:qbn.M.X):Fr qbn.Out:=
 Fr.br (decide (x.1.1<x.1.2.1)) (Fr.need (0<=x.1.1/\x.1.1<((List.length x.1.2.2.1):Int)) (Fr.br (qai.f ((List.getD x.1.2.2.1 (Int.toNat x.1.1) zh.dflt).2.1,1,5,())).1 (Fr.need (0<=(List.getD x.1.2.2.1 (Int.toNat x.1.1) zh.dflt).2.1/\(List.getD x.1.2.2.1 (Int.toNat x.1.1) zh.dflt).2.1<(6:Int)) (Fr.need ((List.find? (fun x_1=>x_1.1==(List.getD x.1.2.2.1 (Int.toNat x.1.1) zh.dflt).2.1) (qf1 0 (List.take 6 (List.drop 0 (List.drop 0 (enc qoy x.2.2.1)))))).isSome=true) (Fr.need ((List.getD x.1.2.2.1 (Int.toNat x.1.1) zh.dflt).2.1≠0+1->qr [(List.getD x.1.2.2.1 (Int.toNat x.1.1) zh.dflt).2.1≠0+1+1->qr [(List.getD x.1.2.2.1 (Int.toNat x.1.1) zh.dflt).2.1≠0+1+1+1->qr [(List.getD x.1.2.2.1 (Int.toNat x.1.1) zh.dflt).2.1≠0+1+1+1+1->qr [(List.getD x.1.2.2.1 (Int.toNat x.1.1) zh.dflt).2.1=0+1+1+1+1+1]]]]) (Fr.val (Rd.next ((IntKind.i64.wrap (x.1.1+1),x.1.2.1,x.1.2.2.1,()),x.2.1,((),(),(),(),(),(),()),(bif (List.getD x.1.2.2.1 (Int.toNat x.1.1) zh.dflt).2.1==0+1 then ((List.getD x.1.2.2.1 (Int.toNat x.1.1) zh.dflt).2.2.1,x.2.2.2.1.2.1,x.2.2.2.1.2.2.1,x.2.2.2.1.2.2.2.1,x.2.2.2.1.2.2.2.2.1,x.2.2.2.1.2.2.2.2.2.1,()) else bif (List.getD x.1.2.2.1 (Int.toNat x.1.1) zh.dflt).2.1==0+1+1 then (x.2.2.2.1.1,IntKind.i64.wrap (x.2.2.2.1.2.1+(List.getD x.1.2.2.1 (Int.toNat x.1.1) zh.dflt).2.2.1),x.2.2.2.1.2.2.1,x.2.2.2.1.2.2.2.1,x.2.2.2.1.2.2.2.2.1,x.2.2.2.1.2.2.2.2.2.1,()) else bif (List.getD x.1.2.2.1 (Int.toNat x.1.1) zh.dflt).2.1==0+1+1+1 then (x.2.2.2.1.1,x.2.2.2.1.2.1,x.2.2.2.1.2.2.1,IntKind.i64.wrap (x.2.2.2.1.2.2.2.1+(List.getD x.1.2.2.1 (Int.toNat x.1.1) zh.dflt).2.2.1),x.2.2.2.1.2.2.2.2.1,x.2.2.2.1.2.2.2.2.2.1,()) else bif (List.getD x.1.2.2.1 (Int.toNat x.1.1) zh.dflt).2.1==0+1+1+1+1 then (x.2.2.2.1.1,x.2.2.2.1.2.1,x.2.2.2.1.2.2.1,x.2.2.2.1.2.2.2.1,x.2.2.2.1.2.2.2.2.1,false,()) else (x.2.2.2.1.1,x.2.2.2.1.2.1,x.2.2.2.1.2.2.1,x.2.2.2.1.2.2.2.1,x.2.2.2.1.2.2.2.2.1,true,())),())))))) (Fr.val (Rd.next ((IntKind.i64.wrap (x.1.1+1),x.1.2.1,x.1.2.2.1,()),x.2.1,((),(),(),(),(),(),()),x.2.2.2.1,()))))) (Fr.val (Rd.out ((),x.2.1,x.2.2.2.1,())))
theorem zzj:qf Tryz.prog (qo Tryz.f287 0) qbn.M qbn zkw:=
 qf.of_run zcb (bs:=0) (Λ:=qq) rfl rfl rfl (fun E=>qe _ 0) (fun x=>by kernel_rfl)
abbrev qor:Type:=qn []×jd [.x 2 319 wu,.r 2 2 0,.x 3 324 qoy,.r 3 3 0,.x 4 319 wu,.r 4 4 0]
def ww (e:zh.den) (s:qor):Fr qor:=
 Fr.br (qai.f (e.2.1,1,5,())).1 (Fr.need (0<=e.2.1/\e.2.1<(6:Int)) (Fr.need ((List.find? (fun x_1=>x_1.1==e.2.1) (qf1 0 (List.take 6 (List.drop 0 (List.drop 0 (enc qoy s.2.2.1)))))).isSome=true) (Fr.need (e.2.1≠0+1->qr [e.2.1≠0+1+1->qr [e.2.1≠0+1+1+1->qr [e.2.1≠0+1+1+1+1->qr [e.2.1=0+1+1+1+1+1]]]]) (Fr.val ((),s.2.1,((),(),(),(),(),(),()),(bif e.2.1==0+1 then (e.2.2.1,s.2.2.2.1.2.1,s.2.2.2.1.2.2.1,s.2.2.2.1.2.2.2.1,s.2.2.2.1.2.2.2.2.1,s.2.2.2.1.2.2.2.2.2.1,()) else bif e.2.1==0+1+1 then (s.2.2.2.1.1,IntKind.i64.wrap (s.2.2.2.1.2.1+e.2.2.1),s.2.2.2.1.2.2.1,s.2.2.2.1.2.2.2.1,s.2.2.2.1.2.2.2.2.1,s.2.2.2.1.2.2.2.2.2.1,()) else bif e.2.1==0+1+1+1 then (s.2.2.2.1.1,s.2.2.2.1.2.1,s.2.2.2.1.2.2.1,IntKind.i64.wrap (s.2.2.2.1.2.2.2.1+e.2.2.1),s.2.2.2.1.2.2.2.2.1,s.2.2.2.1.2.2.2.2.2.1,()) else bif e.2.1==0+1+1+1+1 then (s.2.2.2.1.1,s.2.2.2.1.2.1,s.2.2.2.1.2.2.1,s.2.2.2.1.2.2.2.1,s.2.2.2.1.2.2.2.2.1,false,()) else (s.2.2.2.1.1,s.2.2.2.1.2.1,s.2.2.2.1.2.2.1,s.2.2.2.1.2.2.2.1,s.2.2.2.1.2.2.2.2.1,true,())),()))))) (Fr.val ((),s.2.1,((),(),(),(),(),(),()),s.2.2.2.1,()))
def qdf (x:qbn.M.X):Int×List zh.den×qor:=(x.1.1,x.1.2.2.1,x.1.2.2.2,x.2)
def qm4 (x:qbn.M.X):Prop:=x.1.2.1=(x.1.2.2.1.length:Int)
def qpq (s:qor):qbn.E.X:=((),s.2.1,s.2.2.2.1,())
theorem zts:qf Tryz.prog (.loop (qo Tryz.f287 0)) qbn.M qbn (FF ww qdf qm4 qpq):=by
 refine qf.fold zzj ww qdf qm4 qpq ?_ ?_
 ·rintro ⟨⟨i,n,l,s⟩,m⟩ hg h0 h1 hb e he Q h;have hg:n=(l.length:Int):=hg;subst hg;have h0:0<=i:=h0;have h1:i<(l.length:Int):=h1;have hb:(l.length:Int)<=9223372036854775807:=hb;have hd:l.getD i.toNat zh.dflt=e:=zp he;have hw:=zu h0 h1 hb;dsimp only [qdf,ww,zkw,Fr.satP] at h ⊢;simp only [hd,hw] at h ⊢;refine ⟨fun _=>?_,fun hn=>absurd h1 (of_decide_eq_false hn)⟩
  repeat' first
   |exact h
   |exact ⟨h0,h1⟩
   |exact fun _=>⟨h0,h1⟩
   |exact h _ rfl rfl
   |(refine ⟨fun hc=>?_,fun hc=>?_⟩<;>first|replace h:=h.1 hc|replace h:=h.2 hc)
   |(refine ⟨h.1,?_⟩; replace h:=h.2)
   |refine ⟨⟨h0,h1⟩,?_⟩
   |exact h.1
   |exact h.2.1
   |exact h.2.2.1
   |refine ⟨?_,?_⟩
   |(intro (hc:_=true); replace h:=h.1 hc)
   |(intro (hc:_=false); replace h:=h.2 hc)
   |(replace h:=h.2)
 ·rintro ⟨⟨i,n,l,s⟩,m⟩ hg h1 Q h;have hg:n=(l.length:Int):=hg;subst hg;exact ⟨fun hn=>absurd (ua5 hn) h1,fun _=>h⟩
def ylo (Γ:Gm):St->Option Tr:=qbn.han Γ qbn.M (FF ww qdf qm4 qpq)
def zy1 (y:qbn.M.X):qor:=goF ww ((qdf y).2.1.drop (qdf y).1.toNat) (qdf y).2.2
def zyk (y:qbn.M.X):Prop:=okF ww ((qdf y).2.1.drop (qdf y).1.toNat) (qdf y).2.2
def zj6 (x:qn [.d qt]):Fr (qi [wu]):=
 Fr.need (InL (qm4 ((0,((List.length x.1.2.1):Int),x.1.2.1,()),(0,0,0,0,0,false,()),((),(),(),(),(),(),()),(0,0,0,0,0,true,()),())) (qdf ((0,((List.length x.1.2.1):Int),x.1.2.1,()),(0,0,0,0,0,false,()),((),(),(),(),(),(),()),(0,0,0,0,0,true,()),()))) (Fr.need (zyk ((0,((List.length x.1.2.1):Int),x.1.2.1,()),(0,0,0,0,0,false,()),((),(),(),(),(),(),()),(0,0,0,0,0,true,()),())) (Fr.val ((qpq (zy1 ((0,((List.length x.1.2.1):Int),x.1.2.1,()),(0,0,0,0,0,false,()),((),(),(),(),(),(),()),(0,0,0,0,0,true,()),()))).2.2.1,())))
theorem znw:qa Tryz.prog 287 ⟨[.d qt],[wu],fun xs=>(zj6 xs).get,fun xs=>[(zj6 xs).ok]⟩:=
 qg zcb (Λ:=(fun _=>ylo yl7.Γ)) (fn:=Tryz.f287) (dfP [.d qt]) (by kernel_rfl) (fun c E hc=>jb hc (by kernel_rfl) (b:=qo Tryz.f287 0) (by kernel_rfl) (qf.han zcb rfl zts)) (fun x=>by kernel_rfl)
def qrz (p:wu.den) (a:zh.den):wu.den:=
 bif qp2 a.2.1 1 5 then (bif a.2.1==1 then (a.2.2.1,p.2) else bif a.2.1==2 then (p.1,IntKind.i64.wrap (p.2.1+a.2.2.1),p.2.2) else bif a.2.1==3 then (p.1,p.2.1,p.2.2.1,IntKind.i64.wrap (p.2.2.2.1+a.2.2.1),p.2.2.2.2)
  else bif a.2.1==4 then (p.1,p.2.1,p.2.2.1,p.2.2.2.1,p.2.2.2.2.1,false,()) else (p.1,p.2.1,p.2.2.1,p.2.2.2.1,p.2.2.2.2.1,true,())) else p
def ql9 (g:qt.den):wu.den:=g.2.1.foldl qrz (0,0,0,0,0,true,())
theorem ydq {k:Int} (h:1<=k/\k<=5):k=1∨k=2∨k=3∨k=4∨k=5:=by omega
theorem qtm (e:zh.den) (q p:wu.den) (u:qoy.den):(ww e ((),q,u,p,())).ok/\(ww e ((),q,u,p,())).get=((),q,u,qrz p e,()):=by
 obtain ⟨b,k,m,_⟩:=e;cases hw:qp2 k 1 5
 ·have ha:qrz p (b,k,m,())=p:=by unfold qrz; rw [show qp2 (b,k,m,()).2.1 1 5=false from hw]; rfl
  rw [ha];exact Fr.br_f hw ⟨trivial,rfl⟩
 ·have h15:=zz8.1 hw;have hk:=ydq h15;have ha:∀ z,(qrz p (b,k,m,())=z)=((bif k==1 then (m,p.2) else bif k==2 then (p.1,IntKind.i64.wrap (p.2.1+m),p.2.2) else bif k==3 then (p.1,p.2.1,p.2.2.1,IntKind.i64.wrap (p.2.2.2.1+m),p.2.2.2.2)
  else bif k==4 then (p.1,p.2.1,p.2.2.1,p.2.2.2.1,p.2.2.2.2.1,false,()) else (p.1,p.2.1,p.2.2.1,p.2.2.2.1,p.2.2.2.2.1,true,()):wu.den)=z):=fun z=>by
   unfold qrz; rw [show qp2 (b,k,m,()).2.1 1 5=true from hw]; rfl
  refine Fr.br_t hw ?_;rcases hk with rfl|rfl|rfl|rfl|rfl <;>
   exact Fr.need_ (by first|exact (by decide:(0:Int)<=1/\(1:Int)<6)|exact (by decide:(0:Int)<=2/\(2:Int)<6)|exact (by decide:(0:Int)<=3/\(3:Int)<6)|exact (by decide:(0:Int)<=4/\(4:Int)<6)|exact (by decide:(0:Int)<=5/\(5:Int)<6)) (Fr.need_ (by kernel_rfl) (Fr.need_ (by simp [qr]) ⟨trivial,by rw [ua9]; exact ⟨rfl,by rw [eq_comm] ; rfl⟩⟩))
theorem zmr (q:wu.den) (u:qoy.den):(l:List zh.den)->(p:wu.den)->goF ww l ((),q,u,p,())=((),q,u,l.foldl qrz p,())
 |[],_=>rfl
 |e::l,p=>by
  show goF ww l (ww e ((),q,u,p,())).get=_;rw [(qtm e q p u).2];exact zmr q u l (qrz p e)
theorem zft (q:wu.den) (u:qoy.den):(l:List zh.den)->(p:wu.den)->okF ww l ((),q,u,p,())
 |[],_=>trivial
 |e::l,p=>⟨(qtm e q p u).1,by
  rw [(qtm e q p u).2];exact zft q u l (qrz p e)⟩
theorem zpn {w:World} {F:Nat->Prop} {g:qt.den} {v:Value} (h:zv w F qt g v):((List.length (α:=zh.den) g.2.1:Nat):Int)<=9223372036854775807:=by
 have h1:List.length (α:=zh.den) g.2.1<=maxLen:=(qs.wf h.2.2).2.1.1;unfold maxLen at h1;omega
def qn2:Ct:=⟨[.d qt],[wu],fun x=>(ql9 x.1,()),fun _=>[]⟩
abbrev yni:wu.den:=(0,0,0,0,0,false,())
abbrev yp5:qoy.den:=((),(),(),(),(),(),())
theorem ye3:qa Tryz.prog 287 qn2:=
 conv znw _ _ (fun w F x vs hr _=>by
  obtain ⟨g,_⟩:=x;obtain ⟨v,vs',rfl,hv,_⟩:=hr;have hlen:=zpn hv;refine Fr.need_ ⟨rfl,ua4 _,uak _,hlen⟩ (Fr.need_ ?_ ⟨trivial,?_⟩)
  ·exact zft yni yp5 (List.drop 0 g.2.1) _
  ·show ((goF ww (List.drop 0 g.2.1) ((),yni,yp5,(0,0,0,0,0,true,()),())).2.2.2.1,())=(ql9 g,());rw [uc7,zmr];rfl)
end Go.Proofs.YtgieagiaagoogaaGreat
namespace Go.Proofs.YtgieagiaagoogaaGreat
open Go Go.Ab Go.RowKit Go.Proofs Go.Shelf Go.Lib
set_option maxRecDepth 100000 in
theorem yn4:(Tryz.prog.info? 42).map (fun i=>(i.zero,i.size,i.bytes))=some (some (.agg #[.int .i64 0,.int .i64 0,.int .i64 0]),3,24):=by kernel_rfl
set_option maxHeartbeats 4000000 in
set_option maxRecDepth 100000 in
theorem zry:CloneOK Tryz.prog 289 42 zh 24:=by
 refine ⟨ubz Tryz.func289 (by kernel_rfl) rfl,fun w n c A xs hnc hA hxl hxc h1 h63 hby=>?_⟩;obtain ⟨i0,hi0,hz0,hz1,hz2⟩:=ucq yn4;have hcmp:∀ (A:Option Addr) (n c:Nat),(binOp .eql 74 (.slice A n c) (.slice none 0 0)).run Tryz.prog w = .ok (.bool A.isNone) w:=fun A n c=>by
  have h1:binOp .eql 74 (.slice A n c) (.slice none 0 0)=(do pure (.bool (← Op.equal 74 (.slice A n c) (.slice none 0 0)))):=rfl;have h2:Op.equal 74 (.slice A n c) (.slice none 0 0)=Op.equalIn (9999+1) 74 (.slice A n c) (.slice none 0 0):=rfl;rw [h1,h2];simp [ql1 Tryz.underlying74]
 go_enter Tryz.func289,Tryz.ntmps289
 cases A with
 |none=>
  have h0:=hA rfl;subst h0;have hx:xs=[]:=ucr (by simpa using hxl);subst hx
  go_wp2_with (simp only [hcmp])
  go_ret
  exact ⟨_,rfl,⟨rfl,rfl,rfl,ua3 _,fun _ _ _=>rfl⟩,ucz _ _ _ _⟩
 |some ad=>
  have hW:(w.alloc (.cells #[] 42)).ownsRow w.heap.size 42 3 (.slice (some ⟨w.heap.size,0,none⟩) 0 0) 0 []:=World.ownsRow_lit w #[] 0 (Nat.le_refl _) (by unfold maxLen; omega) rfl;have hcell:∀ (j:Nat) u,xs[j]? = some u->(w.alloc (.cells #[] 42)).cell? (ad.add j)=some u:=fun j u hj=>by
   have h:=hxc ad rfl j u hj;have hb:=ufn h;rw [ucf (yh w _ _ hb)];exact h
  obtain ⟨v',w',hr,e2,e3,e4⟩:=qcp (P:=Tryz.prog) (w:=w.alloc (.cells #[] 42)) (B:=w.heap.size) 74 74 42 i0 _ 3 Tryz.underlying74 hi0 hz0 hz1 rfl (by decide) _ 0 [] hW (some ad) n c xs (fun h=>by cases h) hxl (fun ad' e=>by cases e; exact hcell) h1 (by rw [uai]; exact h63) (by rw [hz2,uai]; exact hby) (by simp);have hr':∀ ty,(Builtin.append_ #[74,74] ty #[.slice (some ⟨w.heap.size,0,none⟩) 0 0,.slice (some ad) n c]).run Tryz.prog (w.alloc (.cells #[] 42)) = .ok v' w':=fun ty=>hr;clear hr
  go_wp2_with (first|(simp only [hcmp]; done)|simp only [hcmp]|(at_builtin; refine uce _ rfl _ _ _ _ rfl _ _ rfl rfl _ _ (hr' _) ?_))
  go_ret
  rw [uai,uav] at e2;refine ⟨v',rfl,⟨e3.os,e3.tape,e3.output,ual (by simp) e3.size,fun k hk _=>(e3.block k (by simp; omega) (fun e=>?_)).trans (yh w _ k hk)⟩,e2⟩;have:k=w.heap.size:=by simpa [Value.ownBlock] using e
  omega
end Go.Proofs.YtgieagiaagoogaaGreat
namespace Go.Proofs.YtgieagiaagoogaaGreat
open Go Go.Ab Go.RowKit Go.Proofs
noncomputable def yr5:Cx:=cxR [(287,qn2),(27,qne),(288,qzw)] [] [(289,.clone 42 zh 24)] (fun _ _ _ _=>none)
theorem yhg:CxOK Tryz.prog yr5:=qul (cs:=[(287,qn2),(27,qne),(288,qzw)]) (ps:=[]) (rs:=[(289,.clone 42 zh 24)]) qv ⟨ye3,zd7,ydf,trivial⟩ trivial ⟨zry,trivial⟩ (fun _ _ _ _ _ h=>(nomatch h))
def qwu (x:qn [.d qt,.d zh]):Fr (qi [qt,i64]):=
 Fr.br (!(qne.f (x.2.1,())).1) (Fr.val (((0,0,0,0,0,0,()),[],()),1,())) (Fr.br (decide (((List.length x.1.2.1):Int)≥2000)) (Fr.val (((0,0,0,0,0,0,()),[],()),2,())) (Fr.br (decide (x.2.1.1<(qzw.f (x.1,())).1)) (Fr.val (((0,0,0,0,0,0,()),[],()),4,())) (Fr.br ((qn2.f (x.1,())).1.2.2.2.2.2.1==(x.2.1.2.1==5)) (Fr.val (((0,0,0,0,0,0,()),[],()),10,())) (Fr.br (bif x.2.1.2.1==2 then decide (x.2.1.2.2.1>IntKind.i64.wrap (1000000000000000-(qn2.f (x.1,())).1.2.1)) else false) (Fr.br (bif x.2.1.2.1==2 then decide (x.2.1.2.2.1>IntKind.i64.wrap (1000000000000000-(qn2.f (x.1,())).1.2.1)) else false) (Fr.val (((0,0,0,0,0,0,()),[],()),5,())) (Fr.need (List.length x.1.2.1<=maxLen) (Fr.need (List.length x.1.2.1*24<=140737488355328) (Fr.need (List.length x.1.2.1 + [x.2.1].length<=maxLen/\(List.length x.1.2.1 + [x.2.1].length)*24<=140737488355328) (Fr.val ((x.1.1,x.1.2.1++[x.2.1],()),0,())))))) (Fr.br (bif x.2.1.2.1==3 then decide (x.2.1.2.2.1>IntKind.i64.wrap (1000000000000000-(qn2.f (x.1,())).1.2.2.2.1)) else false) (Fr.val (((0,0,0,0,0,0,()),[],()),5,())) (Fr.need (List.length x.1.2.1<=maxLen) (Fr.need (List.length x.1.2.1*24<=140737488355328) (Fr.need (List.length x.1.2.1 + [x.2.1].length<=maxLen/\(List.length x.1.2.1 + [x.2.1].length)*24<=140737488355328) (Fr.val ((x.1.1,x.1.2.1++[x.2.1],()),0,()))))))))))
theorem zsn:qa Tryz.prog 285 ⟨[.d qt,.d zh],[qt,i64],fun xs=>(qwu xs).get,fun xs=>[(qwu xs).ok]⟩:=
 qg yhg (Λ:=qq) (fn:=Tryz.f285) (dfP [.d qt,.d zh]) (by kernel_rfl) (fun c E _=>qe c 0) (fun x=>by kernel_rfl)
abbrev g00:qt.den:=((0,0,0,0,0,0,()),[],())
def zv5 (g:qt.den) (a:zh.den):Bool:=
 (bif a.2.1==2 then decide (a.2.2.1>IntKind.i64.wrap (1000000000000000-(ql9 g).2.1)) else false) || (bif a.2.1==3 then decide (a.2.2.1>IntKind.i64.wrap (1000000000000000-(ql9 g).2.2.2.1)) else false)
def qwr (g:qt.den) (a:zh.den):qt.den×Int:=
 bif !(qng a) then (g00,1) else bif decide (((List.length (α:=zh.den) g.2.1:Nat):Int)≥2000) then (g00,2) else bif decide (a.1<za4 g) then (g00,4)
  else bif (ql9 g).2.2.2.2.2.1==(a.2.1==5) then (g00,10) else bif zv5 g a then (g00,5) else ((g.1,g.2.1++[a],()),0)
def yge:Ct:=⟨[.d qt,.d zh],[qt,i64],fun x=>((qwr x.1 x.2.1).1,(qwr x.1 x.2.1).2,()),fun _=>[]⟩
theorem yie (g:qt.den) (a:zh.den):(qwu (g,a,())).ok/\(qwu (g,a,())).get=((qwr g a).1,(qwr g a).2,()):=by
 unfold qwr;cases h1:qng a
 ·exact Fr.br_t (by show (!(qng a))=true; rw [h1]; rfl) ⟨trivial,rfl⟩
 refine Fr.br_f (by show (!(qng a))=false; rw [h1]; rfl) ?_;cases h2:decide (((List.length (α:=zh.den) g.2.1:Nat):Int)≥2000)
 rotate_left
 ·exact Fr.br_t (by first|rfl|exact h2) ⟨trivial,rfl⟩
 refine Fr.br_f (by first|rfl|exact h2) ?_;have hl:List.length (α:=zh.den) g.2.1<2000:=by have:=uac h2; omega
 have n1:List.length (α:=zh.den) g.2.1<=maxLen:=by unfold maxLen; omega
 have n2:List.length (α:=zh.den) g.2.1*24<=140737488355328:=by omega
 have n3:List.length (α:=zh.den) g.2.1 + [a].length<=maxLen/\(List.length (α:=zh.den) g.2.1 + [a].length)*24<=140737488355328:=by
  rw [List.length_singleton];exact ⟨by unfold maxLen; omega,by omega⟩
 cases h3:decide (a.1<za4 g)
 rotate_left
 ·exact Fr.br_t (by first|rfl|exact h3) ⟨trivial,rfl⟩
 refine Fr.br_f (by first|rfl|exact h3) ?_;cases h4:(ql9 g).2.2.2.2.2.1==(a.2.1==5)
 rotate_left
 ·exact Fr.br_t (by first|rfl|exact h4) ⟨trivial,rfl⟩
 refine Fr.br_f (by first|rfl|exact h4) ?_;unfold zv5;cases h5:(bif a.2.1==2 then decide (a.2.2.1>IntKind.i64.wrap (1000000000000000-(ql9 g).2.1)) else false)
 rotate_left
 ·exact Fr.br_t (by first|rfl|exact h5) (Fr.br_t (by first|rfl|exact h5) ⟨trivial,rfl⟩)
 refine Fr.br_f (by first|rfl|exact h5) ?_;cases h6:(bif a.2.1==3 then decide (a.2.2.1>IntKind.i64.wrap (1000000000000000-(ql9 g).2.2.2.1)) else false)
 rotate_left
 ·exact Fr.br_t (by first|rfl|exact h6) ⟨trivial,rfl⟩
 exact Fr.br_f (by first|rfl|exact h6) (Fr.need_ n1 (Fr.need_ n2 (Fr.need_ n3 ⟨trivial,rfl⟩)))
theorem yif:qa Tryz.prog 285 yge:=conv zsn _ _ (fun _ _ x _ _ _=>yie x.1 x.2.1)
def X0:zo.den:=((1,101,()),(0,36500,0,0,()),[(1,1000,1000,0,10000,())],())
theorem yj.filter {α:Type} {key:α->Int} {l:List α} (h:yj key l) (p:α->Bool):yj key (l.filter p):=List.Pairwise.sublist List.filter_sublist h
theorem Good.all {p:List Int×List Int} {m:Int} (h:Good p m):∀ x∈p.1,x<=m:=by
 intro x hx;have hp:=(qtj h.up h.len).1;have hle:=h.le;have hne:p.1 ≠ []:=List.ne_nil_of_mem hx;rw [List.getLast?_eq_some_getLast hne] at hle;have hle':p.1.getLast hne<=m:=hle;have hs:p.1=p.1.dropLast++[p.1.getLast hne]:=(List.dropLast_concat_getLast hne).symm;rw [hs] at hx hp;rcases ubc.1 hx with hx|hx
 ·have:=(uc0.1 hp).2.2 x hx _ (ud2.2 rfl);exact ubs (Int.lt_of_lt_of_le this hle')
 ·rw [ud2.1 hx];exact hle'
theorem zw4 {h:qm.den} {t:ze.den} (hf:qsk h t=true):jj h/\wn t:=by
 unfold qsk at hf;simp only [Bool.and_eq_true,decide_eq_true_eq,List.all_eq_true] at hf;obtain ⟨⟨h1,h2,h3⟩,h4,h5⟩:=hf;refine ⟨⟨by show h.2.2.2.1.length<=500000; omega,by omega,fun c hc=>?_⟩,by omega,fun v hv=>?_⟩
 ·have:c.2.2.2.2.1.length<=50:=ua5 (h4 c hc);omega
 ·have:=h5 v hv;unfold qyv at this;simp only [Bool.and_eq_true,decide_eq_true_eq] at this;exact ⟨by omega,by omega,by omega⟩
def zq8 (h:qm.den) (c:qd.den):qm.den:=(h.1,h.2.1,h.2.2.1,([]++h.2.2.2.1)++[c],())
set_option maxRecDepth 100000 in
def zhn (n m:Nat):Prop:=n+m<=maxLen/\(n+m)*Tryz.prog.types[38].bytes<=140737488355328
set_option maxRecDepth 100000 in
theorem qxr:Tryz.prog.types[38].bytes<=1000:=by decide
theorem qeb.mem {st:Int->zcg} {b:Int}:{a:Int} -> {l:List ql.den}->qeb st b a l->∀ s∈l,a<=s.1.1/\s.1.1<s.1.2.1/\s.1.2.1<=b/\∀ d,s.1.1<=d->d<s.1.2.1->qfz s=st d
 |_,[],_,_,hs=>by cases hs
 |a,t::l,h,s,hs=>by
  obtain ⟨h1,h2,h3,h4,h5,h6⟩:=h;rcases ua2.1 hs with rfl|hs
  ·rw [h1];exact ⟨ua4 _,h2,h6.le,h4⟩
  ·obtain ⟨q1,q2⟩:=qeb.mem h6 s hs;exact ⟨ub6 (ubs h2) q1,q2⟩
noncomputable def yr0:Cx:=cx [(70,qeh qc)] []
theorem yhc:CxOK Tryz.prog yr0:=zc qv ⟨qlo,trivial⟩ trivial
def qzx:Ct:=⟨[.d zo],[zo],fun x=>(x.1,()),fun x=>[x.1.2.2.1.length<=1000000]⟩
theorem zp7:qa Tryz.prog 259 qzx:=
 wa (qg yhc (Λ:=qq) (fn:=Tryz.f259) (fr:=fun x=>Fr.need (x.1.2.2.1.length<=1000000) (Fr.val (x.1,()))) (ps:=[.d zo]) (rs:=[zo]) (zo.dflt,()) (by kernel_rfl) (fun c E _=>qe c 0) (fun x=>by kernel_rfl)) _ _
  (fun _ _ _ _ _ hok=>Fr.need_ hok ⟨trivial,rfl⟩)
def h00:qm.den:=(0,0,((0,0,()),(0,0,0,0,()),[],()),[],())
def qw5 (h:qm.den):Int:=if (chL h).length=0 then h.2.1 else ((chL h).getD ((chL h).length-1) qd.dflt).1
def qvn (h:qm.den) (c:qd.den):qm.den×Int:=
 if xy c=true/\inB h.2.2.1.1.1 h.2.2.1.1.2.1 c.2.1=true then
  (if c.1<qw5 h then (h00,4) else if 2000<=(chL h).length then (h00,2) else (zq8 h c,0))
 else (h00,1)
def ym3:Ct:=⟨[.d qm,.d qd],[qm,i64],fun x=>((qvn x.1 x.2.1).1,(qvn x.1 x.2.1).2,()),fun x=>[jj x.1]⟩
noncomputable def yr1:Cx:=cx [(70,qeh qc),(99,qeg),(43,cIn),(259,qzx)] []
theorem yhd:CxOK Tryz.prog yr1:=zc qv ⟨qlo,qr9,qlv,zp7,trivial⟩ trivial
def zap (h:qm.den) (c:qd.den) (last:Int):Fr (qi [qm,i64]):=
 Fr.br (bif !(qeg.f (c,())).1 then true else !(cIn.f (h.2.2.1.1,c.2.1,())).1) (Fr.val (h00,1,()))
  (Fr.br (decide (c.1<last)) (Fr.val (h00,4,()))
   (Fr.br (decide (((chL h).length:Int)≥2000)) (Fr.val (h00,2,()))
    (Fr.need (c.2.2.2.2.1.length<=1000000) (Fr.need (h.2.2.1.2.2.1.length<=1000000)
     (Fr.need (0<=(none:Option Int).getD 0/\(none:Option Int).getD 0<=((chL h).length:Int)/\((chL h).length:Int)<=((chL h).length:Int)/\((chL h).length:Int)=((chL h).length:Int))
      (Fr.need (0 < [c].length/\zhn (List.take (((chL h).length:Int)-(none:Option Int).getD 0).toNat (List.drop ((none:Option Int).getD 0).toNat (chL h))).length [c].length)
       (Fr.val ((h.1,h.2.1,h.2.2.1,List.take (((chL h).length:Int)-(none:Option Int).getD 0).toNat (List.drop ((none:Option Int).getD 0).toNat (chL h))++[c],()),0,()))))))))
def zs2 (x:qn [.d qm,.d qd]):Fr (qi [qm,i64]):=
 Fr.br (decide (((chL x.1).length:Int)>0))
  (Fr.need (0<=IntKind.i64.wrap (((chL x.1).length:Int)-1)/\IntKind.i64.wrap (((chL x.1).length:Int)-1)<((chL x.1).length:Int))
   (zap x.1 x.2.1 (List.getD (chL x.1) (IntKind.i64.wrap (((chL x.1).length:Int)-1)).toNat qd.dflt).1))
  (zap x.1 x.2.1 x.1.2.1)
theorem ykj:qa Tryz.prog 270 ⟨[.d qm,.d qd],[qm,i64],fun xs=>(zs2 xs).get,fun xs=>[(zs2 xs).ok]⟩:=
 qg yhd (Λ:=qq) (fn:=Tryz.f270) (fr:=zs2) (ps:=[.d qm,.d qd]) (rs:=[qm,i64]) (qm.dflt,qd.dflt,()) (by kernel_rfl) (fun c E _=>qe c 0) (fun x=>by kernel_rfl)
theorem yei {n:Nat} (hn:n<=2000):zhn n 1:=by
 refine ⟨by unfold maxLen; omega,Nat.le_trans (Nat.mul_le_mul (show n+1<=2001 by omega) qxr) (by decide)⟩
theorem zo7 {a b:Bool}:(bif !a then true else !b)=false↔a=true/\b=true:=by
 cases a<;>cases b<;>simp
theorem yfc (l:List qd.den):List.take ((l.length:Int)-(none:Option Int).getD 0).toNat (List.drop ((none:Option Int).getD 0).toNat l)=l:=by
 show List.take ((l.length:Int)-0).toNat l=l;rw [ufq,ucn,List.take_length]
theorem qlk {a b:Bool} (h:(bif a then b else false)=true):a=true/\b=true:=by
 cases a with
 |false=>cases h
 |true=>exact ⟨rfl,h⟩
theorem qy8 {n:Nat} (h:((n:Int)==0)=true):n<=1000000:=by
 have:(n:Int)=0:=eq_of_beq h;omega
theorem qra {c:qd.den} (h:xy c=true):c.2.2.2.2.1.length<=1000000:=by
 unfold xy za3 at h;rw [Bool.and_eq_true,Bool.and_eq_true] at h;have h3:=h.2.2;split at h3
 ·exact qy8 (qlk (qlk h3).1).2
 ·split at h3
  ·have hc:qcc c.2.2.2.2.1=true:=(qlk (qlk h3).1).1;unfold qcc at hc;rw [Bool.and_eq_true] at hc;have:=of_decide_eq_true hc.1;exact Nat.le_trans this.2 (by decide)
  ·split at h3
   ·exact qy8 (qlk (qlk h3).1).2
   ·split at h3
    ·exact qy8 (qlk (qlk h3).1).2
    ·cases h3
theorem zep {h:qm.den} {c:qd.den} {last:Int} (hl:last=qw5 h) (hf:jj h) :
  (zap h c last).ok/\(zap h c last).get=((qvn h c).1,(qvn h c).2,()):=by
 subst hl;unfold qvn;cases h1:(bif !(qeg.f (c,())).1 then true else !(cIn.f (h.2.2.1.1,c.2.1,())).1) with
 |true=>
  refine Fr.br_t h1 ⟨trivial,?_⟩;have h1':¬ (xy c=true/\inB h.2.2.1.1.1 h.2.2.1.1.2.1 c.2.1=true):=fun hh=>by
   have h2:(bif !xy c then true else !inB h.2.2.1.1.1 h.2.2.1.1.2.1 c.2.1)=true:=h1;rw [zo7.2 hh] at h2;cases h2
  rw [if_neg h1'];rfl
 |false=>
  refine Fr.br_f h1 ?_;have h1':xy c=true/\inB h.2.2.1.1.1 h.2.2.1.1.2.1 c.2.1=true:=zo7.1 h1;rw [if_pos h1'];by_cases h2:c.1<qw5 h
  ·rw [if_pos h2];exact Fr.br_t (uan h2) ⟨trivial,rfl⟩
  ·rw [if_neg h2];refine Fr.br_f (uao h2) ?_;by_cases h3:2000<=(chL h).length
   ·rw [if_pos h3];exact Fr.br_t (uan (by omega)) ⟨trivial,rfl⟩
   ·rw [if_neg h3];refine Fr.br_f (uao (by omega)) (Fr.need_ (qra h1'.1) (Fr.need_ hf.2.1 (Fr.need_ ⟨ua4 _,uak _,ua4 _,rfl⟩ ?_)));rw [yfc];have hr:=yei (n:=(chL h).length) (by omega);refine Fr.need_ ⟨ug6,hr⟩ ⟨trivial,?_⟩;rfl
theorem ypb:qa Tryz.prog 270 ym3:=
 wa ykj _ _ (fun w F x vs hr hok=>by
  obtain ⟨h,c,_⟩:=x;obtain ⟨v,vs',rfl,hv,_⟩:=hr;have hlen:((chL h).length:Int)<=9223372036854775807:=qno (qs.wf hv.2.2).2.2.2.1.1;have hf:jj h:=hok;by_cases h0:(chL h).length=0
  ·refine Fr.br_f (decide_eq_false (by show ¬ ((chL h).length:Int)>0; omega)) (zep ?_ hf);unfold qw5;rw [if_pos h0]
  ·have hw:IntKind.i64.wrap (((chL h).length:Int)-1)=((chL h).length:Int)-1:=qdi (by omega);refine Fr.br_t (uan (by show ((chL h).length:Int)>0; omega)) (Fr.need_ ?_ (zep ?_ hf))
   ·show 0<=IntKind.i64.wrap (((chL h).length:Int)-1)/\IntKind.i64.wrap (((chL h).length:Int)-1)<((chL h).length:Int);rw [hw];omega
   ·show (List.getD (chL h) (IntKind.i64.wrap (((chL h).length:Int)-1)).toNat qd.dflt).1=qw5 h;unfold qw5;rw [if_neg h0,hw,show (((chL h).length:Int)-1).toNat=(chL h).length-1 by omega])
end Go.Proofs.YtgieagiaagoogaaGreat
namespace Go.Proofs.YtgieagiaagoogaaGreat
open Go Go.Ab Go.RowKit Go.Proofs Go.Shelf
attribute [local go_sem] Oper.semAt_some
theorem ycv (w:World) (m:Nat) (z:Array Value) (hz:z.size=9) (h1:m<=maxLen) (e:TypeId) :
  w.grownBy ((w.alloc (.cells (Builtin.zeroCells z m++Builtin.zeroCells z (grownCap w m 0 e-m)) e)).drew) none /\
   ((w.alloc (.cells (Builtin.zeroCells z m++Builtin.zeroCells z (grownCap w m 0 e-m)) e)).drew).ownsRow w.heap.size e 9 (.slice (some ⟨w.heap.size,0,none⟩) 0 (grownCap w m 0 e)) 0 []:=by
 have hge:=uef w m 0 e;have hcm:grownCap w m 0 e<=maxLen:=ueg w m 0 e h1;refine ⟨⟨rfl,rfl,rfl,by simp,fun b hb _=>yh w.drew _ b hb⟩,rfl,.inr ⟨w.heap.size,_,_,rfl,ua3 _,ud6 w.drew _,ucl _,hcm,?_,?_⟩⟩
 ·simp only [udz,ueh,hz,← ucs];congr 1;omega
 ·rfl
set_option maxRecDepth 100000 in
theorem zxo:Tryz.prog.types[38].bytes=88:=by decide
theorem zzl (m:Nat) (h:0<m):Builtin.nextslicecap m 0=m:=by
 unfold Builtin.nextslicecap;rw [if_pos (by omega)]
set_option maxRecDepth 100000 in
set_option maxHeartbeats 2000000 in
theorem yjb (n:Nat) (m:Nat) (h1:m<=maxLen) (h2:m*88<=140737488355328) (w:World) :
  CallsIn Fence.wide n Tryz.prog 106 #[.slice none 0 0,.int .i64 m] w fun e w'=>
   ∃ v,e = .returned v/\w.grownBy w' none/\w'.ownsRow w.heap.size 38 9 v 0 []:=by
 have hb:Tryz.t38.bytes=88:=zxo;refine udb Tryz.func106 rfl trivial ?_ rfl;simp only [Tryz.ntmps106,ub5,uaf,ub9,Nat.reduceAdd,Nat.reduceSub,ubv,ubw,ubx,uby,uav,uaz]
 gi_wp2
 all_goals first
  |(exfalso; simp only [hb] at *; omega)
  |(exfalso; rename_i hlt _ _ _ _ _ ; rw [zzl _ (by omega),hb] at *; omega)
  |(go_ret; exact ⟨_,rfl,ufy _ _,ucz _ _ _ _⟩)
  |(go_ret; exact ⟨_,rfl,ycv w m _ rfl h1 _⟩)
theorem yct:GrowOK Tryz.prog 106 38 qd 88:=
 ⟨enters (fn:=Tryz.f106) (by kernel_rfl) rfl rfl,fun w n h1 h2=>(ucb.1 (yjb 1 n h1 h2 w))⟩
end Go.Proofs.YtgieagiaagoogaaGreat
namespace Go.Proofs.YtgieagiaagoogaaGreat
open Go Go.Ab Go.RowKit Go.Proofs
abbrev lls:Ty:=.sl (.sl qd)
noncomputable def CCc:Cx:=cxK [] [] (ztf 106 38 qd 88)
theorem qt5:CxOK Tryz.prog CCc:=qc4 (cs:=[]) (ps:=[]) qv trivial trivial (ycu yct)
abbrev qjs:Pt:=⟨36,0,⟨[(0,.d lls),(9,.d lls),(10,.d i64),(11,.d i64),(3,.d i64)],[]⟩,⟨[(0,.d lls),(3,.d i64)],[]⟩,⟨[],[]⟩⟩
abbrev qjt:Pt:=⟨36,2,⟨[(25,.d lls),(26,.d i64),(27,.d i64)],[.o 6 38 qd]⟩,⟨[],[.o 6 38 qd]⟩,⟨[],[]⟩⟩
def zsx (x:qjs.M.X):Fr qjs.Out:=
 let l0:List (List qd.den):=x.1.1; let l:List (List qd.den):=x.1.2.1; let n:Int:=x.1.2.2.1; let i:Int:=x.1.2.2.2.1; let s:Int:=x.1.2.2.2.2.1
 Fr.br (decide (i<n))
  (Fr.need (0<=i/\i<(l.length:Int))
   (Fr.br (decide (IntKind.i64.wrap (s+((List.length (α:=qd.den) (l.getD i.toNat []):Nat):Int))<0)) (Fr.need False (Fr.val (Rd.back ((),()))))
    (Fr.val (Rd.next ((l0,l,n,IntKind.i64.wrap (i+1),IntKind.i64.wrap (s+((List.length (α:=qd.den) (l.getD i.toNat []):Nat):Int)),()),())))))
  (Fr.val (Rd.out ((l0,s,()),())))
theorem ypj:qf Tryz.prog (qo Tryz.f72 0) qjs.M qjs zsx:=
 qf.of_run qt5 (bs:=0) (Λ:=qq) rfl rfl rfl (fun E=>qe _ 0) (fun x=>by kernel_rfl)
def zsy (x:qjt.M.X):Fr qjt.Out:=
 let l:List (List qd.den):=x.1.1; let n:Int:=x.1.2.1; let i:Int:=x.1.2.2.1; let o:List qd.den:=x.2.1
 Fr.br (decide (i<n))
  (Fr.need (0<=i/\i<(l.length:Int))
   (Fr.need (zhn o.length (List.length (α:=qd.den) (l.getD i.toNat [])))
    (Fr.val (Rd.next ((l,n,IntKind.i64.wrap (i+1),()),(o++l.getD i.toNat [],()))))))
  (Fr.val (Rd.out ((),(o,()))))
theorem ypk:qf Tryz.prog (qo Tryz.f72 1) qjt.M qjt zsy:=
 qf.of_run qt5 (bs:=0) (Λ:=qq) rfl rfl rfl (fun E=>qe _ 0) (fun x=>by kernel_rfl)
structure InvCc1 (l:List (List qd.den)) (n i s:Int):Prop where
 i0:0<=i
 il:i<=n
 nl:n=l.length
 big:(l.length:Int)<=9223372036854775807
 few:l.flatten.length<=1000000
 s0:s=((l.take i.toNat).flatten.length:Nat)
def yao (x:qjs.M.X):Fr qjs.Out:=Fr.need (x.1.1=x.1.2.1/\InvCc1 x.1.2.1 x.1.2.2.1 x.1.2.2.2.1 x.1.2.2.2.2.1) (Fr.val (Rd.out ((x.1.1,((List.flatten (α:=qd.den) x.1.2.1).length:Int),()),())))
theorem zfz (l:List (List qd.den)) {k:Nat} (hk:k<l.length):(l.take (k+1)).flatten=(l.take k).flatten++l.getD k []:=by
 rw [List.take_add_one,List.flatten_append,ua7 hk,ua6,ua7 hk];simp
theorem qv9 (l:List (List qd.den)) (k:Nat):(l.take k).flatten.length<=l.flatten.length:=by
 conv=>rhs; rw [← ue9 k l]
 rw [List.flatten_append,uas];omega
theorem yof (l0 l:List (List qd.den)) (n i s:Int) (hinv:l0=l/\InvCc1 l n i s) (Q:qjs.Out->Prop) (hq:Q (Rd.out ((l0,(l.flatten.length:Int),()),()))):(zsx ((l0,l,n,i,s,()),())).satP fun
   |.next x'=>(x'.1.1=x'.1.2.1/\InvCc1 x'.1.2.1 x'.1.2.2.1 x'.1.2.2.2.1 x'.1.2.2.2.2.1)/\(x'.1.2.2.1-x'.1.2.2.2.1).toNat<(n-i).toNat/\(yao x').satP Q
   |.out y=>Q (.out y)
   |.back z=>Q (.back z)
   |.pan p=>Q (.pan p):=by
 obtain ⟨rfl,h0,h1,h2,h3,h4,h5⟩:=hinv;obtain ⟨k,rfl⟩:∃ k:Nat,i=k:=⟨i.toNat,by omega⟩;subst h2;dsimp only [zsx,Fr.satP];rw [Int.toNat_natCast] at h5 ⊢;refine ⟨fun hi=>?_,fun hi=>?_⟩
 ·have hk:k<l0.length:=by have:(k:Int)<(l0.length:Int):=ua5 hi; omega
  have hf:=zfz l0 hk;have hle:=qv9 l0 (k+1);have hlen:=ubb List.length hf;rw [uas] at hlen;have w1:IntKind.i64.wrap ((k:Int)+1)=((k+1:Nat):Int):=by rw [qdi (by omega)]; omega
  have w2:IntKind.i64.wrap (s+((l0.getD k []).length:Int))=(((l0.take (k+1)).flatten.length:Nat):Int):=by rw [qdi (by omega)]; omega
  rw [w1,w2];refine ⟨⟨by omega,by omega⟩,fun hn=>?_,fun _=>?_⟩
  ·have:((((l0.take (k+1)).flatten.length:Nat):Int)<0):=ua5 hn;omega
  ·have hI:InvCc1 l0 l0.length ((k+1:Nat):Int) (((l0.take (k+1)).flatten.length:Nat):Int):=⟨by omega,by omega,rfl,h3,h4,by rw [ucn]⟩;exact ⟨⟨rfl,hI⟩,by omega,⟨rfl,hI⟩,hq⟩
 ·have hk:¬ (k:Int)<(l0.length:Int):=uac hi;rw [udc (by omega)] at h5;rw [h5];exact hq
theorem yjx:qf Tryz.prog (.loop (qo Tryz.f72 0)) qjs.M qjs yao:=by
 refine qf.loop (n:=36) (id:=0) ypj (inv:=fun x=>x.1.1=x.1.2.1/\InvCc1 x.1.2.1 x.1.2.2.1 x.1.2.2.2.1 x.1.2.2.2.2.1) (μ:=fun x=>(x.1.2.2.1-x.1.2.2.2.1).toNat) ?_ (fun x Q h=>h.1);rintro ⟨⟨l0,l,n,i,s,_⟩,_⟩ hinv Q hq;exact yof l0 l n i s hinv Q hq.2
structure InvCc2 (l:List (List qd.den)) (n i:Int) (o:List qd.den):Prop where
 i0:0<=i
 il:i<=n
 nl:n=l.length
 big:(l.length:Int)<=9223372036854775807
 few:l.flatten.length<=1000000
 o0:o=(l.take i.toNat).flatten
def yap (x:qjt.M.X):Fr qjt.Out:=Fr.need (InvCc2 x.1.1 x.1.2.1 x.1.2.2.1 x.2.1) (Fr.val (Rd.out ((),(List.flatten (α:=qd.den) x.1.1,()))))
theorem yej {n m:Nat} (h:n+m<=1000000):zhn n m:=by
 refine ⟨by unfold maxLen; omega,Nat.le_trans (Nat.mul_le_mul h qxr) (by decide)⟩
theorem yog (l:List (List qd.den)) (n i:Int) (o:List qd.den) (hinv:InvCc2 l n i o) (Q:qjt.Out->Prop) (hq:Q (Rd.out ((),(l.flatten,())))):(zsy ((l,n,i,()),(o,()))).satP fun
   |.next x'=>InvCc2 x'.1.1 x'.1.2.1 x'.1.2.2.1 x'.2.1/\(x'.1.2.1-x'.1.2.2.1).toNat<(n-i).toNat/\(yap x').satP Q
   |.out y=>Q (.out y)
   |.back z=>Q (.back z)
   |.pan p=>Q (.pan p):=by
 obtain ⟨h0,h1,h2,h3,h4,h5⟩:=hinv;obtain ⟨k,rfl⟩:∃ k:Nat,i=k:=⟨i.toNat,by omega⟩;subst h2;dsimp only [zsy,Fr.satP];rw [Int.toNat_natCast] at h5 ⊢;subst h5;refine ⟨fun hi=>?_,fun hi=>?_⟩
 ·have hk:k<l.length:=by have:(k:Int)<(l.length:Int):=ua5 hi; omega
  have hf:=zfz l hk;have hle:=qv9 l (k+1);have hlen:=ubb List.length hf;rw [uas] at hlen;have w1:IntKind.i64.wrap ((k:Int)+1)=((k+1:Nat):Int):=by rw [qdi (by omega)]; omega
  rw [w1,← hf];have hI:InvCc2 l l.length ((k+1:Nat):Int) (l.take (k+1)).flatten:=⟨by omega,by omega,rfl,h3,h4,by rw [ucn]⟩;exact ⟨⟨by omega,by omega⟩,yej (by omega),hI,by omega,hI,hq⟩
 ·have hk:¬ (k:Int)<(l.length:Int):=uac hi;rw [udc (by omega)];exact hq
theorem yjy:qf Tryz.prog (.loop (qo Tryz.f72 1)) qjt.M qjt yap:=by
 refine qf.loop (n:=36) (id:=2) ypk (inv:=fun x=>InvCc2 x.1.1 x.1.2.1 x.1.2.2.1 x.2.1) (μ:=fun x=>(x.1.2.1-x.1.2.2.1).toNat) ?_ (fun x Q h=>h.1);rintro ⟨⟨l,n,i,_⟩,o,_⟩ hinv Q hq;exact yog l n i o hinv Q hq.2
def qwl:Ct:=⟨[.d lls],[.sl qd],fun x=>(List.flatten (α:=qd.den) x.1,()),fun x=>[(List.flatten (α:=qd.den) x.1).length<=1000000]⟩
def qy0 (x:qn [.d lls]):Fr (qi [.sl qd]):=
 let l:List (List qd.den):=x.1
 Fr.need (l=l/\InvCc1 l l.length 0 0)
  (Fr.need (0<=((l.flatten.length:Nat):Int)/\((l.flatten.length:Nat):Int)<=maxLen/\((l.flatten.length:Nat):Int)*(88:Nat)<=140737488355328)
   (Fr.need (InvCc2 l l.length 0 []) (Fr.val (l.flatten,()))))
theorem zr7:qa Tryz.prog 72 ⟨[.d lls],[.sl qd],fun xs=>(qy0 xs).get,fun xs=>[(qy0 xs).ok]⟩:=
 qg qt5 (Λ:=(fun k=>if k=0 then qjs.han CCc.Γ qjs.M yao else qjt.han CCc.Γ qjt.M yap)) (fn:=Tryz.f72) (fr:=qy0) (ps:=[.d lls]) (rs:=[.sl qd]) ([],()) (by kernel_rfl)
  (fun c E hc=>zhf hc (by kernel_rfl) (b0:=qo Tryz.f72 0) (b1:=qo Tryz.f72 1) (by kernel_rfl) (by kernel_rfl) (qf.han qt5 rfl yjx) (qf.han qt5 rfl yjy)) (fun x=>by kernel_rfl)
theorem zwi:qa Tryz.prog 72 qwl:=
 wa zr7 _ _ (fun w F x vs hr hok=>by
  obtain ⟨l,_⟩:=x;obtain ⟨v,vs',rfl,hv,_⟩:=hr;have hlen:(List.length (α:=List qd.den) l:Int)<=9223372036854775807:=qno (qs.wf hv.2.2).1;have hf:(List.flatten (α:=qd.den) l).length<=1000000:=hok;refine Fr.need_ ⟨rfl,⟨ua4 _,uak _,rfl,hlen,hf,rfl⟩⟩ (Fr.need_ ⟨by omega,?_,?_⟩ (Fr.need_ ⟨ua4 _,uak _,rfl,hlen,hf,rfl⟩ ⟨trivial,rfl⟩))
  ·show ((List.flatten (α:=qd.den) l).length:Int)<=(maxLen:Int);unfold maxLen;omega
  ·show ((List.flatten (α:=qd.den) l).length:Int)*((88:Nat):Int)<=140737488355328;omega)
noncomputable def tnC:Code:=(Tryz.f71.body.map zqk).getD .skip
noncomputable def tnA:Code:=(Tryz.f71.body.map zxq).getD .skip
noncomputable def tnR:Code:=(findLabel tnC 0).getD .skip
noncomputable def CTn:Cx:=cx [(105,zit)] []
theorem qzq:CxOK Tryz.prog CTn:=zc qv ⟨zls,trivial⟩ trivial
def qt6:LS:=⟨[],[.x 1 54 qm,.r 1 1 0]⟩
def MTn:LS:=⟨[(4,.d (.sl i64)),(5,.d i64)],[.x 1 54 qm,.r 1 1 0]⟩
def zub:Pt:=⟨34,0,MTn,⟨[],[]⟩,⟨[(2,.d i64),(3,.d .bool)],[]⟩⟩
def zbj:Pt:=⟨34,0,qt6,⟨[],[]⟩,⟨[(2,.d i64),(3,.d .bool)],[]⟩⟩
def fTn (x:MTn.X):Fr zub.Out:=
 let l:List Int:=x.1.1; let k:Int:=x.1.2.1; let h:qm.den:=x.2.1
 let v:Int:=l.getD (IntKind.i64.wrap (k-1)).toNat 0
 Fr.br (k==0) (Fr.val (Rd.back ((0,false,()),())))
  (Fr.need (0<=IntKind.i64.wrap (k-1)/\IntKind.i64.wrap (k-1)<(l.length:Int))
   (Fr.need (0<=v/\v<((chL h).length:Int))
    (Fr.br (bif ((chL h).getD v.toNat qd.dflt).2.2.1 != 3 then ((chL h).getD v.toNat qd.dflt).2.2.1 != 4 else false)
     (Fr.val (Rd.next ((l,IntKind.i64.wrap (k-1),()),(h,()))))
     (Fr.need (0<=IntKind.i64.wrap (k-1)/\IntKind.i64.wrap (k-1)<(l.length:Int)) (Fr.val (Rd.back ((v,true,()),())))))))
def ysp (x:qt6.X):Fr zub.Out:=
 let h:qm.den:=x.2.1
 Fr.need (((chL h).length:Int)<=1000000) (fTn ((wb h,((wb h).length:Int),()),(h,())))
theorem ypl:qco Tryz.prog 0 tnC qt6 zub ysp:=qco.of_run qzq (bs:=0) rfl rfl rfl (fun _=>qe _ 0) (fun x=>by kernel_rfl)
theorem yrt:qco Tryz.prog 0 tnR MTn zub fTn:=qco.of_run qzq (bs:=0) rfl rfl rfl (fun _=>qe _ 0) (fun x=>by kernel_rfl)
def isT (c:qd.den):Bool:=c.2.2.1==3 || c.2.2.1==4
def qj2 (h:qm.den) (l:List Int):Nat->Option Int
 |0=>none
 |k+1=>if isT (vt h (l.getD k 0))=true then some (l.getD k 0) else qj2 h l k
structure InvTn (l:List Int) (k:Int) (h:qm.den):Prop where
 k0:0<=k
 kl:k<=l.length
 big:l.length<=1000000
 mem:∀ v∈l,0<=v/\v<((chL h).length:Int)
def zhm (o:Option Int):Rd qt6.X (LS.X ⟨[],[]⟩) (LS.X ⟨[(2,.d i64),(3,.d .bool)],[]⟩):=Rd.back ((o.getD 0,o.isSome,()),())
def FTn (x:MTn.X):Fr zbj.Out:=Fr.need (InvTn x.1.1 x.1.2.1 x.2.1) (Fr.val (zhm (qj2 x.2.1 x.1.1 (x.1.2.1:Int).toNat)))
def ymi (x:qt6.X):Fr zbj.Out:=Fr.need (((chL x.2.1).length:Int)<=1000000) (Fr.val (zhm (qj2 x.2.1 (wb x.2.1) (wb x.2.1).length)))
theorem ydb (c:qd.den):(bif c.2.2.1 != 3 then c.2.2.1 != 4 else false) = !isT c:=by
 unfold isT;show (bif !(c.2.2.1==3) then !(c.2.2.1==4) else false) = !(c.2.2.1==3 || c.2.2.1==4);cases c.2.2.1==3<;>cases c.2.2.1==4<;>rfl
theorem ygz (l:List Int) (k:Int) (h:qm.den) (hinv:InvTn l k h) (Q:zbj.Out->Prop) (hq:Q (zhm (qj2 h l k.toNat))):(fTn ((l,k,()),(h,()))).satP fun
   |.next x'=>InvTn x'.1.1 x'.1.2.1 x'.2.1/\(x'.1.2.1:Int).toNat<k.toNat/\(FTn x').satP Q
   |.out y=>Q (.out y)
   |.back z=>Q (.back z)
   |.pan p=>Q (.pan p):=by
 obtain ⟨h0,h1,h2,h3⟩:=hinv;obtain ⟨n,rfl⟩:∃ n:Nat,k=n:=⟨k.toNat,by omega⟩;rw [ucn] at hq ⊢;cases n with
 |zero=>exact ⟨fun _=>hq,fun hb=>(by cases hb)⟩
 |succ m=>
  have w1:IntKind.i64.wrap (((m+1:Nat):Int)-1)=(m:Int):=by rw [qdi (by omega)]; omega
  have hm:m<l.length:=by omega
  dsimp only [fTn,Fr.satP];rw [w1,Int.toNat_natCast];have hv:l.getD m 0=l[m]:=by rw [List.getD_eq_getElem?_getD,List.getElem?_eq_getElem hm]; rfl
  have hmem:=h3 (l.getD m 0) (by rw [hv]; exact uer hm);have hb:0<=(m:Int)/\(m:Int)<(l.length:Int):=⟨by omega,by omega⟩;have hkd:=ydb (vt h (l.getD m 0));refine ⟨fun hz=>?_,fun _=>⟨hb,hmem,fun hk=>?_,fun hk=>⟨hb,?_⟩⟩⟩
  ·exfalso;have:((m+1:Nat):Int)=0:=eq_of_beq hz;omega
  ·have ht:isT (vt h (l.getD m 0))=false:=by
    have hk':(bif (vt h (l.getD m 0)).2.2.1 != 3 then (vt h (l.getD m 0)).2.2.1 != 4 else false)=true:=hk;rw [hkd] at hk';simpa using hk'
   have hI:InvTn l (m:Int) h:=⟨by omega,by omega,h2,h3⟩;refine ⟨hI,Nat.lt_succ_self m,hI,?_⟩;show Q (zhm (qj2 h l (m:Int).toNat));rw [ucn];have e:qj2 h l (m+1)=qj2 h l m:=if_neg (by rw [ht]; decide);rw [← e];exact hq
  ·have ht:isT (vt h (l.getD m 0))=true:=by
    have hk':(bif (vt h (l.getD m 0)).2.2.1 != 3 then (vt h (l.getD m 0)).2.2.1 != 4 else false)=false:=hk;rw [hkd] at hk';simpa using hk'
   have e:qj2 h l (m+1)=some (l.getD m 0):=if_pos ht;rw [e] at hq;exact hq
theorem yks:qf Tryz.prog (.scope tnC) qt6 zbj ymi:=
 qco.scope2 (n:=34) (id:=0) (N:=qt6) (rest:=tnR) (by kernel_rfl) ypl yrt (F:=FTn) (inv:=fun x=>InvTn x.1.1 x.1.2.1 x.2.1) (μ:=fun x=>(x.1.2.1:Int).toNat)
  (by
   rintro ⟨_,h,_⟩ Q hq;have hlen:(wb h).length=(chL h).length:=qml h;have h1:((chL h).length:Int)<=1000000:=hq.1;have hI:InvTn (wb h) ((wb h).length:Int) h:=⟨uak _,ua4 _,by omega,fun v hv=>qs3 hv⟩;refine ⟨h1,Fr.satP_mono ?_ (ygz (wb h) ((wb h).length:Int) h hI Q ?_)⟩
   ·intro r hr;cases r with
    |next x'=>exact ⟨hr.1,hr.2.2⟩
    |out y=>exact hr
    |back z=>exact hr
    |pan p=>exact hr
   ·rw [ucn];exact hq.2)
  (by
   rintro ⟨⟨l,k,_⟩,h,_⟩ hinv Q hq;exact ygz l k h hinv Q hq.2)
def qli (h:qm.den):Option Int:=qj2 h (wb h) (wb h).length
def qr6:Ct:=⟨[.d qm],[i64,.bool],fun x=>((qli x.1).getD 0,(qli x.1).isSome,()),fun x=>[((chL x.1).length:Int)<=1000000]⟩
theorem yle:qa Tryz.prog 71 qr6:=
 wa (zkz (run:=qtq (ja Tryz.prog CTn 0 qq tnA 0) (zbj.han CTn.Γ qt6 ymi)) (fn:=Tryz.f71) (c:=.seq tnA (.scope tnC)) (ps:=[.d qm]) (rs:=[i64,.bool])
  (fr:=fun x=>Fr.need (((chL x.1).length:Int)<=1000000) (Fr.val ((qli x.1).getD 0,(qli x.1).isSome,()))) (qm.dflt,()) (by kernel_rfl) (by kernel_rfl)
  (fun E=>qmb (qim qzq (qe _ 0)) (qf.run qzq rfl yks)) (fun x=>by kernel_rfl)) _ _ (fun _ _ _ _ _ hok=>Fr.need_ hok ⟨trivial,rfl⟩)
def tlC:Code->Code
 |.seq _ c=>c
 |_=>.skip
def hdC:Code->Code
 |.seq c _=>c
 |_=>.skip
def zt6:Code->Array Oper
 |.region _ ops _=>ops
 |_=>#[]
noncomputable def bwC:Code:=(Tryz.f73.body.map fun c=>tlC (tlC c)).getD .skip
noncomputable def CBw:Cx:=cx [(104,xx)] [(108,ji),(109,qba),(110,qcb)]
theorem qt4:CxOK Tryz.prog CBw:=zc qv ⟨qvq,trivial⟩ ⟨zi9,zdg,zqr,trivial⟩
noncomputable def yg5:St->Option Tr:=
 qtq (ja Tryz.prog CBw 0 qq (hdC bwC) 0) (qtq (ja Tryz.prog CBw 0 qq (hdC (tlC bwC)) 0)
  (qtq (zdq Tryz.prog CBw 0 (zt6 (hdC (tlC (tlC bwC)))).toList) (ja Tryz.prog CBw 0 qq (tlC (tlC (tlC bwC))) 0)))
def zsw (b1 b2:Bool) (p1 p2:PV) (v:Int):Fr (qi [i64,i64]):=
 Fr.br b1 (Fr.need (b1=false->b1=false) (Fr.need (b1=true->True/\p1=p1) (Fr.need (b2=false->b2=false) (Fr.need (b2=true->True/\p2=p1) (Fr.need (inR .i64 p1.n) (Fr.val (0,p1.n,())))))))
  (Fr.br b2 (Fr.need (b1=false->b1=false) (Fr.need (b1=true->True/\p1=p2) (Fr.need (b2=false->b2=false) (Fr.need (b2=true->True/\p2=p2) (Fr.need (inR .i64 p2.n) (Fr.val (0,p2.n,())))))))
   (Fr.need (b1=false) (Fr.need (b2=false) (Fr.val (v,0,())))))
def zsv (f:zg.den) (a b:Int):Fr (qi [i64,i64]):=
 zsw (qcb.bad (f,b,())) (qcb.bad (f,a,())) (qcb.pv (f,b,())) (qcb.pv (f,a,())) (IntKind.i64.wrap ((qcb.f (f,b,())).1-(qcb.f (f,a,())).1))
def yci (x:qn [.d qag,.d zy]):Fr (qi [i64,i64]):=
 Fr.br (ji.bad (x.1,())) (Fr.need (inR .i64 (ji.pv (x.1,())).n) (Fr.val (0,(ji.pv (x.1,())).n,())))
  (Fr.br (!(xx.f (x.2.1,())).1)
   (Fr.br (qba.bad (1,())) (Fr.need (inR .i64 (qba.pv (1,())).n) (Fr.val (0,(qba.pv (1,())).n,()))) (zsv (ji.f (x.1,())).1 x.2.1.1 x.2.1.2.1))
   (zsv (ji.f (x.1,())).1 x.2.1.1 x.2.1.2.1))
theorem yen (E:Env):qkz Tryz.prog E bwC yg5:=
 qmb (x:=hdC bwC) (y:=tlC bwC) (qim qt4 (qe _ 0)) (qmb (x:=hdC (tlC bwC)) (y:=tlC (tlC bwC)) (qim qt4 (qe _ 0))
  (qmb (x:=hdC (tlC (tlC bwC))) (y:=tlC (tlC (tlC bwC))) (zoo (id:=5) (ops:=zt6 (hdC (tlC (tlC bwC)))) qt4) (qim qt4 (qe _ 0))))
theorem zqt:qa Tryz.prog 73 ⟨[.d qag,.d zy],[i64,i64],fun xs=>(yci xs).get,fun xs=>[(yci xs).ok]⟩:=
 ybx qt4 (run:=yg5) (fn:=Tryz.f73) (A:=hdC (Tryz.f73.body.getD .skip)) (c:=bwC) (rid:=1) (ops:=zt6 (hdC (tlC (Tryz.f73.body.getD .skip)))) (tp:=5) (fr:=yci) (ps:=[.d qag,.d zy]) (rs:=[i64,i64]) ([],(0,0,()),()) (by kernel_rfl) (by kernel_rfl) (by kernel_rfl) zqp yen (fun x=>by kernel_rfl)
theorem yrj {u1 u2:Int×Int} {b1 b2:Bool} {v:Int} (h1:b1 = !(u1.2==0)) (h2:b2 = !(u2.2==0)) :
  (if b1=true then ((0:Int),u1.2,()) else if b2=true then ((0:Int),u2.2,()) else (v,(0:Int),())) =
   ((if u1.2≠0 then ((0:Int),u1.2) else if u2.2≠0 then ((0:Int),u2.2) else (v,(0:Int))).1,(if u1.2≠0 then ((0:Int),u1.2) else if u2.2≠0 then ((0:Int),u2.2) else (v,(0:Int))).2,()):=by
 subst h1;subst h2;by_cases q1:u1.2=0
 ·by_cases q2:u2.2=0
  ·simp [q1,q2]
  ·simp [q1,q2]
 ·simp [q1]
theorem yh8 {a b:Int} (h1:0<=a/\a<=4000000000000000000) (h2:0<=b/\b<=4000000000000000000) : -9223372036854775808<=a-b/\a-b<=9223372036854775807:=by omega
theorem ycj {b1 b2:Bool} {p1 p2:PV} {v:Int} (h:b1=true->b2=true->p2=p1) (h1:inR .i64 p1.n) (h2:inR .i64 p2.n) :
  (zsw b1 b2 p1 p2 v).ok/\(zsw b1 b2 p1 p2 v).get=if b1=true then (0,p1.n,()) else if b2=true then (0,p2.n,()) else (v,0,()):=by
 cases b1 with
 |true=>exact ⟨⟨fun _=>⟨fun h=>(by cases h),fun _=>⟨trivial,rfl⟩,fun h=>h,fun hb=>⟨trivial,h rfl hb⟩,h1,trivial⟩,fun h=>(by cases h)⟩,rfl⟩
 |false=>
  cases b2 with
  |true=>exact ⟨⟨fun h=>(by cases h),fun _=>⟨fun _=>⟨fun h=>h,fun h=>(by cases h),fun h=>(by cases h),fun _=>⟨trivial,rfl⟩,h2,trivial⟩,fun h=>(by cases h)⟩⟩,rfl⟩
  |false=>exact ⟨⟨fun h=>(by cases h),fun _=>⟨fun h=>(by cases h),fun _=>⟨rfl,rfl,trivial⟩⟩⟩,rfl⟩
def qca (l:List ql.den) (s:zy.den):Int×Int:=
 if (qbd l).isNone=true∨qdy s=false then (0,1)
 else if (yc (yb l) s.2.1).2≠0 then (0,(yc (yb l) s.2.1).2)
 else if (yc (yb l) s.1).2≠0 then (0,(yc (yb l) s.1).2)
 else ((yc (yb l) s.2.1).1-(yc (yb l) s.1).1,0)
def qq0:Ct:=⟨[.d qag,.d zy],[i64,i64],fun x=>((qca x.1 x.2.1).1,(qca x.1 x.2.1).2,()),fun _=>[]⟩
theorem ya5:qa Tryz.prog 73 qq0:=
 conv zqt _ _ fun w F xs vs hr _=>by
  obtain ⟨l,s,_⟩:=xs;by_cases hc:(qbd l).isNone=true
  ·have hb:ji.bad (l,())=true:=hc;refine ⟨⟨fun _=>⟨zcw yb1,trivial⟩,fun h=>(by have h':ji.bad (l,())=false:=h; rw [hb] at h'; cases h')⟩,?_⟩;show (if ji.bad (l,())=true then ((0:Int),(1:Int),()) else _)=((qca l s).1,(qca l s).2,());unfold qca;rw [hb,if_pos rfl,if_pos (.inl hc)]
  ·have hc':(qbd l).isNone=false:=ueo.2 hc;have hb:ji.bad (l,())=false:=hc';have hp:=zwl hc';by_cases hs:qdy s=true
   ·have hn:(!(xx.f (s,())).1)=false:=by show (!(qdy s))=false; rw [hs]; rfl
    have hpv:qcb.bad (yb l,s.2.1,())=true->qcb.bad (yb l,s.1,())=true->qcb.pv (yb l,s.1,())=qcb.pv (yb l,s.2.1,()):=by
     intro h1 h2;have key:∀ d,qcb.bad (yb l,d,())=true->(yc (yb l) d).2=5:=fun d hd=>by
      have hd':(!((yc (yb l) d).2==0))=true:=hd;rw [zvd hp] at hd' ⊢;split
      ·rename_i hle;rw [if_pos hle] at hd';cases hd'
      ·rfl
     show (⟨_,_,(yc (yb l) s.1).2⟩:PV)=⟨_,_,(yc (yb l) s.2.1).2⟩;rw [key _ h1,key _ h2]
    obtain ⟨k1,k2⟩:=ycj (v:=IntKind.i64.wrap ((qcb.f (yb l,s.2.1,())).1-(qcb.f (yb l,s.1,())).1)) hpv (zcw (qwb (yb l) s.2.1)) (zcw (qwb (yb l) s.1));refine ⟨⟨fun h=>(by have h':ji.bad (l,())=true:=h; rw [hb] at h'; cases h'),fun _=>⟨fun h=>(by have h':(!(xx.f (s,())).1)=true:=h; rw [hn] at h'; cases h'),fun _=>k1⟩⟩,?_⟩;show (if ji.bad (l,())=true then _ else if (!(xx.f (s,())).1)=true then _ else (zsv (yb l) s.1 s.2.1).get)=((qca l s).1,(qca l s).2,());rw [hb,if_neg (by decide),hn,if_neg (by decide)];refine k2.trans ?_;have hw:=qdi (yh8 (qwc (yb l) s.2.1) (qwc (yb l) s.1));have hG:qca l s=if (yc (yb l) s.2.1).2≠0 then (0,(yc (yb l) s.2.1).2) else if (yc (yb l) s.1).2≠0 then (0,(yc (yb l) s.1).2) else ((yc (yb l) s.2.1).1-(yc (yb l) s.1).1,0):=if_neg (fun h=>h.elim hc (fun h=>by rw [hs] at h; cases h))
    rw [hG,← hw];exact yrj rfl rfl
   ·have hn:(!(xx.f (s,())).1)=true:=by show (!(qdy s))=true; simpa using hs
    refine ⟨⟨fun h=>(by have h':ji.bad (l,())=true:=h; rw [hb] at h'; cases h'),fun _=>⟨fun _=>⟨fun _=>⟨zcw yb1,trivial⟩,fun h=>(by cases h)⟩,fun h=>(by have h':(!(xx.f (s,())).1)=false:=h; rw [hn] at h'; cases h')⟩⟩,?_⟩;show (if ji.bad (l,())=true then _ else if (!(xx.f (s,())).1)=true then ((0:Int),(1:Int),()) else _)=((qca l s).1,(qca l s).2,());have hB:qca l s=(0,1):=if_pos (.inr (by simpa using hs));rw [hb,if_neg (by decide),hn,if_pos rfl,hB]
noncomputable def CKp:Cx:=cx [(46,cOf),(71,qr6),(72,qwl),(73,qq0),(74,cBp)] []
theorem ylz:CxOK Tryz.prog CKp:=zc qv ⟨ztw,yle,zwi,ya5,ygc,trivial⟩ trivial
def qzh (h:qm.den) (a:Int):List (List qd.den):=
 [List.take (a-0).toNat (List.drop (0:Int).toNat (chL h)),List.take (((chL h).length:Int)-IntKind.i64.wrap (a+1)).toNat (List.drop (IntKind.i64.wrap (a+1)).toNat (chL h))]
def zbv (h:qm.den) (l:List qd.den):qm.den:=(h.1,h.2.1,h.2.2.1,l,())
def zs1 (h x:qm.den) (t:ze.den) (day:Int):Fr (qi [i64,i64]):=
 Fr.need (jj x) (Fr.need (wn t)
  (Fr.br ((cOf.f (x,t,())).2.1 != 0) (Fr.val (0,(cOf.f (x,t,())).2.1,()))
   (Fr.br ((qq0.f ((cOf.f (x,t,())).1,(day,h.2.2.1.1.2.1,()),())).2.1 != 0) (Fr.val (0,(qq0.f ((cOf.f (x,t,())).1,(day,h.2.2.1.1.2.1,()),())).2.1,()))
    (Fr.val ((cBp.f ((qq0.f ((cOf.f (x,t,())).1,(day,h.2.2.1.1.2.1,()),())).1,1000,())).1,(cBp.f ((qq0.f ((cOf.f (x,t,())).1,(day,h.2.2.1.1.2.1,()),())).1,1000,())).2.1,())))))
def qu2 (x:qn [.d qm,.d ze]):Fr (qi [i64,i64]):=
 let h:qm.den:=x.1; let t:ze.den:=x.2.1
 let a:Int:=(qr6.f (h,())).1; let is:Bool:=(qr6.f (h,())).2.1
 Fr.need (jj h) (Fr.need (wn t) (Fr.br ((cOf.f (h,t,())).2.1 != 0) (Fr.val (0,(cOf.f (h,t,())).2.1,()))
  (Fr.need (((chL h).length:Int)<=1000000)
   (Fr.need ((!is)=false->0<=a/\a<((chL h).length:Int))
    (Fr.need ((bif !is then true else ((chL h).getD a.toNat qd.dflt).2.2.1 != 3)=false->0<=a/\a<((chL h).length:Int))
     (Fr.br (bif bif !is then true else ((chL h).getD a.toNat qd.dflt).2.2.1 != 3 then true else ((chL h).getD a.toNat qd.dflt).2.2.2.2.2.1 != 1) (Fr.val (0,0,()))
      (Fr.need (0<=a/\a<((chL h).length:Int))
       (Fr.need (0<=(none:Option Int).getD 0/\(none:Option Int).getD 0<=a/\a<=((chL h).length:Int))
        (Fr.need (0<=IntKind.i64.wrap (a+1)/\IntKind.i64.wrap (a+1)<=((chL h).length:Int)/\((chL h).length:Int)<=((chL h).length:Int))
         (Fr.need ((qzh h a).flatten.length<=1000000)
          (zs1 h (zbv h (qwl.f (qzh h a,())).1) t ((chL h).getD a.toNat qd.dflt).2.1)))))))))))
theorem yda:qa Tryz.prog 45 ⟨[.d qm,.d ze],[i64,i64],fun xs=>(qu2 xs).get,fun xs=>[(qu2 xs).ok]⟩:=
 qg ylz (Λ:=qq) (fn:=Tryz.f45) (fr:=qu2) (ps:=[.d qm,.d ze]) (rs:=[i64,i64]) (qm.dflt,ze.dflt,()) (by kernel_rfl) (fun c E _=>qe c 0) (fun x=>by kernel_rfl)
def qhc (h:qm.den) (a:Nat):qm.den:=zbv h ((chL h).take a++(chL h).drop (a+1))
def qw4 (h:qm.den) (t:ze.den) (a:Int):Int×Int:=
 if (vt h a).2.2.1=3/\(vt h a).2.2.2.2.2.1=1 then
  (if (ofF (qhc h a.toNat) t).2=0 then
   (if (qca (ofF (qhc h a.toNat) t).1 ((vt h a).2.1,h.2.2.1.1.2.1,())).2=0 then bpF (qca (ofF (qhc h a.toNat) t).1 ((vt h a).2.1,h.2.2.1.1.2.1,())).1 1000
    else (0,(qca (ofF (qhc h a.toNat) t).1 ((vt h a).2.1,h.2.2.1.1.2.1,())).2))
   else (0,(ofF (qhc h a.toNat) t).2))
 else (0,0)
def qdh (h:qm.den) (t:ze.den):Int×Int:=
 if (ofF h t).2=0 then (match qli h with|none=>(0,0)|some a=>qw4 h t a) else (0,(ofF h t).2)
def qzv:Ct:=⟨[.d qm,.d ze],[i64,i64],fun x=>((qdh x.1 x.2.1).1,(qdh x.1 x.2.1).2,()),fun x=>[jj x.1,wn x.2.1]⟩
theorem zf2 (h:qm.den) (l:List Int):(k:Nat)->k<=l.length->∀ v,qj2 h l k=some v->v∈l/\isT (vt h v)=true
 |0,_,_,hv=>by cases hv
 |k+1,hk,v,hv=>by
  unfold qj2 at hv;split at hv
  ·rename_i ht;cases hv;refine ⟨?_,ht⟩;have:l.getD k 0=l[k]:=by rw [ua6,ua7 (by omega)]; rfl
   rw [this];exact uer _
  ·exact zf2 h l k (by omega) v hv
theorem zz0 {h:qm.den} {a:Int} (ha:qli h=some a):(0<=a/\a<((chL h).length:Int))/\isT (vt h a)=true:=by
 obtain ⟨h1,h2⟩:=zf2 h (wb h) _ (ua3 _) a ha;exact ⟨qs3 h1,h2⟩
theorem ydx {h:qm.den} {a:Nat} (ha:a<(chL h).length) (hf:(chL h).length<=1000000):IntKind.i64.wrap ((a:Int)+1)=((a+1:Nat):Int)/\(qzh h a).flatten=(chL h).take a++(chL h).drop (a+1):=by
 have w:IntKind.i64.wrap ((a:Int)+1)=((a+1:Nat):Int):=by rw [qdi (by omega)]; omega
 refine ⟨w,?_⟩;unfold qzh;rw [w,Int.sub_zero,Int.toNat_natCast,Int.toNat_natCast,show (((chL h).length:Int)-((a+1:Nat):Int)).toNat=(chL h).length-(a+1) by omega];show List.flatten [List.take a (chL h),List.take ((chL h).length-(a+1)) (List.drop (a+1) (chL h))]=_;have e:List.take ((chL h).length-(a+1)) (List.drop (a+1) (chL h))=List.drop (a+1) (chL h):=List.take_of_length_le (by rw [List.length_drop]; exact Nat.le_refl _);rw [e];simp
theorem zot {h:qm.den} (hf:jj h) (a:Nat):jj (qhc h a):=by
 have hsub:List.Sublist ((chL h).take a++(chL h).drop (a+1)) (chL h):=by
  conv=>rhs; rw [← ue9 a (chL h)]
  refine List.Sublist.append (List.Sublist.refl _) ?_;rw [← List.drop_drop];exact List.drop_sublist 1 _
 refine ⟨ual (List.Sublist.length_le hsub) hf.1,hf.2.1,fun c hc=>hf.2.2 c (hsub.subset hc)⟩
theorem ygb {b:Bool} {x y:Int}:(bif bif !b then true else x != 3 then true else y != 1)=false↔b=true/\x=3/\y=1:=by
 cases b with
 |false=>simp
 |true=>
  by_cases h1:x=3
  ·by_cases h2:y=1
   ·simp [h1,h2]
   ·simp [h1,h2]
  ·simp [h1]
theorem yoc {h x:qm.den} {t:ze.den} {day:Int} (hx:jj x) (ht:wn t):(zs1 h x t day).ok/\(zs1 h x t day).get =
  (let r:Int×Int:=if (ofF x t).2=0 then (if (qca (ofF x t).1 (day,h.2.2.1.1.2.1,())).2=0 then bpF (qca (ofF x t).1 (day,h.2.2.1.1.2.1,())).1 1000 else (0,(qca (ofF x t).1 (day,h.2.2.1.1.2.1,())).2)) else (0,(ofF x t).2)
   (r.1,r.2,())):=by
 refine Fr.need_ hx (Fr.need_ ht ?_);by_cases h1:(ofF x t).2=0
 ·refine Fr.br_f (by show ((ofF x t).2 != 0)=false; simp [h1]) ?_;simp only [h1,if_true];by_cases h2:(qca (ofF x t).1 (day,h.2.2.1.1.2.1,())).2=0
  ·refine Fr.br_f (by show ((qca (ofF x t).1 (day,h.2.2.1.1.2.1,())).2 != 0)=false; simp [h2]) ⟨trivial,?_⟩;simp only [h2,if_true];rfl
  ·refine Fr.br_t (by show ((qca (ofF x t).1 (day,h.2.2.1.1.2.1,())).2 != 0)=true; simp [h2]) ⟨trivial,?_⟩;simp only [h2,ub3];rfl
 ·refine Fr.br_t (by show ((ofF x t).2 != 0)=true; simp [h1]) ⟨trivial,?_⟩;simp only [h1,ub3];rfl
theorem yjk (h:qm.den) (t:ze.den) (hf:jj h) (ht:wn t):(qu2 (h,t,())).ok/\(qu2 (h,t,())).get=((qdh h t).1,(qdh h t).2,()):=by
 have hl:(chL h).length<=500000:=hf.1;refine Fr.need_ hf (Fr.need_ ht ?_);unfold qdh;by_cases h1:(ofF h t).2=0
 ·refine Fr.br_f (by show ((ofF h t).2 != 0)=false; simp [h1]) (Fr.need_ (show ((chL h).length:Int)<=1000000 by omega) ?_);rw [if_pos h1];cases ho:qli h with
  |none=>
   have e2:(qr6.f (h,())).2.1=false:=by show (qli h).isSome=false; rw [ho]; rfl
   rw [e2];exact Fr.need_ (fun hh=>by cases hh) (Fr.need_ (fun hh=>by cases hh) (Fr.br_t rfl ⟨trivial,rfl⟩))
  |some a=>
   obtain ⟨⟨a0,a1⟩,hT⟩:=zz0 ho;have e1:(qr6.f (h,())).1=a:=by show (qli h).getD 0=a; rw [ho]; rfl
   have e2:(qr6.f (h,())).2.1=true:=by show (qli h).isSome=true; rw [ho]; rfl
   rw [e1,e2];refine Fr.need_ (fun _=>⟨a0,a1⟩) (Fr.need_ (fun _=>⟨a0,a1⟩) ?_);show _/\_=((qw4 h t a).1,(qw4 h t a).2,());cases hb:(bif bif !true then true else ((chL h).getD a.toNat qd.dflt).2.2.1 != 3 then true else ((chL h).getD a.toNat qd.dflt).2.2.2.2.2.1 != 1) with
   |true=>
    refine Fr.br_t rfl ⟨trivial,?_⟩;have hn:¬ ((vt h a).2.2.1=3/\(vt h a).2.2.2.2.2.1=1):=fun hh=>by
     have hb':(bif bif !true then true else (vt h a).2.2.1 != 3 then true else (vt h a).2.2.2.2.2.1 != 1)=true:=hb;rw [ygb.2 ⟨rfl,hh⟩] at hb';cases hb'
    unfold qw4;rw [if_neg hn];rfl
   |false=>
    obtain ⟨_,k1,k2⟩:=ygb.1 hb;obtain ⟨n,rfl⟩:∃ n:Nat,a=n:=⟨a.toNat,by omega⟩;obtain ⟨w,hfl⟩:=ydx (h:=h) (a:=n) (by omega) (by omega);have hwf:=zot hf n;have hlen:((qzh h n).flatten).length<=1000000:=by
     rw [hfl];have:(chL (qhc h n)).length<=500000:=hwf.1;exact ual this (by decide)
    have hnl:n<(chL h).length:=by omega
    have q1:0<=IntKind.i64.wrap ((n:Int)+1)/\IntKind.i64.wrap ((n:Int)+1)<=((chL h).length:Int):=by rw [w]; omega
    refine Fr.br_f rfl (Fr.need_ ⟨a0,a1⟩ (Fr.need_ ⟨ua4 _,a0,ubs a1⟩ (Fr.need_ ⟨q1.1,q1.2,ua4 _⟩ (Fr.need_ hlen ?_))));have hx:zbv h (qwl.f (qzh h n,())).1=qhc h n:=by
     show zbv h (List.flatten (qzh h n))=zbv h _;rw [hfl]
    rw [hx];have:=yoc (h:=h) (x:=qhc h n) (t:=t) (day:=(vt h n).2.1) hwf ht;refine ⟨this.1,this.2.trans ?_⟩;unfold qw4;have hk:(vt h n).2.2.1=3/\(vt h n).2.2.2.2.2.1=1:=⟨k1,k2⟩;rw [if_pos hk,Int.toNat_natCast]
 ·refine Fr.br_t (by show ((ofF h t).2 != 0)=true; simp [h1]) ⟨trivial,?_⟩;rw [if_neg h1];rfl
theorem yc9:qa Tryz.prog 45 qzv:=
 wa yda _ _ (fun w F x vs hr hok=>by
  obtain ⟨h,t,_⟩:=x;exact yjk h t hok.1 hok.2)
theorem ze6 (h:qm.den) (t:ze.den):0<=(qdh h t).1/\(qdh h t).1<=4000000000000000000:=by
 have z:(0:Int)<=0/\(0:Int)<=4000000000000000000:=by decide
 unfold qdh;split
 ·split
  ·exact z
  ·unfold qw4;split
   ·split
    ·split
     ·exact zeg _ _ _ (by decide)
     ·exact z
    ·exact z
   ·exact z
 ·exact z
theorem zd4 (l:List ql.den) (d:Int):0<=(qah l d).1/\(qah l d).1<=4000000000000000000:=by
 unfold qah;split
 ·exact zve
 ·exact qwc _ _
theorem ydu {a b:Int}:a>4000000000000000000-b↔4000000000000000000<a+b:=by omega
def ynp (w k:Int):Int×Int:=if 4000000000000000000<w+k then (0,5) else (w+k,0)
def qsf (h:qm.den) (t:ze.den):Int×Int:=
 if (qdh h t).2=0 then (if (qah (ofF h t).1 292195).2=0 then ynp (qah (ofF h t).1 292195).1 (qdh h t).1 else (0,(qah (ofF h t).1 292195).2)) else (0,(qdh h t).2)
def ym0:Ct:=⟨[.d qm,.d ze],[i64,i64],fun x=>((qsf x.1 x.2.1).1,(qsf x.1 x.2.1).2,()),fun x=>[jj x.1,wn x.2.1]⟩
noncomputable def CDu:Cx:=cx [(45,qzv),(46,cOf),(47,qr7)] []
theorem yls:CxOK Tryz.prog CDu:=zc qv ⟨yc9,ztw,zq7,trivial⟩ trivial
def zkd (h:qm.den) (t:ze.den) (over:Bool):Fr (qi [i64,i64]):=
 let K:qi [i64,i64]:=qzv.f (h,t,()); let W:qi [i64,i64]:=qr7.f ((cOf.f (h,t,())).1,())
 Fr.need (jj h) (Fr.need (wn t) (Fr.br (K.2.1 != 0) (Fr.val (0,K.2.1,()))
  (Fr.need (jj h) (Fr.need (wn t) (Fr.br (W.2.1 != 0) (Fr.val (0,W.2.1,()))
   (Fr.br over (Fr.val (0,5,())) (Fr.val (IntKind.i64.wrap (W.1+K.1),0,()))))))))
def zs0 (x:qn [.d qm,.d ze]):Fr (qi [i64,i64]):=
 zkd x.1 x.2.1 (decide ((qr7.f ((cOf.f (x.1,x.2.1,())).1,())).1>IntKind.i64.wrap (4000000000000000000-(qzv.f (x.1,x.2.1,())).1)))
theorem yil:qa Tryz.prog 20 ⟨[.d qm,.d ze],[i64,i64],fun xs=>(zs0 xs).get,fun xs=>[(zs0 xs).ok]⟩:=
 qg yls (Λ:=qq) (fn:=Tryz.f20) (fr:=zs0) (ps:=[.d qm,.d ze]) (rs:=[i64,i64]) (qm.dflt,ze.dflt,()) (by kernel_rfl) (fun c E _=>qe c 0) (fun x=>by kernel_rfl)
theorem yik {h:qm.den} {t:ze.den} {over:Bool} (hf:jj h) (ht:wn t) (ho:over=decide (4000000000000000000<(qah (ofF h t).1 292195).1+(qdh h t).1)) :
  (zkd h t over).ok/\(zkd h t over).get=((qsf h t).1,(qsf h t).2,()):=by
 have k:=ze6 h t;have u:=zd4 (ofF h t).1 292195;refine Fr.need_ hf (Fr.need_ ht ?_);unfold qsf;by_cases h1:(qdh h t).2=0
 ·rw [if_pos h1];refine Fr.br_f (by show ((qdh h t).2 != 0)=false; simp [h1]) (Fr.need_ hf (Fr.need_ ht ?_));by_cases h2:(qah (ofF h t).1 292195).2=0
  ·rw [if_pos h2];refine Fr.br_f (by show ((qah (ofF h t).1 292195).2 != 0)=false; simp [h2]) ?_;unfold ynp;by_cases h3:4000000000000000000<(qah (ofF h t).1 292195).1+(qdh h t).1
   ·rw [if_pos h3];exact Fr.br_t (ho.trans (uan h3)) ⟨trivial,rfl⟩
   ·rw [if_neg h3];refine Fr.br_f (ho.trans (uao h3)) ⟨trivial,?_⟩;show (IntKind.i64.wrap ((qah (ofF h t).1 292195).1+(qdh h t).1),(0:Int),())=_;rw [qdi (by omega)]
  ·rw [if_neg h2];exact Fr.br_t (by show ((qah (ofF h t).1 292195).2 != 0)=true; simp [h2]) ⟨trivial,rfl⟩
 ·rw [if_neg h1];exact Fr.br_t (by show ((qdh h t).2 != 0)=true; simp [h1]) ⟨trivial,rfl⟩
theorem ynq:qa Tryz.prog 20 ym0:=
 wa yil _ _ (fun w F x vs hr hok=>by
  obtain ⟨h,t,_⟩:=x;have k:=ze6 h t;have u:=zd4 (ofF h t).1 292195;refine yik hok.1 hok.2 ?_;show decide ((qah (ofF h t).1 292195).1>IntKind.i64.wrap (4000000000000000000-(qdh h t).1))=_;rw [qdi (by omega)];exact ufi.2 ydu)
theorem zvv {h:qm.den} {c:qd.den} (hf:jj h) (hl:(chL h).length<2000) (hc:c.2.2.2.2.1.length<=1000000):jj (zq8 h c):=by
 have e:chL (zq8 h c)=([]++chL h)++[c]:=rfl;refine ⟨?_,hf.2.1,fun c' hc'=>?_⟩
 ·rw [e,uav,uas];show _+1<=500000;omega
 ·rw [e,uav,ubc] at hc';rcases hc' with hc'|hc'
  ·exact hf.2.2 c' hc'
  ·cases ud2.1 hc';exact hc
theorem zqc {h:qm.den} {c:qd.den} (hf:jj h):jj (qvn h c).1:=by
 have z:jj h00:=⟨by decide,by decide,fun c hc=>by cases hc⟩;unfold qvn;split
 ·rename_i h1;split
  ·exact z
  ·split
   ·exact z
   ·exact zvv hf (by omega) (qra h1.1)
 ·exact z
end Go.Proofs.YtgieagiaagoogaaGreat
namespace Go.Proofs.YtgieagiaagoogaaGreat
open Go Go.Ab Go.RowKit Go.Proofs Go.Shelf
attribute [local go_sem] Oper.semAt_some
structure ChC where
 p:Nat->Int
 A:Option Addr
 l:Nat
 c:Nat
def qbg (d:ChC):Array Value:=#[.int .i64 (d.p 0),.int .i64 (d.p 1),.int .i64 (d.p 2),.int .i64 (d.p 3),.int .i64 (d.p 4),.int .i64 (d.p 5),.int .i64 (d.p 6),.slice d.A d.l d.c,.int .i64 (d.p 7)]
def qug (d:ChC):Value:=.agg (qbg d)
abbrev SlT:Type:=Option Addr×Nat×Nat
def ChC.set (d:ChC) (s:SlT):ChC:=⟨d.p,s.1,s.2.1,s.2.2⟩
theorem zv9 {w:World} {F:Nat->Prop} {x:qd.den} {g:Nat->Value->Prop} (h:qs w F qd x g) :
  ∃ d:ChC,(∀ j u,(qbg d)[j]? = some u->g j u)/\d.p 0=x.1/\qs w F (.sl qc) x.2.2.2.2.1 (fun _ u=>u = .slice d.A d.l d.c) /\
   ∀ (s:SlT) (Y:World) (F2:Nat->Prop),qs Y F2 (.sl qc) x.2.2.2.2.1 (fun _ u=>u = .slice s.1 s.2.1 s.2.2)->zv Y F2 qd x (qug (d.set s)):=by
 obtain ⟨h0,h1,h2,⟨b0,b1,b2,b3,_⟩,⟨A,c,h3,h3'⟩,h4,_⟩:=h;refine ⟨⟨fun j=>match j with|0=>x.1|1=>x.2.1|2=>x.2.2.1|3=>x.2.2.2.1.1|4=>x.2.2.2.1.2.1|5=>x.2.2.2.1.2.2.1|6=>x.2.2.2.1.2.2.2.1|_=>x.2.2.2.2.2.1,A,x.2.2.2.2.1.length,c⟩,fun j u hj=>?_,rfl,⟨A,c,rfl,h3'⟩,fun s Y F2 hs=>⟨rfl,⟨fun _=>⟨_,rfl⟩,fun _=>rfl⟩,⟨rfl,h0.2⟩,⟨rfl,h1.2⟩,⟨rfl,h2.2⟩,⟨⟨rfl,b0.2⟩,⟨rfl,b1.2⟩,⟨rfl,b2.2⟩,⟨rfl,b3.2⟩,trivial⟩,?_,⟨rfl,h4.2⟩,trivial⟩⟩
 rotate_left
 ·obtain ⟨A2,c2,e,h⟩:=hs;refine ⟨A2,c2,?_,h⟩;show some (Value.slice s.1 s.2.1 s.2.2)=_;rw [e]
 match j,hj with
 |0,hj=>cases hj; exact h0.1
 |1,hj=>cases hj; exact h1.1
 |2,hj=>cases hj; exact h2.1
 |3,hj=>cases hj; exact b0.1
 |4,hj=>cases hj; exact b1.1
 |5,hj=>cases hj; exact b2.1
 |6,hj=>cases hj; exact b3.1
 |7,hj=>cases hj; exact h3
 |8,hj=>cases hj; exact h4.1
 |j+9,hj=>simp [qbg] at hj
def qg0 (c:Nat->ChC) (day:Int) (k:Nat):List Nat:=(List.range k).filter fun i=>decide ((c i).p 0<=day)
theorem zwg {c:Nat->ChC} {day:Int} {k:Nat} (h:(c k).p 0<=day):qg0 c day (k+1)=qg0 c day k++[k]:=by simp [qg0,ufl,uga,h]
theorem ybn {c:Nat->ChC} {day:Int} {k:Nat} (h:¬ (c k).p 0<=day):qg0 c day (k+1)=qg0 c day k:=by simp [qg0,ufl,uga]; omega
theorem zi5 (c:Nat->ChC) (day:Int) (k:Nat):(qg0 c day k).length<=k:=by
 have:=List.length_filter_le (fun i=>decide ((c i).p 0<=day)) (List.range k);rw [List.length_range] at this;exact this
def qp8 (c:Nat->ChC) {len:Nat} (x:Fin len×SlT):Value:=qug ((c x.1.1).set x.2)
set_option maxRecDepth 100000 in
set_option maxHeartbeats 4000000 in
theorem yfq (n:Nat) (hn:1<=n) (l Bh oh Bd od n₀ b off len cap:Nat) (day:Int) (c:Nat->ChC) (hreach:len<=1000000) (A:Option Addr) (hA:0<len->A=some ⟨b,off,none⟩/\b<n₀) (E:Fin len×SlT->World->World->Prop) (J:List (Fin len×SlT)->World->Prop)
  (hJ:∀ pre X Y,J pre X->Below X.heap.size X Y->J pre Y)
  (W:World) (hn₀:n₀<=W.heap.size)
  (hclone:∀ (k:Fin len) X,KpS n₀ Bh Bd W X->Calls Tryz.prog 70 #[.slice (c k.1).A (c k.1).l (c k.1).c] X fun e w'=>∃ s:SlT,e = .returned (.slice s.1 s.2.1 s.2.2)/\Below X.heap.size X w' /\
   ∀ (Bx:Nat) (X0 Y:World),n₀<=Bx->Bx<X.heap.size->X0.heap.size<=X.heap.size->(∀ q,q≠Bx->Y.heap[q]? = w'.heap[q]?)->E (k,s) X0 Y)
  (hY:∀ pre (x:Fin len×SlT) X0 X,J pre X0->Below X0.heap.size X0 X->E x X0 X->pre.length<len->YieldAt Fence.wide (n-1) Tryz.prog l #[qp8 c x] X fun e W'=>e = .returned (.bool true)/\J (pre++[x]) W'/\KpS n₀ Bh Bd X W')
  (hBh:W.cell? ⟨Bh,oh+9,none⟩=some (.slice A len cap)) (hBd:W.cell? ⟨Bd,od,none⟩=some (.int .i64 day))
  (hc:∀ k j u,k<len->(qbg (c k))[j]? = some u->W.cell? ⟨b,off+(k*9+j),none⟩=some u) (h0:J [] W) :
  CallsIn Fence.wide n Tryz.prog 177 #[.func (.yield l) #[] #[],.pointer (some ⟨Bh,oh,none⟩),.pointer (some ⟨Bd,od,none⟩)] W fun e W'=>(∃ v,e = .returned v) /\
   ∃ xs:List (Fin len×SlT),xs.map (fun x=>x.1.1)=qg0 c day len/\J xs W':=by
 have hro:Fence.wide.round=none:=rfl;refine udb Tryz.func177 rfl trivial ?_ hro;simp only [Tryz.ntmps177,ub5,uaf,ub9,Nat.reduceAdd,Nat.reduceSub,ubv,ubw,ubx,uby,uav,uaz];have hl1:Bh<W.heap.size:=by
  obtain ⟨_,_,_,h⟩:=qr8 hBh;exact (uaa.1 h).1
 have hl2:Bd<W.heap.size:=by
  obtain ⟨_,_,_,h⟩:=qr8 hBd;exact (uaa.1 h).1
 gi_wp2
 gi_loopw [9] (fun i wr=>∃ (k:Nat) (pre:List (Fin len×SlT)),k<=len/\i = .int .i64 (k:Int)/\pre.map (fun x=>x.1.1)=qg0 c day k/\J pre wr/\KpS n₀ Bh Bd W wr)
  (fun i _=>((len:Int)-intOf i).toNat)
 case atStart=>exact ⟨0,[],ucl _,by simp,rfl,h0,KpS.refl _ _ _ _⟩
 case round=>
  obtain ⟨k,pre,hk,rfl,hpre,hJs,hnx⟩:=hrel;have e0:wr.cell? ⟨Bd,od,none⟩=some (.int .i64 day):=(ucf hnx.2.2).trans hBd;by_cases hlt:k<len
  ·obtain ⟨rfl,hb⟩:=hA (by omega);have hlen:pre.length<len:=by
    have:=ubb List.length hpre;have h2:=zi5 c day k;rw [ude] at this;omega
   have hcx:∀ j u,(qbg (c k))[j]? = some u->wr.cell? ⟨b,off+k*9+j,none⟩=some u:=fun j u hj=>by
    rw [uc4];exact (hnx.1.cell (p:=⟨b,off+(k*9+j),none⟩) hb).trans (hc _ j u hlt hj)
   have x0:=hcx 0 (.int .i64 ((c k).p 0)) rfl;have x1:=hcx 1 (.int .i64 ((c k).p 1)) rfl;have x2:=hcx 2 (.int .i64 ((c k).p 2)) rfl;have x3:=hcx 3 (.int .i64 ((c k).p 3)) rfl;have x4:=hcx 4 (.int .i64 ((c k).p 4)) rfl;have x5:=hcx 5 (.int .i64 ((c k).p 5)) rfl;have x6:=hcx 6 (.int .i64 ((c k).p 6)) rfl;have x7:=hcx 7 (.slice (c k).A (c k).l (c k).c) rfl;have x8:=hcx 8 (.int .i64 ((c k).p 7)) rfl;rw [Nat.add_zero] at x0;have hBdl:Bd<wr.heap.size:=Nat.lt_of_lt_of_le hl2 hnx.1.size;have hBhl:Bh<wr.heap.size:=Nat.lt_of_lt_of_le hl1 hnx.1.size;have hBb:Below wr.heap.size wr (wr.alloc (.cells (qbg (c k)) 38)):=(Below.refl _ wr).alloc (Nat.le_refl _) _;have e1:=(hBb.cell (p:=⟨Bd,od,none⟩) hBdl).trans e0;have hKb:KpS n₀ Bh Bd W (wr.alloc (.cells (qbg (c k)) 38)):=hnx.trans (KpS.below hBb (Nat.le_trans hn₀ hnx.1.size) hBhl hBdl);unfold qbg at e1;have HK:=Lib.hid hKb;have HB:=Lib.hid hBb;clear hcx hc hBh hBd hKb hBb
   gi_wp2
   ·have hno':day<(c k).p 0:=by assumption
    have hno:¬ (c k).p 0<=day:=by omega
    exact ⟨⟨k+1,pre,by omega,by simp,by rw [ybn hno,hpre],hJ _ _ _ hJs HB.out,HK.out⟩,by simp [intOf]; omega⟩
   ·have hyes:(c k).p 0<=day:=by assumption
    refine ⟨trivial,?_⟩;refine (ucb.2 (hclone ⟨k,hlt⟩ _ HK.out)).mono ?_;rintro e w1 ⟨s,rfl,hb1,hE⟩;have hszb:wr.heap.size<(wr.alloc (.cells (qbg (c k)) 38)).heap.size:=by simp
    have z4:=(hb1.block wr.heap.size hszb).trans (World.alloc_heap_new wr (.cells (qbg (c k)) 38));unfold qbg at z4;have u0:=qh z4 0;have u1:=qh z4 1;have u2:=qh z4 2;have u3:=qh z4 3;have u4:=qh z4 4;have u5:=qh z4 5;have u6:=qh z4 6;have u7:=qh z4 7;have u8:=qh z4 8;simp at u0 u1 u2 u3 u4 u5 u6 u7 u8;have ff:∀ j,w1.frozen? ⟨wr.heap.size,j,none⟩=false:=fun j=>by simp [World.frozen?,z4]
    have f7:=ff 7;have hW3:Below wr.heap.size wr (w1.setCell ⟨wr.heap.size,7,none⟩ (.slice s.1 s.2.1 s.2.2)):=(HB.out.trans (hb1.mono (Nat.le_of_lt hszb))).setCell (p:=⟨wr.heap.size,7,none⟩) (Nat.le_refl _) _;have hk3:KpS n₀ Bh Bd wr (w1.setCell ⟨wr.heap.size,7,none⟩ (.slice s.1 s.2.1 s.2.2)):=KpS.below hW3 (Nat.le_trans hn₀ hnx.1.size) hBhl hBdl;have hE3:=hE wr.heap.size wr (w1.setCell ⟨wr.heap.size,7,none⟩ (.slice s.1 s.2.1 s.2.2)) (Nat.le_trans hn₀ hnx.1.size) hszb (Nat.le_of_lt hszb) (fun q hq=>heap_setCell_other _ _ q _ hq);obtain ⟨fn,tmps,assign,body,hy,hR⟩:=hY pre (⟨k,hlt⟩,s) wr _ hJs hW3 hE3 hlen;dsimp only [qp8,qug,qbg,ChC.set] at hy;clear hY hclone hJ
    gi_wp2
    refine hR.mono ?_;rintro e W4 ⟨rfl,hJ4,hk4⟩
    gi_wp2
    go_roundw
    case rel=>exact ⟨k+1,pre++[(⟨k,hlt⟩,s)],by omega,by simp,by rw [zwg hyes,uda,hpre]; rfl,hJ4,hnx.trans (hk3.trans hk4)⟩
    case measure=>simp [intOf]; omega
  ·obtain rfl:k=len:=by omega
   gi_wp2
   go_end0
   exact ⟨⟨_,rfl⟩,_,hpre,hJs⟩
end Go.Proofs.YtgieagiaagoogaaGreat
namespace Go.Proofs.YtgieagiaagoogaaGreat
open Go Go.Ab Go.RowKit Go.Proofs Go.Shelf Go.Maps
attribute [local go_sem] Oper.semAt_some
def qgz (c:Nat->ChC) {len:Nat}:List (Fin len×SlT)->List Value
 |[]=>[]
 |x::l=>(qbg ((c x.1.1).set x.2)).toList++qgz c l
theorem quj (c:Nat->ChC) {len:Nat}:(a b:List (Fin len×SlT))->qgz c (a++b)=qgz c a++qgz c b
 |[],_=>rfl
 |x::a,b=>by simp [qgz,quj c a b]
theorem zea (c:Nat->ChC) {len:Nat}:(a:List (Fin len×SlT))->(qgz c a).length=a.length*9
 |[]=>rfl
 |x::a=>by simp [qgz,qbg,zea c a]; omega
def qwj (c:Nat->ChC) (F:Nat->Prop) (y:Nat->qd.den) {len:Nat} (x:Fin len×SlT) (X Y:World):Prop:=
 ∃ F',zv Y F' qd (y x.1.1) (qp8 c x)/\∀ q,F' q->(F q∨X.heap.size<=q)/\∃ arr ty p,Y.heap[q]? = some (.cells arr ty p)
def zq1 (w:World) (c:Nat->ChC) (F:Nat->Prop) (y:Nat->qd.den) {len:Nat} (els pre:List (Fin len×SlT)) (W:World) (v:Value) (F':Nat->Prop):Prop:=
 W.heap[w.heap.size]? = some (.cells #[v] 52 (0,0))/\W.ownsRow w.heap.size 38 9 v pre.length (qgz c pre)/\yq W F' qd (els.map fun x=>y x.1.1) (qgz c els) /\
  ∀ q,F' q->(F q∨w.heap.size<=q)/\v.ownBlock≠some q/\q≠w.heap.size/\∃ arr ty p,W.heap[q]? = some (.cells arr ty p)
structure CoI (w:World) (c:Nat->ChC) (F:Nat->Prop) (y:Nat->qd.den) {len:Nat} (els pre:List (Fin len×SlT)) (W:World):Prop where
 row:∃ v F',zq1 w c F y els pre W v F'
 bel:Below w.heap.size w W
theorem qiu {W:World} {base:Nat} {e:TypeId} {size:Nat} {v:Value} {k:Nat} {xs:List Value} (h:W.ownsRow base e size v k xs) {j:Nat} (hj:v.ownBlock=some j):base<=j/\∃ cur,W.heap[j]? = some (.cells cur e (0,0)):=by
 rcases h.2 with ⟨rfl,_⟩|⟨g,cap,cur,rfl,hb,hgb,_⟩
 ·simp [Value.ownBlock] at hj
 ·have:g=j:=by simpa [Value.ownBlock] using hj
  subst this;exact ⟨hb,_,hgb⟩
theorem zyn {W:World} {base:Nat} {e:TypeId} {size:Nat} {v:Value} {k:Nat} {xs:List Value} (h:W.ownsRow base e size v k xs) {j:Nat} {o:Obj} (hj:W.heap[j]? = some o) (hno:∀ cur,o ≠ .cells cur e (0,0)):v.ownBlock=none∨v.ownBlock≠some j:=by
 by_cases he:v.ownBlock=some j
 ·obtain ⟨_,cur,hc⟩:=qiu h he;rw [hj] at hc;cases hc;exact absurd rfl (hno cur)
 ·exact .inr he
theorem zr5 {w:World} {c:Nat->ChC} {F:Nat->Prop} {y:Nat->qd.den} {len:Nat} {els pre:List (Fin len×SlT)} {W W':World} {v:Value} {F':Nat->Prop} {row:Option Nat} (h:zq1 w c F y els pre W v F') (hg:W.grownBy W' row)
  (hr:∀ r,row=some r->∃ o:Obj,W.heap[r]? = some o/\o.isCells=false):zq1 w c F y els pre W' v F':=by
 obtain ⟨h1,h2,h3,h4⟩:=h;have hcells:∀ q arr ty p,W.heap[q]? = some (Obj.cells arr ty p)->W'.heap[q]? = W.heap[q]? := fun q arr ty p hq=>hg.block q (uaa.1 hq).1 (fun e=>by
  obtain ⟨o,ho,hc⟩:=hr q e.symm;rw [hq] at ho;cases ho;cases hc)
 refine ⟨(hcells _ _ _ _ h1).trans h1,h2.kept hg ?_,h3.mono (fun _ h=>h) (fun q hq=>?_),fun q hq=>?_⟩
 ·by_cases he:v.ownBlock=row
  ·cases hrow:row with
   |none=>exact .inl (he.trans hrow)
   |some r=>
    obtain ⟨o,ho,hc⟩:=hr r hrow;obtain ⟨_,cur,hcu⟩:=qiu h2 (he.trans hrow);rw [ho] at hcu;cases hcu;cases hc
  ·exact .inr he
 ·obtain ⟨_,_,_,arr,ty,p,hc⟩:=h4 q hq;exact hcells _ _ _ _ hc
 ·obtain ⟨a1,a2,a3,arr,ty,p,hc⟩:=h4 q hq;exact ⟨a1,a2,a3,arr,ty,p,(hcells _ _ _ _ hc).trans hc⟩
theorem zcr {w:World} {c:Nat->ChC} {F:Nat->Prop} {y:Nat->qd.den} {len:Nat} {B:Nat} (hB:w.heap.size<=B) (els pre:List (Fin len×SlT)) {X Y:World} {row:Option Nat} (h:CoI w c F y els pre X) (hg:X.grownBy Y row) (hr:∀ r,row=some r->B<=r/\∃ o:Obj,X.heap[r]? = some o/\o.isCells=false):CoI w c F y els pre Y:=by
 obtain ⟨v,F',hrow⟩:=h.row;exact ⟨⟨v,F',zr5 hrow hg fun r e=>(hr r e).2⟩,h.bel.grown hg h.bel.size (fun k e=>ual hB (hr k e).1)⟩
theorem zy6 {W:World} {F:Nat->Prop} {x:qd.den} {d:ChC} (h:zv W F qd x (qug d)):yq W F qd [x] (qbg d).toList:=fun i z hz=>by
 cases i with
 |zero=>
  simp only [ubn,ua0] at hz;subst hz;refine h.2.2.mono (fun _ h=>h) (fun _ _=>rfl) fun j u _ hu=>?_;have:(qbg d)[j]? = some u:=hu;simpa using this
 |succ i=>simp at hz
theorem zr4 {w:World} {c:Nat->ChC} {F:Nat->Prop} {y:Nat->qd.den} {len:Nat} {pre:List (Fin len×SlT)} {x:Fin len×SlT} {X Y:World} (h:CoI w c F y pre pre X) (hb:Below X.heap.size X Y) (hF:∀ q,F q->q<w.heap.size) (hE:qwj c F y x X Y):CoI w c F y (pre++[x]) pre Y:=by
 obtain ⟨v,F',h1,h2,h3,h4⟩:=h.row;obtain ⟨F2,hr,hF2⟩:=hE;have hs:w.heap.size<X.heap.size:=(uaa.1 h1).1;have hblk:∀ q o,X.heap[q]? = some o->Y.heap[q]? = some o:=fun q o hq=>(hb.block q (uaa.1 hq).1).trans hq;refine ⟨⟨v,fun q=>F' q∨F2 q,hblk _ _ h1,h2.kept (row:=none) ⟨hb.os,hb.tape,hb.output,hb.size,fun k hk _=>hb.block k hk⟩ ?_,?_,fun q hq=>?_⟩,h.bel.trans (hb.mono (uds hs))⟩
 ·cases v.ownBlock with
  |none=>exact .inl rfl
  |some g=>exact .inr (by simp)
 ·rw [uda,quj];refine yq.append (h3.mono (fun _ h=>.inl h) fun q hq=>?_) ?_ ?_
  ·obtain ⟨_,_,_,arr,ty,p,hc⟩:=h4 q hq;exact (hblk _ _ hc).trans hc.symm
  ·rw [zea,ude];rfl
  ·have:=zy6 hr;simp only [qgz,ud1,ud0,ugg];exact this.mono (fun _ h=>.inr h) (fun _ _=>rfl)
 ·rcases hq with hq|hq
  ·obtain ⟨a1,a2,a3,arr,ty,p,hc⟩:=h4 q hq;exact ⟨a1,a2,a3,arr,ty,p,hblk _ _ hc⟩
  ·obtain ⟨a1,arr,ty,p,hc⟩:=hF2 q hq;refine ⟨a1.elim .inl (fun h=>.inr (by omega)),fun e=>?_,fun e=>?_,arr,ty,p,hc⟩
   ·obtain ⟨hge,cur,hcu⟩:=qiu h2 e;have hlt:=(uaa.1 hcu).1;rcases a1 with a1|a1
    ·have:=hF q a1;omega
    ·omega
   ·rcases a1 with a1|a1
    ·have:=hF q a1;omega
    ·omega
def CoA (w:World) (c:Nat->ChC) (F:Nat->Prop) (y:Nat->qd.den) {len:Nat} (a:Fin len×SlT->Nat->Act) (pre:List (Fin len×SlT)) (x:Fin len×SlT) (a':Act) (W:World):Prop:=
 CoI w c F y (pre++[x]) pre W/\∃ Bx,w.heap.size<Bx/\W.heap[Bx]? = some (.cells (qbg ((c x.1.1).set x.2)) 38 (0,0))/\a'=a x Bx
theorem yib {w:World} {c:Nat->ChC} {F:Nat->Prop} {y:Nat->qd.den} {len:Nat} {a:Fin len×SlT->Nat->Act} {B:Nat} (hB:w.heap.size<=B) (pre:List (Fin len×SlT)) (x:Fin len×SlT) (a':Act):OwnFrom B (fun (_:Unit) W=>CoA w c F y a pre x a' W):=fun _ X Y row hs hg hr=>by
 obtain ⟨h0,Bx,h1,h2,h3⟩:=hs;exact ⟨zcr hB _ _ h0 hg hr,Bx,h1,qef h2 hg hr,h3⟩
set_option maxRecDepth 100000 in
theorem yia:(Tryz.prog.info? 38).map (fun i=>(i.zero,i.size,i.bytes))=some (some (.agg #[.int .i64 0,.int .i64 0,.int .i64 0,.int .i64 0,.int .i64 0,.int .i64 0,.int .i64 0,.slice none 0 0,.int .i64 0]),9,88):=by kernel_rfl
theorem qp7 {W:World} {B:Nat} {v:Value} {t:TypeId} (h:W.heap[B]? = some (.cells #[v] t (0,0))):W.cell? ⟨B,0,none⟩=some v/\W.frozen? ⟨B,0,none⟩=false:=by
 constructor<;>simp [World.cell?,World.frozen?,h]
theorem zx9 (W:World) (arr:Array Value) (t:TypeId) (j:Nat) (u:Value) (h:arr.toList[j]? = some u):(W.alloc (.cells arr t)).cell? ((⟨W.heap.size,0,none⟩:Addr).add j)=some u:=by
 have hb:=qh (World.alloc_heap_new W (.cells arr t)) j;have he:(⟨W.heap.size,0,none⟩:Addr).add j=⟨W.heap.size,j,none⟩:=by unfold Addr.add; split<;>simp_all
 rw [he,hb];simpa using h
theorem ztg {X Y:World} {row:Option Nat} (hg:X.grownBy Y row) (h:∀ r,row=some r->∃ arr t p,X.heap[r]? = some (Obj.cells arr t p)):KeepsOthers X Y:=
 ⟨hg.size,fun k o hk ho=>(hg.block k (uaa.1 hk).1 (fun e=>by
  obtain ⟨arr,t,p,hc⟩:=h k e.symm;rw [hk] at hc;cases hc;cases ho)).trans hk⟩
theorem qix {W:World} {B:Nat} {v:Value} {t:TypeId} (v':Value) (h:W.heap[B]? = some (.cells #[v] t (0,0))):(W.setCell ⟨B,0,none⟩ v').heap[B]? = some (.cells #[v'] t (0,0)):=uco W B 0 _ t v' h
theorem ydw {W:World} {F:Nat->Prop} {base:Nat} {e:TypeId} {t:Ty} {v:Value} {l:List t.den} {xs:List Value} (h:W.ownsRow base e t.size v l.length xs) (hr:yq W F t l xs):qs W (fun q=>F q∨v.ownBlock=some q) (.sl t) l (fun _ u=>u=v):=by
 rcases h.2 with ⟨rfl,hn⟩|⟨g,cap,cur,rfl,hb,hgb,h1,h2,h3,h4⟩
 ·exact ⟨none,0,by rw [hn],by omega,ucl _,fun i x hx=>by have:=(uaj.1 hx).1; omega⟩
 ·refine ⟨some ⟨g,0,none⟩,cap,rfl,h1,h2,fun i x hx=>⟨⟨g,0,none⟩,rfl,.inr rfl,(hr i x hx).mono (fun _ h=>.inl h) (fun _ _=>rfl) fun j u _ hu=>?_⟩⟩;have he:(⟨g,0,none⟩:Addr).add (i*t.size+j)=⟨g,i*t.size+j,none⟩:=by unfold Addr.add; split<;>simp_all
  show W.cell? _=some u;rw [he,qh hgb];have hu':xs[i*t.size+j]? = some u:=hu;rw [← h4,uap] at hu';split at hu'
  ·simpa using hu'
  ·cases hu'
set_option maxRecDepth 100000 in
set_option maxHeartbeats 4000000 in
theorem zvx (n : Nat) (hn : 2 <= n) (c : Nat -> ChC) (F : Nat -> Prop) (y : Nat -> qd.den) (len : Nat) (hlen : len <= 1000000) (gf : Nat) (lb : Array Value) (eg : ∀ args w, (callFunc gf args).run Tryz.prog w = .ok (.enter gf args) w) (w : World) (hF : ∀ q, F q -> q < w.heap.size) (S : List (Fin len × SlT) -> Prop)
    (hseq : ∀ w0, Below w.heap.size w w0 -> zq6 Fence.wide (n - 1) Tryz.prog gf lb (fun x : Fin len × SlT => #[qp8 c x]) (qwj c F y) (Below w.heap.size) S len w0) :
    CallsIn Fence.wide n Tryz.prog 176 #[.slice none 0 0, .func (.func gf) #[] lb] w fun e w' => ∃ v xs F', e = .returned v /\ S xs /\ Below w.heap.size w w' /\
      qs w' F' (.sl qd) (xs.map fun x => y x.1.1) (fun _ u => u = v) /\ ∀ q, F' q -> (F q ∨ w.heap.size <= q) /\ q < w'.heap.size := by
  refine ug8 Tryz.func176 rfl trivial ?_ rfl
  simp only [Tryz.ntmps176, ub5, uaf, ub9, Nat.reduceAdd, Nat.reduceSub, ubv, ubw, ubx, uby, uav, uaz]
  gi_wp2
  have hbel : Below w.heap.size w (w.alloc (.cells #[.slice none 0 0] 52)) := (uat _ w).alloc (ua3 _) _
  have hbx := uax w (.cells #[.slice none 0 0] 52)
  have hsz : (w.alloc (.cells #[.slice none 0 0] 52)).heap.size = w.heap.size + 1 := by simp
  obtain ⟨W0, hW0⟩ : ∃ W0, w.alloc (.cells #[.slice none 0 0] 52) = W0 := ⟨_, rfl⟩
  rw [hW0] at hbel hbx hsz ⊢
  clear hW0
  have hI0 : CoI w c F y ([] : List (Fin len × SlT)) [] W0 := ⟨⟨_, fun _ => False, hbx, ⟨rfl, .inl ⟨rfl, rfl⟩⟩, fun i z hz => by simp at hz, fun q hq => hq.elim⟩, hbel⟩
  refine zou rfl (by omega) (gf := gf) (lb := lb) rfl trivial eg (α := Fin len × SlT) (encs := fun x => #[qp8 c x]) (E := qwj c F y) (Kp := Below w.heap.size) (S := S) (N := len) (hseq W0 hbel)
    (fun h k => h.trans k) (fun W l o o' hl ho hoc => ⟨rfl, rfl, rfl, by simp, fun k hk => ucc (by omega)⟩) (fun _ => rfl)
    (fun pre W => CoI w c F y pre pre W) (fun pre X Y row h hg hr => zcr (B := W0.heap.size) hbel.size _ _ h hg hr) hI0
    (fun pre x a' W => CoA w c F y (fun x Bx => { tmps := #[.slice none 0 0, .func (.func gf) #[] lb, .pointer (some ⟨w.heap.size, 0, none⟩), undef, .slice none 0 0, .pointer (some ⟨Bx, 0, none⟩), .func (.func gf) #[] lb, qp8 c x, undef, undef, undef, undef, undef], defers := [] }) pre x a' W)
    (fun pre x a' => yib hbel.size pre x a') ?assign ?body ?done
  case assign =>
    rintro l pre x X W K hi hb hE hK
    have hi2 := zr4 hi hb hF hE
    unfold qp8 qug qbg
    gi_wp2
    obtain ⟨v, F', r1, _⟩ := hi2.row
    have hlt : w.heap.size < W.heap.size := (uaa.1 r1).1
    exact hK _ _ ((ufb _ _).from _) ((uat _ W).alloc (uds hlt) _)
      ⟨zcr (B := W0.heap.size) hbel.size _ _ hi2 (ufx W _ none) (fun r e => nomatch e), W.heap.size, hlt, uax W _, rfl⟩
  case body =>
    rintro l pre x a' W ⟨hi, Bx, hBx, bX, rfl⟩ hlt
    obtain ⟨v, F', r1, r2, r3, r4⟩ := hi.row
    obtain ⟨i0, hi0, hz0, hz1, hz2⟩ := ucq yia
    have bX' := bX
    unfold qbg at bX'
    have y0 := qh bX' 0
    have y1 := qh bX' 1
    have y2 := qh bX' 2
    have y3 := qh bX' 3
    have y4 := qh bX' 4
    have y5 := qh bX' 5
    have y6 := qh bX' 6
    have y7 := qh bX' 7
    have y8 := qh bX' 8
    simp at y0 y1 y2 y3 y4 y5 y6 y7 y8
    obtain ⟨hc1, hf1⟩ := qp7 r1
    have hlt0 : w.heap.size < W.heap.size := (uaa.1 r1).1
    have hnew := zx9 W (qbg ((c x.1.1).set x.2)) 38
    have HR := Lib.hid r3
    have HF := Lib.hid r4
    have hbelI := hi.bel
    have hv3f : ∀ (arr : Array Value) (w3 : World), (W.alloc (.cells arr 38)).grownBy w3 v.ownBlock -> w3.heap[w.heap.size]? = some (.cells #[v] 52 (0, 0)) := fun arr w3 hg =>
      (hg.block _ (by simp; omega) (fun e => (zyn r2 r1 (fun cur e => by cases e)).elim (fun h => by rw [h] at e; cases e) (fun h => h e.symm))).trans ((uaq _ _ _ hlt0).trans r1)
    unfold qbg at hnew
    clear r3 r4 bX bX' hseq hi
    gi_wp2_with (first
      | (gi_at_builtin; refine wpListIn_append_own_at _ rfl _ _ 52 rfl w.heap.size 38 i0 _ 9 88 Tryz.underlying52 hi0 hz0 hz1 hz2 rfl (by decide) _ _ _ rfl (r2.alloc _) ⟨W.heap.size, 0, none⟩ 1 1 _ rfl rfl hnew (by simp [Value.oneCell']) (by simp only [maxLen]; omega) (by omega) (by simp; omega) ?_; intro v' w3 hown' hg3 hnil3 hat3
         have hv3 : w3.heap[w.heap.size]? = some (.cells #[v] 52 (0, 0)) := hv3f _ _ hg3
         obtain ⟨hc3, hf3⟩ := qp7 hv3
         obtain ⟨g', cap', cur', rfl, hbase', hgb', hr1, hr2, hr3, hr4⟩ : ∃ g' cap' cur', v' = .slice (some ⟨g', 0, none⟩) (pre.length + 1) cap' /\ w.heap.size <= g' /\ w3.heap[g']? = some (.cells cur' 38 (0, 0)) /\ pre.length + 1 <= cap' /\ cap' <= maxLen /\ cur'.size = cap' * 9 /\ cur'.toList.take ((pre.length + 1) * 9) = qgz c pre ++ _ := by
           rcases hown'.2 with ⟨_, h0⟩ | h'
           · exact absurd h0 (by omega)
           · exact h'
         go_frame)
      | gi_in)
    have hownX := r2.alloc (.cells (qbg ((c x.1.1).set x.2)) 38)
    have hgX : (W.alloc (.cells (qbg ((c x.1.1).set x.2)) 38)).grownBy w3 v.ownBlock := hg3
    have hg4 := grownBy_setCell' w3 w.heap.size (.slice (some ⟨g', 0, none⟩) (pre.length + 1) cap')
    have hb3 : Below w.heap.size W w3 := ((uat _ W).alloc (uds hlt0) _).grown hgX (by simp; omega) (fun k e => (qiu hownX e).1)
    have hb4 := hb3.setCell (p := ⟨w.heap.size, 0, none⟩) (ua3 _) (.slice (some ⟨g', 0, none⟩) (pre.length + 1) cap')
    have hsame : ∀ q, F' q -> (w3.setCell ⟨w.heap.size, 0, none⟩ (.slice (some ⟨g', 0, none⟩) (pre.length + 1) cap')).heap[q]? = W.heap[q]? := fun q hq => by
      obtain ⟨_, a2, a3, arr, ty, p, hc⟩ := HF.out q hq
      have hq2 := (uaa.1 hc).1
      exact (uch _ _ q _ a3).trans ((hgX.block q (by simp; omega) (fun e => a2 e.symm)).trans (uaq _ _ _ hq2))
    refine ⟨rfl, (((ufb W _).trans (ztg hgX fun r e => ?_)).trans (uc6 w3 _ _)).from _, hb4, ⟨_, F', qix _ hv3, ?_, HR.out.mono (fun _ h => h) hsame, fun q hq => ?_⟩, hbelI.trans hb4⟩
    · obtain ⟨_, cur, hc⟩ := qiu hownX e
      exact ⟨_, _, _, hc⟩
    · have h5 := hown'.kept hg4 (zyn hown' hv3 (fun cur e => by cases e))
      simpa [quj, qgz, qbg] using h5
    · obtain ⟨a1, a2, a3, arr, ty, p, hc⟩ := HF.out q hq
      refine ⟨a1, fun e => ?_, a3, arr, ty, p, (hsame q hq).trans hc⟩
      have hq2 := (uaa.1 hc).1
      rcases hat3 with h | h
      · exact a2 (h.symm.trans e)
      · rw [h] at e
        simp at e
        omega
  case done =>
    rintro D zs W hD hzs hi hK
    obtain ⟨v, F', r1, r2, r3, r4⟩ := hi.row
    obtain ⟨hc1, hf1⟩ := qp7 r1
    have HR := Lib.hid r3
    have HF := Lib.hid r4
    clear r3 r4 hseq
    gi_wp2
    refine ⟨by simp, .inl ⟨_, _, rfl, ufd hK, ?_⟩⟩
    have hs : ∀ q arr ty p, W.heap[q]? = some (Obj.cells arr ty p) -> (W.putObj D (.deferred none)).heap[q]? = W.heap[q]? := fun q arr ty p hq => ucc (fun e => by subst e; rw [hK] at hq; cases hq)
    have r2' : W.ownsRow w.heap.size 38 qd.size v (zs.map fun x => y x.1.1).length (qgz c zs) := by rw [ude]; exact r2
    have hd := ydw r2' HR.out
    have hcl : ∀ q, (F' q ∨ v.ownBlock = some q) -> (F q ∨ w.heap.size <= q) /\ ∃ arr ty p, W.heap[q]? = some (Obj.cells arr ty p) := fun q hq => by
      rcases hq with hq | hq
      · obtain ⟨a1, _, _, a4⟩ := HF.out q hq
        exact ⟨a1, a4⟩
      · obtain ⟨b1, cur, b2⟩ := qiu r2 hq
        exact ⟨.inr b1, _, _, _, b2⟩
    refine ⟨_, results_tmp rfl _ _ _, v, zs, _, rfl, hzs, ⟨hi.bel.os, hi.bel.tape, hi.bel.output, by simpa [World.putObj] using hi.bel.size, fun k hk => (ucc (by have := hbel.size; omega)).trans (hi.bel.block k hk)⟩, qs.mono (t := .sl qd) (fun _ h => h) (fun q hq => ?_) (fun _ _ _ h => h) hd, fun q hq => ?_⟩
    · obtain ⟨_, arr, ty, p, hc⟩ := hcl q hq
      exact hs q arr ty p hc
    · obtain ⟨a1, arr, ty, p, hc⟩ := hcl q hq
      have := (uaa.1 hc).1
      exact ⟨a1, by simpa [World.putObj] using this⟩
end Go.Proofs.YtgieagiaagoogaaGreat
namespace Go.Proofs.YtgieagiaagoogaaGreat
open Go Go.Ab Go.RowKit Go.Proofs Go.Shelf Go.Maps
attribute [local go_sem] Oper.semAt_some
theorem znh {w W:World} {F:Nat->Prop} {l:List qc.den} {v:Value} (hb:∀ b,F b->b<w.heap.size) (hW:Below w.heap.size w W) (hx:qs w F (.sl qc) l (fun _ u=>u=v)) (hf:l.length<=1000000) :
  Calls Tryz.prog 70 #[v] W fun e w'=>∃ s:SlT,e = .returned (.slice s.1 s.2.1 s.2.2)/\Below W.heap.size W w' /\
   ∃ F',qs w' F' (.sl qc) l (fun _ u=>u = .slice s.1 s.2.1 s.2.2)/\∀ q,F' q->(F q∨W.heap.size<=q)/\∃ arr ty p,w'.heap[q]? = some (.cells arr ty p):=by
 obtain ⟨A,c,rfl,h2,h3,h4⟩:=hx;have hv:zv w F (.sl qc) l (.slice A l.length c):=⟨rfl,⟨fun h=>(by cases h),fun ⟨cs,h⟩=>(by cases h)⟩,A,c,rfl,h2,h3,h4⟩;have hx':zv W F (.sl qc) l (.slice A l.length c):=hv.mono (fun _ h=>h) (fun b h=>hW.block b (hb b h));refine (qlo.2 W F (l,()) [.slice A l.length c] (fun b h=>ubj (hb b h) hW.size) ⟨_,[],rfl,hx',rfl⟩ hf).mono ?_;rintro e w' ⟨u,F',rfl,hbel,h1,h2,h3⟩;have h3':zv w' F' (.sl qc) l u:=h3;have h4':=h3'.only (G:=fun b=>F' b/\∃ arr ty p,w'.heap[b]? = some (.cells arr ty p)) (fun b h hc=>⟨h,hc⟩) rfl;have h5:qz Tryz.prog w' (fun b=>F' b/\∃ arr ty p,w'.heap[b]? = some (.cells arr ty p)) (fun _ _=>True) (qga (.sl qc) l) u:=qbi h4';have h6:qs w' (fun b=>F' b/\∃ arr ty p,w'.heap[b]? = some (.cells arr ty p)) (.sl qc) l (fun _ u'=>u'=u):=h5.2;obtain ⟨A2,c2,e2,h7⟩:=h6;subst e2;exact ⟨(A2,l.length,c2),rfl,hbel,(fun b=>F' b/\∃ arr ty p,w'.heap[b]? = some (.cells arr ty p)),⟨A2,c2,rfl,h7⟩,fun q hq=>⟨(h2 q hq.1).1,hq.2⟩⟩
theorem zrw {w:World} {F:Nat->Prop} {l:List qd.den} {v:Value} (h:qs w F (.sl qd) l (fun _ u=>u=v)) :
  ∃ (A:Option Addr) (cap:Nat) (b off:Nat) (c:Nat->ChC),v = .slice A l.length cap/\(0<l.length->A=some ⟨b,off,none⟩/\F b) /\
   (∀ k j u,k<l.length->(qbg (c k))[j]? = some u->w.cell? ⟨b,off+(k*9+j),none⟩=some u) /\
   ∀ k x,l[k]? = some x->(c k).p 0=x.1/\qs w F (.sl qc) x.2.2.2.2.1 (fun _ u=>u = .slice (c k).A (c k).l (c k).c) /\
    ∀ (s:SlT) (Y:World) (F2:Nat->Prop),qs Y F2 (.sl qc) x.2.2.2.2.1 (fun _ u=>u = .slice s.1 s.2.1 s.2.2)->zv Y F2 qd x (qug ((c k).set s)):=by
 obtain ⟨A,cap,h0,h1,h2,h3⟩:=h;by_cases hp:0<l.length
 ·obtain ⟨ad,hA,hF,hc⟩:=h3 0 l[0] (ua7 hp);have hsp:ad.spot=none:=by
   have hc':w.cell? (ad.add (0*qd.size+0))=some (.int .i64 l[0].1):=hc.1.1;have he:ad.add (0*qd.size+0)=ad:=by simp [Addr.add]
   rw [he] at hc';unfold World.cell? at hc';split at hc'
   ·split at hc'
    ·cases hc'
    ·rename_i hsp;cases hsp2:ad.spot with
     |none=>rfl
     |some _=>rw [hsp2] at hsp; exact absurd rfl hsp
   ·cases hc'
  obtain ⟨b,off,sp⟩:=ad;simp only at hsp;subst hsp;have hall:∀ k,∃ d:ChC,∀ x,l[k]? = some x->(∀ j u,(qbg d)[j]? = some u->w.cell? ⟨b,off+(k*9+j),none⟩=some u)/\d.p 0=x.1/\qs w F (.sl qc) x.2.2.2.2.1 (fun _ u=>u = .slice d.A d.l d.c) /\
    ∀ (s:SlT) (Y:World) (F2:Nat->Prop),qs Y F2 (.sl qc) x.2.2.2.2.1 (fun _ u=>u = .slice s.1 s.2.1 s.2.2)->zv Y F2 qd x (qug (d.set s)):=by
   intro k;cases hk:l[k]? with
   |none=>exact ⟨⟨fun _=>0,none,0,0⟩,fun x hx=>by cases hx⟩
   |some x=>
    obtain ⟨ad',hA',_,hr⟩:=h3 k x hk;rw [hA] at hA';cases hA';obtain ⟨d,hd,hd0⟩:=zv9 hr;refine ⟨d,fun y hy=>?_⟩;cases hy;refine ⟨fun j u hj=>?_,hd0⟩;have:=hd j u hj;rw [show qd.size=9 from rfl] at this;have e:(⟨b,off,none⟩:Addr).add (k*9+j)=⟨b,off+(k*9+j),none⟩:=by unfold Addr.add; split<;>simp_all
    rw [e] at this;exact this
  obtain ⟨c,hcc⟩:=Classical.axiomOfChoice hall;exact ⟨A,cap,b,off,c,h0.symm,fun _=>⟨hA,hF⟩,fun k j u hk hj=>(hcc k l[k] (ua7 hk)).1 j u hj,fun k x hx=>(hcc k x hx).2⟩
 ·refine ⟨A,cap,0,0,fun _=>⟨fun _=>0,none,0,0⟩,h0.symm,fun h=>absurd h hp,fun k j u hk=>absurd hk (by omega),fun k x hx=>?_⟩;have:=(uaj.1 hx).1;omega
def qp1 (day:Int) (l:List qd.den):List qd.den:=l.filter fun x=>decide (x.1<=day)
theorem zwh {c:Nat->ChC} {day:Int} {l:List qd.den} (hc:∀ k x,l[k]? = some x->(c k).p 0=x.1):(qg0 c day l.length).map (fun k=>l.getD k qd.dflt)=qp1 day l:=by
 have hl:l=(List.range l.length).map (fun k=>l.getD k qd.dflt):=by
  apply List.ext_getElem
  ·simp
  ·intro i h1 h2;simp [ua6,ua7 h1]
 unfold qp1 qg0
 conv=>rhs; rw [hl]
 rw [List.filter_map];congr 1;apply List.filter_congr;intro k hk;have hk':k<l.length:=udv.1 hk;have h1:=hc k l[k] (ua7 hk');simp only [Function.comp_apply,ua6,ua7 hk',ucv];rw [h1]
set_option maxRecDepth 100000 in
set_option maxHeartbeats 1000000 in
theorem zr6 (n:Nat) (hn:3<=n) (c:Nat->ChC) (F:Nat->Prop) (y:Nat->qd.den) (len:Nat) (hlen:len<=1000000) (gf:Nat) (lb:Array Value) (eg:∀ args w,(callFunc gf args).run Tryz.prog w = .ok (.enter gf args) w) (w:World) (hF:∀ q,F q->q<w.heap.size) (S:List (Fin len×SlT)->Prop)
  (hseq:∀ w0,Below w.heap.size w w0->zq6 Fence.wide (n-1-1) Tryz.prog gf lb (fun x:Fin len×SlT=>#[qp8 c x]) (qwj c F y) (Below w.heap.size) S len w0) :
  CallsIn Fence.wide n Tryz.prog 135 #[.func (.func gf) #[] lb] w fun e w'=>∃ v xs F',e = .returned v/\S xs/\Below w.heap.size w w' /\
   qs w' F' (.sl qd) (xs.map fun x=>y x.1.1) (fun _ u=>u=v)/\∀ q,F' q->(F q∨w.heap.size<=q)/\q<w'.heap.size:=by
 refine udb Tryz.func135 rfl trivial ?_ rfl;simp only [Tryz.ntmps135,ub5,uaf,ub9,Nat.reduceAdd,Nat.reduceSub,ubv,ubw,ubx,uby,uav,uaz]
 gi_wp2
 refine ⟨trivial,fun _=>by omega,?_⟩;refine (zvx (n-1) (by omega) c F y len hlen gf lb eg w hF S hseq).mono ?_;rintro e w' ⟨v,xs,F',rfl,hS,hb,hr,hq⟩
 gi_wp2
 go_ret
 exact ⟨v,xs,F',rfl,hS,hb,hr,hq⟩
theorem zz5 (n:Nat) (hn:1<=n) {w:World} {F:Nat->Prop} (hF:∀ q,F q->q<w.heap.size) {l:List qd.den} {v:Value} {day:Int} {Bh oh Bd od:Nat} (hBh:Bh<w.heap.size) (hBd:Bd<w.heap.size) (hv:w.cell? ⟨Bh,oh+9,none⟩=some v) (hday:w.cell? ⟨Bd,od,none⟩=some (.int .i64 day)) (hl:l.length<=1000000) (hfew:∀ x∈l,x.2.2.2.2.1.length<=1000000)
  {A:Option Addr} {cap b off:Nat} {c:Nat->ChC} (e0:v = .slice A l.length cap) (hA:0<l.length->A=some ⟨b,off,none⟩/\F b) (hc:∀ k j u,k<l.length->(qbg (c k))[j]? = some u->w.cell? ⟨b,off+(k*9+j),none⟩=some u)
  (hx:∀ k x,l[k]? = some x->(c k).p 0=x.1/\qs w F (.sl qc) x.2.2.2.2.1 (fun _ u=>u = .slice (c k).A (c k).l (c k).c) /\
    ∀ (s:SlT) (Y:World) (F2:Nat->Prop),qs Y F2 (.sl qc) x.2.2.2.2.1 (fun _ u=>u = .slice s.1 s.2.1 s.2.2)->zv Y F2 qd x (qug ((c k).set s)))
  (w0:World) (hw0:Below w.heap.size w w0) :
  zq6 Fence.wide n Tryz.prog 177 #[.pointer (some ⟨Bh,oh,none⟩),.pointer (some ⟨Bd,od,none⟩)] (fun x:Fin l.length×SlT=>#[qp8 c x]) (qwj c F fun k=>l.getD k qd.dflt) (Below w.heap.size) (fun xs=>xs.map (fun x=>x.1.1)=qg0 c day l.length) l.length w0:=by
 intro lp J W hW hJ hY h0;have hwW:Below w.heap.size w W:=hw0.trans (hW.mono hw0.size);refine yfq n hn lp Bh oh Bd od w.heap.size b off l.length cap day c hl A (fun h=>⟨(hA h).1,hF b (hA h).2⟩) (qwj c F fun k=>l.getD k qd.dflt) J (fun pre X Y hj hb=>qk0 hJ hj hb) W hwW.size ?_ ?_
  ((ucf (hwW.block Bh hBh)).trans (hv.trans (by rw [e0]))) ((ucf (hwW.block Bd hBd)).trans hday) (fun k j u hk hj=>(ucf (hwW.block b (hF _ (hA (by omega)).2))).trans (hc k j u hk hj)) h0
 ·intro k X hX;have hk:l[k.1]? = some l[k.1]:=ua7 k.2;obtain ⟨_,hr,hset⟩:=hx k.1 _ hk;refine (znh hF (hwW.trans hX.1) hr (hfew _ (uer k.2))).mono ?_;rintro e w' ⟨s,rfl,hb,F',hr2,hq⟩;refine ⟨s,rfl,hb,fun Bx X0 Y h1 h2 h3 h4=>⟨F',?_,fun q hq'=>?_⟩⟩
  ·have hg:(l.getD k.1 qd.dflt)=l[k.1]:=by rw [ua6,hk]; rfl
   show zv Y F' qd (l.getD k.1 qd.dflt) (qp8 c (k,s));rw [hg];refine hset s Y F' (qs.mono (t:=.sl qc) (fun _ h=>h) (fun q hq'=>h4 q fun e=>?_) (fun _ _ _ h=>h) hr2);rcases (hq q hq').1 with h|h
   ·have:=hF q h;omega
   ·omega
  ·obtain ⟨a1,arr,ty,p,hcc⟩:=hq q hq';refine ⟨a1.elim .inl fun h=>.inr (ual h3 h),arr,ty,p,(h4 q fun e=>?_).trans hcc⟩;rcases a1 with h|h
   ·have:=hF q h;omega
   ·omega
 ·intro pre x X0 X hj hb hE hlt;obtain ⟨fn,tmps,assign,body,hy,hR⟩:=hY pre x X0 X hj hb hE hlt;refine ⟨fn,tmps,assign,body,hy,hR.mono ?_⟩;rintro e W' ⟨rfl,hj2,hb2⟩;exact ⟨rfl,hj2,hb2,hb2.block _ hBh,hb2.block _ hBd⟩
theorem zf7 {w:World} {F:Nat->Prop} (hF:∀ q,F q->q<w.heap.size) {l:List qd.den} {v:Value} {day:Int} {Bh Bd:Nat} (hBh:Bh<w.heap.size) (hBd:Bd<w.heap.size) (hv:w.cell? ⟨Bh,9,none⟩=some v) (hr:qs w F (.sl qd) l (fun _ u=>u=v)) (hday:w.cell? ⟨Bd,0,none⟩=some (.int .i64 day))
  (hl:l.length<=1000000) (hfew:∀ x∈l,x.2.2.2.2.1.length<=1000000) :
  Calls Tryz.prog 135 #[.func (.func 177) #[] #[.pointer (some ⟨Bh,0,none⟩),.pointer (some ⟨Bd,0,none⟩)]] w fun e w'=>∃ u F',e = .returned u/\Below w.heap.size w w' /\
   qs w' F' (.sl qd) (qp1 day l) (fun _ u'=>u'=u)/\∀ q,F' q->(F q∨w.heap.size<=q)/\q<w'.heap.size:=by
 obtain ⟨A,cap,b,off,c,e0,hA,hc,hx⟩:=zrw hr;refine (ucb.1 (zr6 4 (by omega) c F (fun k=>l.getD k qd.dflt) l.length hl 177 _ (ubz Tryz.func177 (by kernel_rfl) rfl) w hF (fun xs=>xs.map (fun x=>x.1.1)=qg0 c day l.length)
  (fun w0 hw0=>zz5 2 (by omega) hF hBh hBd (oh:=0) hv hday hl hfew e0 hA hc hx w0 hw0))).mono ?_
 rintro e w' ⟨u,xs,F',rfl,hS,hb,hr2,hq⟩;refine ⟨u,F',rfl,hb,?_,hq⟩;have:(xs.map fun x=>l.getD x.1.1 qd.dflt)=qp1 day l:=by
  rw [← zwh (c:=c) fun k x h=>(hx k x h).1,← hS,List.map_map];rfl
 rw [← this];exact hr2
end Go.Proofs.YtgieagiaagoogaaGreat
namespace Go.Proofs.YtgieagiaagoogaaGreat
open Go Go.Ab Go.RowKit Go.Proofs
def zw5 (l:List qd.den):Prop:=l.length<=1000000/\∀ x∈l,x.2.2.2.2.1.length<=1000000
def ybm (_:Nat) (g:FuncId) (args:List AV) (s:St):Option Tr:=
 if g=135 then match args with
  |[.c (.fn f [.ptr i 0,.ptr k 0])]=>match s.mem i,s.mem k with
   |some (.box _ [_,_,_,_,_,_,_,_,_,.sl t l]),some (.box _ [.int .i64 day])=>
    if h:t=qd then if f=177 then some (needL [zw5 (kw h l)] (.leaf (.val (.c (.sl qd (qp1 day (kw h l))))) s)) else none else none
   |_,_=>none
  |_=>none
 else none
theorem yic:qhy Tryz.prog ybm:=by
 intro d g args s t ht;unfold ybm at ht;split at ht<;>try trivial
 rename_i hg;subst hg;split at ht<;>try trivial
 rename_i f i k;split at ht<;>try trivial
 rename_i ty1 c0 c1 c2 c3 c4 c5 c6 c7 c8 t l ty2 day hm1 hm2;split at ht<;>try trivial
 rename_i h;subst h;split at ht<;>try trivial
 rename_i hf;subst hf;cases ht;refine ⟨ubz Tryz.func135 (by kernel_rfl) rfl,fun E a w F γ vs Q hi hr hq=>?_⟩;obtain ⟨⟨hf1,hf2⟩,hqv⟩:=hq
 match vs,hr with
 |[v1],⟨⟨_,hv1⟩,_⟩=>
  obtain ⟨arr,rfl,hsz,hcaps⟩:=hv1;obtain ⟨⟨u0,hu0,_,b1,hR1,rfl⟩,⟨u1,hu1,_,b2,hR2,rfl⟩,_⟩:=hcaps;have g1 : .pointer (some ⟨b1,0,none⟩)=γ i:=by
   have:=hR1;unfold qp at this;rw [hm1] at this;exact this
  have g2 : .pointer (some ⟨b2,0,none⟩)=γ k:=by
   have:=hR2;unfold qp at this;rw [hm2] at this;exact this
  have ha:arr = #[.pointer (some ⟨b1,0,none⟩),.pointer (some ⟨b2,0,none⟩)]:=by
   apply ud8
   ·exact hsz
   ·intro i h1 h2;have hu1':arr[1]? = some (.pointer (some ⟨b2,0,none⟩)):=hu1
    match i,h2 with
    |0,_=>
     rw [ubg h1] at hu0;exact udw hu0
    |1,_=>
     rw [ubg h1] at hu1';exact udw hu1'
  subst ha;obtain ⟨d1,ar1,e1,hb1,_,_,hs1,hcl⟩:=hi.mem.ob i _ hm1;obtain ⟨d2,ar2,e2,hb2,_,_,hs2,hcl2⟩:=hi.mem.ob k _ hm2;rw [← g1] at e1;rw [← g2] at e2;cases e1;cases e2;obtain ⟨_,_,_,_,_,_,_,_,_,⟨x9,hx9,_,hr9⟩,_⟩:=hcl;obtain ⟨⟨y0,hy0,_,hd0⟩,_⟩:=hcl2;have hday:y0 = .int .i64 day:=hd0.1;subst hday;refine (zf7 (kj hi) (uaa.1 hb1).1 (uaa.1 hb2).1 ((qh hb1 9).trans hx9) hr9 ((qh hb2 0).trans hy0) hf1 hf2).mono fun e w2 hp=>?_;obtain ⟨u,F2,rfl,hb,hr2,hq2⟩:=hp;have hBs:=Step.size' hi;obtain ⟨s1,m1⟩:=Step.below hi.mem hBs (kj hi) (F':=fun q=>F q∨F2 q) hb (fun _ h=>.inl h) (fun b hb'=>hb'.elim (fun h=>⟨.inl h,ubj (kj hi b h) hb.size⟩) (fun h=>hq2 b h));have hinv:InvG Tryz.prog E s a w2 [] (fun q=>F q∨F2 q) γ:=by
   refine ⟨hi.n,hi.df,?_,m1,fun t=>(hi.sl t).mono s1.hF s1.hw s1.hR,hi.hg,fun t=>s1.repA (hi.gh t)⟩;obtain ⟨γ0,h0⟩:=hi.step;exact ⟨γ0,h0.trans s1⟩
  have hr3:qs w2 (fun q=>F q∨F2 q) (.sl qd) (qp1 day (kw rfl l)) (fun _ u'=>u'=u):=qs.mono (t:=.sl qd) (fun _ h=>Or.inr h) (fun _ _=>rfl) (fun _ _ _ h=>h) hr2;refine ⟨_,_,_,γ,hqv,hinv,u,rfl,?_,hr3⟩;obtain ⟨A,c,e1,_⟩:=hr2;rw [← e1];rfl
noncomputable def XiK:FuncId->Option (Func×(Nat->St->Option Tr)):=qam [(136,(Tryz.f136,qq))]
theorem ymm:∀ f fn Λ,XiK f=some (fn,Λ)->Tryz.prog.funcs[f]? = some fn/\∀ c E',fn.body=some c->jw Tryz.prog E' Λ c 0:=fun f fn Λ h=>by
 simp only [XiK,qam] at h;split at h
 ·rename_i hf;subst hf;cases h;exact ⟨by kernel_rfl,fun c E' _=>qe c 0⟩
 ·cases h
noncomputable def ylx:Cx:=cx [] []
theorem yhb:CxOK Tryz.prog ylx:=zc (cs:=[]) (ps:=[]) qv trivial trivial
noncomputable def CKn:Cx:=cxK [(70,qeh qc)] [] (orK (qql Tryz.prog ylx XiK) ybm)
theorem yly:CxOK Tryz.prog CKn:=qc4 (ps:=[]) qv ⟨qlo,trivial⟩ trivial (zlr (qis yhb ymm) yic)
def zyd:qm.den:=(0,0,((0,0,()),(0,0,0,0,()),[],()),[],())
def atH (h:qm.den) (d:Int):qm.den×Int:=if d<h.2.1 then (zyd,7) else ((h.1,h.2.1,h.2.2.1,qp1 d h.2.2.2.1,()),0)
def qyl:Ct:=⟨[.d qm,.d i64],[qm,i64],fun x=>((atH x.1 x.2.1).1,(atH x.1 x.2.1).2,()),fun x=>[jj x.1]⟩
def zam (x:qn [.d qm,.d i64]):Fr (qi [qm,i64]):=
 let h:qm.den:=x.1; let d:Int:=x.2.1
 Fr.br (decide (h.2.1>d)) (Fr.val (zyd,7,()))
  (Fr.need (List.length (α:=qc.den) h.2.2.1.2.2.1<=1000000)
   (Fr.need (zw5 h.2.2.2.1)
    (Fr.val ((h.1,h.2.1,((h.2.2.1.1.1,h.2.2.1.1.2.1,()),(h.2.2.1.2.1.1,h.2.2.1.2.1.2.1,h.2.2.1.2.1.2.2.1,h.2.2.1.2.1.2.2.2.1,()),((qeh qc).f (h.2.2.1.2.2.1,())).1,()),qp1 d h.2.2.2.1,()),0,()))))
theorem yji:qa Tryz.prog 92 ⟨[.d qm,.d i64],[qm,i64],fun xs=>(zam xs).get,fun xs=>[(zam xs).ok]⟩:=
 qg yly (Λ:=qq) (fn:=Tryz.f92) (fr:=zam) (ps:=[.d qm,.d i64]) (rs:=[qm,i64]) (qm.dflt,0,()) (by kernel_rfl) (fun c E _=>qe c 0) (fun x=>by kernel_rfl)
theorem yn6 (h:qm.den) (d:Int) (hf:jj h):(zam (h,d,())).ok/\(zam (h,d,())).get=((atH h d).1,(atH h d).2,()):=by
 unfold atH;by_cases h1:d<h.2.1
 ·rw [if_pos h1];exact Fr.br_t (by simpa using h1) ⟨trivial,rfl⟩
 ·rw [if_neg h1];exact Fr.br_f (by simpa using h1) (Fr.need_ hf.2.1 (Fr.need_ ⟨ual hf.1 (by decide),hf.2.2⟩ ⟨trivial,rfl⟩))
theorem yn7:qa Tryz.prog 92 qyl:=
 wa yji _ _ (fun w F x vs hr hok=>by
  obtain ⟨h,d,_⟩:=x;exact yn6 h d hok)
theorem yhz {h:qm.den} (hf:jj h) (d:Int):jj (atH h d).1:=by
 unfold atH;split
 ·exact ⟨by decide,by decide,fun c hc=>by cases hc⟩
 ·refine ⟨ual (List.length_filter_le _ _) hf.1,hf.2.1,fun c hc=>hf.2.2 c (List.mem_filter.1 hc).1⟩
def qcl (h:qm.den) (t:ze.den) (d:Int):List ql.den×Int:=if (atH h d).2=0 then ofF (atH h d).1 t else ([],(atH h d).2)
def qub:Ct:=⟨[.d qm,.d ze,.d i64],[qag,i64],fun x=>((qcl x.1 x.2.1 x.2.2.1).1,(qcl x.1 x.2.1 x.2.2.1).2,()),fun x=>[jj x.1,wn x.2.1]⟩
noncomputable def CKs:Cx:=cx [(92,qyl),(46,cOf)] []
theorem yl0:CxOK Tryz.prog CKs:=zc (ps:=[]) qv ⟨yn7,ztw,trivial⟩ trivial
noncomputable def CK2:Cx:=cx [] []
theorem zhz:CxOK Tryz.prog CK2:=zc (cs:=[]) (ps:=[]) qv trivial trivial
abbrev pFi:Pt:=⟨21,0,⟨[(10,.d i64),(9,.d i64),(8,.d (.sl qc)),(1,.d i64)],[.x 4 86 qc,.r 4 4 0]⟩,⟨[],[.x 4 86 qc,.r 4 4 0]⟩,⟨[(5,.d .bool)],[.x 4 86 qc,.r 4 4 0]⟩⟩
def fFi (z:pFi.M.X):Fr pFi.Out:=
 let i:Int:=z.1.1; let n:Int:=z.1.2.1; let l:List qc.den:=z.1.2.2.1; let p:Int:=z.1.2.2.2.1; let o:qc.den:=z.2.1
 let e:qc.den:=l.getD i.toNat qc.dflt
 Fr.br (decide (i<n))
  (Fr.need (0<=i/\i<(l.length:Int)) (Fr.br (e.1==p) (Fr.val (Rd.back ((true,()),(e,())))) (Fr.val (Rd.next ((IntKind.i64.wrap (i+1),n,l,p,()),(o,()))))))
  (Fr.val (Rd.out ((),(o,()))))
theorem yrr:qf Tryz.prog (qo Tryz.f58 0) pFi.M pFi fFi:=qf.of_run zhz (bs:=0) rfl rfl rfl (fun _=>qe _ 0) (fun x=>by kernel_rfl)
def qdp:qc.den:=(0,0,0,0,0,())
def qae (p:Int):List qc.den->qc.den×Bool
 |[]=>(qdp,false)
 |c::l=>if c.1=p then (c,true) else qae p l
theorem zai {p:Int}:{l:List qc.den}->(qae p l).2=false->(qae p l).1=qdp
 |[],_=>rfl
 |c::l,h=>by
  unfold qae at h ⊢;split at h
  ·cases h
  ·rename_i hn;rw [if_neg hn];exact zai h
structure InFi (i n:Int) (l:List qc.den):Prop where
 i0:0<=i
 il:i<=n
 nl:n=l.length
 big:n<=9223372036854775807
def zt7 (o:qc.den) (r:qc.den×Bool):Fr pFi.Out:=Fr.br r.2 (Fr.val (Rd.back ((true,()),(r.1,())))) (Fr.val (Rd.out ((),(o,()))))
def FFi (z:pFi.M.X):Fr pFi.Out:=Fr.need (InFi z.1.1 z.1.2.1 z.1.2.2.1) (zt7 z.2.1 (qae z.1.2.2.2.1 (z.1.2.2.1.drop z.1.1.toNat)))
theorem yq1 (i n:Int) (l:List qc.den) (p:Int) (o:qc.den) (hinv:InFi i n l) (Q:pFi.Out->Prop) (hq:(zt7 o (qae p (l.drop i.toNat))).satP Q) :
  (fFi ((i,n,l,p,()),(o,()))).satP fun
   |.next x'=>InFi x'.1.1 x'.1.2.1 x'.1.2.2.1/\((x'.1.2.1:Int)-x'.1.1).toNat<(n-i).toNat/\(FFi x').satP Q
   |.out y=>Q (.out y)
   |.back z=>Q (.back z)
   |.pan p=>Q (.pan p):=by
 obtain ⟨h1,h2,rfl,h4⟩:=hinv;refine ⟨fun hi=>?_,fun hi=>?_⟩
 ·have hi':i<(l.length:Int):=ua5 hi;obtain ⟨k,rfl⟩:∃ n:Nat,i=n:=⟨i.toNat,by omega⟩;have hl:k<l.length:=by omega
  have hk:(k:Int).toNat=k:=by omega
  have hk1:((k:Int)+1).toNat=k+1:=by omega
  rw [hk] at hq;have hw:IntKind.i64.wrap ((k:Int)+1)=k+1:=uag _ (by omega);have g1:l.getD (k:Int).toNat qc.dflt=l[k]:=by
   rw [hk,ua6,ua7 hl]; rfl
  rw [List.drop_eq_getElem_cons hl] at hq;dsimp only [fFi,Fr.satP];rw [g1,hw];refine ⟨⟨by omega,by omega⟩,fun hb=>?_,fun hb=>?_⟩
  ·have hb':l[k].1=p:=ubu.1 hb;have e:qae p (l[k]::l.drop (k+1))=(l[k],true):=if_pos hb';rw [e] at hq;exact hq.1 rfl
  ·have hb':¬ l[k].1=p:=ucu.1 hb;have e:qae p (l[k]::l.drop (k+1))=qae p (l.drop (k+1)):=if_neg hb';rw [e] at hq;have hI:InFi ((k:Int)+1) (l.length:Int) l:=⟨by omega,by omega,rfl,h4⟩;refine ⟨hI,by show ((l.length:Int)-((k:Int)+1)).toNat<((l.length:Int)-(k:Int)).toNat; omega,hI,?_⟩;show (zt7 o (qae p (l.drop ((k:Int)+1).toNat))).satP Q;rw [hk1];exact hq
 ·have hi':¬ i<(l.length:Int):=uac hi;have:l.drop i.toNat=[]:=uc5 (by omega);rw [this] at hq;exact hq.2 rfl
theorem yoq:qf Tryz.prog (.loop (qo Tryz.f58 0)) pFi.M pFi FFi:=by
 refine qf.loop (n:=21) (id:=0) yrr (inv:=fun x=>InFi x.1.1 x.1.2.1 x.1.2.2.1) (μ:=fun x=>((x.1.2.1:Int)-x.1.1).toNat) ?_ (fun x Q h=>h.1);rintro ⟨⟨i,n,l,p,_⟩,o,_⟩ hinv Q hq;exact yq1 i n l p o hinv Q hq.2
def zg5:Ct:=⟨[.d (.sl qc),.d i64],[qc,.bool],fun x=>((qae x.2.1 x.1).1,(qae x.2.1 x.1).2,()),fun _=>[]⟩
def ysq (x:qn [.d (.sl qc),.d i64]):Fr (qi [qc,.bool]):=
 let l:List qc.den:=x.1; let p:Int:=x.2.1
 Fr.need (InFi 0 l.length l) (Fr.br (qae p (l.drop (0:Int).toNat)).2 (Fr.val ((qae p (l.drop (0:Int).toNat)).1,true,())) (Fr.val (qdp,false,())))
theorem yiw:qa Tryz.prog 58 zg5:=
 wa (qg zhz (Λ:=fun _=>pFi.han CK2.Γ pFi.M FFi) (fn:=Tryz.f58) (fr:=ysq) (ps:=[.d (.sl qc),.d i64]) (rs:=[qc,.bool]) ([],0,()) (by kernel_rfl)
  (fun c E hc=>jb hc (by kernel_rfl) (b:=qo Tryz.f58 0) (by kernel_rfl) (qf.han zhz rfl yoq)) (fun x=>by kernel_rfl)) _ _
  (fun w F x vs hr _=>by
   obtain ⟨l,p,_⟩:=x;obtain ⟨v1,vs1,rfl,h1,_⟩:=hr;have hlen:(l.length:Int)<=9223372036854775807:=qcn h1;have hI:InFi 0 (l.length:Int) l:=⟨ua4 _,uak _,rfl,hlen⟩;refine Fr.need_ hI ?_;show (Fr.br (qae p l).2 (Fr.val ((qae p l).1,true,())) (Fr.val (qdp,false,())):Fr (qi [qc,.bool])).ok/\(Fr.br (qae p l).2 (Fr.val ((qae p l).1,true,())) (Fr.val (qdp,false,())):Fr (qi [qc,.bool])).get=((qae p l).1,(qae p l).2,());cases hf:(qae p l).2 with
   |true=>exact Fr.br_t rfl ⟨trivial,rfl⟩
   |false=>
    rw [zai hf];exact Fr.br_f rfl ⟨trivial,rfl⟩)
def qq8:Pc:=⟨[.d .bool,.d i64],[],fun _=>(),fun x=>!x.1,fun x=>⟨117+1000000,.i64,x.2.1⟩,fun _=>[]⟩
set_option maxRecDepth 100000 in
theorem zz2:qdl Tryz.prog 54 qq8:=by
 refine ⟨enters (fn:=Tryz.f54) (by kernel_rfl) rfl rfl,fun w F xs vs hb hr _=>?_⟩;obtain ⟨v,vs',rfl,hv,v2,vs'',rfl,hv2,hn⟩:=hr;cases hn;obtain ⟨s,n,_⟩:=xs;have hv':v = .bool s:=by
  have h:qz Tryz.prog w F (fun _ _=>True) (qga .bool s) v:=qbi hv;exact h.2
 have hv2':v2 = .int .i64 n:=by
  have h:qz Tryz.prog w F (fun _ _=>True) (qga i64 n) v2:=qbi hv2;exact h.2.1
 subst hv';subst hv2';cases s
 ·go_enter Tryz.func54,Tryz.ntmps54
  go_wp2
  refine ⟨rfl,.inr ⟨rfl,?_,uat _ _⟩⟩;show Ending.panicked _=Ending.panicked [{ v:=PV.val ⟨117+1000000,.i64,n⟩,recovered:=false }];rw [PV.val_high (p:=⟨117+1000000,.i64,n⟩) (T:=117) rfl]
 ·go_enter Tryz.func54,Tryz.ntmps54
  go_wp2
  go_end0
  refine .inl ⟨rfl,.tuple #[],F,rfl,uat _ _,fun _ h=>h,fun b h=>⟨.inl h,hb b h⟩,#[],rfl,rfl⟩
theorem zxc {w:World} {b1 b2:Nat} {t1 t2:TypeId} {a0 a1 a2 a3 a4 c v0 v1 v2 v3 v4 u:Value} (hne:b1≠b2) (h1:w.heap[b1]? = some (.cells #[a0,a1,a2,a3,a4] t1 (0,0))) (h2:w.heap[b2]? = some (.cells #[c] t2 (0,0))) :
  zgs (((((((w.setCell ⟨b1,0,none⟩ v0).setCell ⟨b1,1,none⟩ v1).setCell ⟨b1,2,none⟩ v2).setCell ⟨b1,3,none⟩ v3).setCell ⟨b1,4,none⟩ v4).setCell ⟨b2,0,none⟩ u).drew) ((w.setRow b1 #[v0,v1,v2,v3,v4]).setRow b2 #[u]):=by
 have d1:∀ X:World,X.drew.os=X.os/\X.drew.tape=X.tape/\X.drew.output=X.output/\X.drew.heap=X.heap:=fun _=>⟨rfl,rfl,rfl,rfl⟩;have d2:∀ (X:World) (a:Addr) (v:Value),(X.setCell a v).os=X.os/\(X.setCell a v).tape=X.tape/\(X.setCell a v).output=X.output:=fun _ _ _=>⟨rfl,rfl,rfl⟩;have d3:∀ (X:World) (b:Nat) (v:Array Value),(X.setRow b v).os=X.os/\(X.setRow b v).tape=X.tape/\(X.setRow b v).output=X.output:=fun _ _ _=>⟨rfl,rfl,rfl⟩;unfold zgs;simp only [(d1 _).1,(d1 _).2.1,(d1 _).2.2.1,(d1 _).2.2.2,(d2 _ _ _).1,(d2 _ _ _).2.1,(d2 _ _ _).2.2,(d3 _ _ _).1,(d3 _ _ _).2.1,(d3 _ _ _).2.2,and_self,and_true];have g0:=heap_setCell_same w b1 0 _ t1 v0 h1;rw [show (#[a0,a1,a2,a3,a4]:Array Value).setIfInBounds 0 v0 = #[v0,a1,a2,a3,a4] from rfl] at g0;have g1:=heap_setCell_same _ b1 1 _ t1 v1 g0;rw [show (#[v0,a1,a2,a3,a4]:Array Value).setIfInBounds 1 v1 = #[v0,v1,a2,a3,a4] from rfl] at g1;have g2:=heap_setCell_same _ b1 2 _ t1 v2 g1;rw [show (#[v0,v1,a2,a3,a4]:Array Value).setIfInBounds 2 v2 = #[v0,v1,v2,a3,a4] from rfl] at g2;have g3:=heap_setCell_same _ b1 3 _ t1 v3 g2;rw [show (#[v0,v1,v2,a3,a4]:Array Value).setIfInBounds 3 v3 = #[v0,v1,v2,v3,a4] from rfl] at g3;have g4:=heap_setCell_same _ b1 4 _ t1 v4 g3;rw [show (#[v0,v1,v2,v3,a4]:Array Value).setIfInBounds 4 v4 = #[v0,v1,v2,v3,v4] from rfl] at g4;have oo:∀ i,i≠b1->(((((w.setCell ⟨b1,0,none⟩ v0).setCell ⟨b1,1,none⟩ v1).setCell ⟨b1,2,none⟩ v2).setCell ⟨b1,3,none⟩ v3).setCell ⟨b1,4,none⟩ v4).heap[i]? = w.heap[i]? := fun i hi=>
  (uch _ _ i _ hi).trans ((uch _ _ i _ hi).trans ((uch _ _ i _ hi).trans ((uch _ _ i _ hi).trans (uch _ _ i _ hi))))
 generalize ((((w.setCell ⟨b1,0,none⟩ v0).setCell ⟨b1,1,none⟩ v1).setCell ⟨b1,2,none⟩ v2).setCell ⟨b1,3,none⟩ v3).setCell ⟨b1,4,none⟩ v4=X at g4 oo;have k2:=uco X b2 0 _ t2 u ((oo b2 (Ne.symm hne)).trans h2);have r1:=uba w b1 _ #[v0,v1,v2,v3,v4] t1 (0,0) h1;have r2:=uba (w.setRow b1 #[v0,v1,v2,v3,v4]) b2 _ #[u] t2 (0,0) ((uaw w b1 b2 _ (Ne.symm hne)).trans h2);apply Array.ext_getElem?;intro i;by_cases i1:i=b1
 ·subst i1;exact ((uch _ _ i _ hne).trans g4).trans ((uaw _ b2 i _ hne).trans r1).symm
 ·by_cases i2:i=b2
  ·subst i2;exact k2.trans r2.symm
  ·exact ((uch _ _ i _ i2).trans (oo i i1)).trans ((uaw _ b2 i _ i2).trans (uaw _ b1 i _ i1)).symm
set_option maxRecDepth 100000 in
set_option maxHeartbeats 2000000 in
theorem zva:ToldTwo Tryz.prog 53 117 .i64 5:=by
 refine ⟨enters (fn:=Tryz.f53) (by kernel_rfl) rfl rfl,fun p q w=>?_,fun b1 b2 t1 t2 o1 o2 n w hne h1 hs1 h2 hs2=>?_⟩
 ·refine ufe Tryz.func53 rfl fun c₀ cs hu=>?_;simp only [Tryz.ntmps53,ub5,uaf,ub9,Nat.reduceAdd,Nat.reduceSub,ubv,ubw,ubx,uby,uav,uaz];apply wpS_seq;apply uff;simp [wpOpsS,go_sem,recoverD,hu,Exit.thenS];refine wpS_of_wp ?_
  go_wp2
  cases c₀
  simp_all [bodyPostS,results,Tryz.results53]
 ·have hta:∀ w,(Instr.typeAssert (.iface 117 (.agg #[.int .i64 n])) 20 117 false).run Tryz.prog w = .ok (.agg #[.int .i64 n]) w:=fun _=>by kernel_rfl
  have hfd:∀ w,(Instr.field 117 (.agg #[.int .i64 n]) 0).run Tryz.prog w = .ok (.int .i64 n) w:=fun _=>by kernel_rfl
  obtain ⟨a0,a1,a2,a3,a4,rfl⟩:∃ a0 a1 a2 a3 a4,o1 = #[a0,a1,a2,a3,a4]:=⟨o1[0],o1[1],o1[2],o1[3],o1[4],by
   apply ud8
   ·exact hs1
   ·intro i h1 h2
    match i,h2 with
    |0,_|1,_|2,_|3,_|4,_=>rfl⟩
  obtain ⟨c0,rfl⟩:=qqp hs2;have x0:=qh h1 0;have x1:=qh h1 1;have x2:=qh h1 2;have x3:=qh h1 3;have x4:=qh h1 4;have y0:=qh h2 0;simp at x0 x1 x2 x3 x4 y0;have f1:∀ j,w.frozen? ⟨b1,j,none⟩=false:=fun j=>by simp [World.frozen?,h1]
  have f2:w.frozen? ⟨b2,0,none⟩=false:=by simp [World.frozen?,h2]
  refine ufe Tryz.func53 rfl fun c₀ cs hu=>?_;simp only [Tryz.ntmps53,ub5,uaf,ub9,Nat.reduceAdd,Nat.reduceSub,ubv,ubw,ubx,uby,uav,uaz];apply wpS_seq;apply uff;simp [wpOpsS,go_sem,recoverD,hu,Exit.thenS];refine wpS_of_wp ?_
  go_wp2
  go_region
  go_wp2
  simp [bodyPostS,results,Tryz.results53];exact zxc hne h1 h2
def zan (x:qn [.d qm,.d ze,.d i64]):Fr (qi [qag,i64]):=
 let h:qm.den:=x.1; let t:ze.den:=x.2.1; let d:Int:=x.2.2.1
 Fr.need (jj h) (Fr.br ((qyl.f (h,d,())).2.1 != 0) (Fr.val ([],(qyl.f (h,d,())).2.1,()))
  (Fr.need (jj (qyl.f (h,d,())).1) (Fr.need (wn t) (Fr.val ((cOf.f ((qyl.f (h,d,())).1,t,())).1,(cOf.f ((qyl.f (h,d,())).1,t,())).2.1,())))))
theorem yjj:qa Tryz.prog 56 ⟨[.d qm,.d ze,.d i64],[qag,i64],fun xs=>(zan xs).get,fun xs=>[(zan xs).ok]⟩:=
 qg yl0 (Λ:=qq) (fn:=Tryz.f56) (fr:=zan) (ps:=[.d qm,.d ze,.d i64]) (rs:=[qag,i64]) (qm.dflt,ze.dflt,0,()) (by kernel_rfl) (fun c E _=>qe c 0) (fun x=>by kernel_rfl)
theorem yn8 (h:qm.den) (t:ze.den) (d:Int) (hf:jj h) (ht:wn t):(zan (h,t,d,())).ok/\(zan (h,t,d,())).get=((qcl h t d).1,(qcl h t d).2,()):=by
 refine Fr.need_ hf ?_;unfold qcl;by_cases h1:(atH h d).2=0
 ·rw [if_pos h1];exact Fr.br_f (by show ((atH h d).2 != 0)=false; simp [h1]) (Fr.need_ (yhz hf d) (Fr.need_ ht ⟨trivial,rfl⟩))
 ·rw [if_neg h1];exact Fr.br_t (by show ((atH h d).2 != 0)=true; simp [h1]) ⟨trivial,rfl⟩
theorem yn9:qa Tryz.prog 56 qub:=
 wa yjj _ _ (fun w F x vs hr hok=>by
  obtain ⟨h,t,d,_⟩:=x;exact yn8 h t d hok.1 hok.2)
def Er (e:Int):Prop:=0<=e/\e<=20
theorem er0:Er 0:=⟨by decide,by decide⟩
theorem er1:Er 1:=⟨by decide,by decide⟩
theorem er5:Er 5:=⟨by decide,by decide⟩
theorem er6:Er 6:=⟨by decide,by decide⟩
theorem er7:Er 7:=⟨by decide,by decide⟩
theorem yb3 (a b c:Int):Er (ka a b c).2:=by
 unfold ka;split
 ·first|exact er0|exact er1|exact er5|exact er6|exact er7
 ·split
  ·first|exact er0|exact er1|exact er5|exact er6|exact er7
  ·split<;>first|exact er0|exact er1|exact er5|exact er6|exact er7
theorem zo9:(l:List Int)->(m:Int)->Er (qce l m).2
 |[],_=>er0
 |b::r,m=>by
  unfold qce;split
  ·exact zo9 r _
  ·exact yb3 _ _ _
theorem yka (v:qw.den) (r:jp.den) (c:qc.den):Er (qbj v r c).2:=by
 unfold qbj;split
 ·split
  ·first|exact er0|exact er1|exact er5|exact er6|exact er7
  ·split
   ·first|exact er0|exact er1|exact er5|exact er6|exact er7
   ·exact zo9 _ _
 ·first|exact er0|exact er1|exact er5|exact er6|exact er7
theorem qxl (v:qw.den) (r:jp.den):(l:List qc.den)->(q:Int)->(b:Bool)->Er (xr v r l q b).2.2
 |[],_,_=>er0
 |c::l,q,b=>by
  unfold xr;split
  ·split
   ·split
    ·exact qxl v r l _ _
    ·exact qxl v r l _ _
   ·exact qxl v r l _ _
  ·exact yka _ _ _
theorem yfw (v:qw.den) (r:jp.den) (l:List qc.den):Er (qp3 v r l).2:=by
 unfold qp3;split
 ·split<;>first|exact er0|exact er1|exact er5|exact er6|exact er7
 ·exact qxl _ _ _ _ _
theorem zcv (v:qw.den):(l:List ql.den)->Er (qan v l)
 |[]=>er0
 |s::l=>by
  unfold qan;split
  ·split
   ·exact zcv v l
   ·exact yfw _ _ _
  ·exact zcv v l
theorem zm7 (d:Int):(l:List qw.den)->Er (yo d l).2
 |[]=>er7
 |v::r=>by
  unfold yo;split
  ·first|exact er0|exact er1|exact er5|exact er6|exact er7
  ·exact zm7 d r
theorem yo2 (h:qm.den) (t:ze.den):Er (ofF h t).2:=by
 unfold ofF;split
 ·split
  ·split
   ·first|exact er0|exact er1|exact er5|exact er6|exact er7
   ·exact zcv _ _
  ·exact zm7 _ _
 ·first|exact er0|exact er1|exact er5|exact er6|exact er7
theorem zxz (h:qm.den) (t:ze.den) (d:Int):Er (qcl h t d).2:=by
 unfold qcl;split
 ·exact yo2 _ _
 ·unfold atH;split<;>first|exact er0|exact er1|exact er5|exact er6|exact er7
theorem Er.inR {e:Int} (h:Er e):inR .i64 e:=by
 obtain ⟨h1,h2⟩:=h;have e1:IntKind.i64.min = -9223372036854775808:=by decide
 have e2:IntKind.i64.max=9223372036854775807:=by decide
 unfold Go.Ab.inR;rw [e1,e2];omega
def zwa (c:jx.den):Bool:=qz2 c.1 c.2.1 c.2.2.1 c.2.2.2.1 c.2.2.2.2.1 c.2.2.2.2.2.1
def zwj (l:List ql.den) (c:jx.den):qc.den×Int:=
 if ((atS l c.2.2.2.1).2&&(atS l c.2.2.2.1).1.2.1)=true then
  (if (qae c.2.2.1 (atS l c.2.2.2.1).1.2.2.2.1).2=true then ((qae c.2.2.1 (atS l c.2.2.2.1).1.2.2.2.1).1,0) else (qdp,11))
 else (qdp,11)
def qyp (h:qm.den) (t:ze.den) (c:jx.den):qc.den×Int:=
 if zwa c=true then
  (if c.2.2.2.1<=c.2.2.2.2.1 then
   (if c.2.1=h.1 then (if (qcl h t c.2.2.2.2.1).2=0 then zwj (qcl h t c.2.2.2.2.1).1 c else (qdp,(qcl h t c.2.2.2.2.1).2)) else (qdp,7))
  else (qdp,4))
 else (qdp,1)
def ymz:Ct:=⟨[.d qm,.d ze,.d jx],[qc,i64],fun x=>((qyp x.1 x.2.1 x.2.2.1).1,(qyp x.1 x.2.1 x.2.2.1).2,()),fun x=>[jj x.1,wn x.2.1]⟩
noncomputable def ylr:Cx:=cx [(55,zij),(56,qub),(57,cAt),(58,zg5)] [(54,qq8)]
theorem zox:CxOK Tryz.prog ylr:=zc qv ⟨zx8,yn9,zmn,yiw,trivial⟩ ⟨zz2,trivial⟩
def unl (b:Bool) (e:Int) (k:Fr (qi [qc,i64])):Fr (qi [qc,i64]):=
 Fr.br (qq8.bad (b,e,())) (Fr.need (inR .i64 (qq8.pv (b,e,())).n) (Fr.val ((0,0,0,0,0,()),(qq8.pv (b,e,())).n,()))) k
def zak (x:qn [.d qm,.d ze,.d jx]):Fr (qi [qc,i64]):=
 let h:qm.den:=x.1; let t:ze.den:=x.2.1; let c:jx.den:=x.2.2.1
 unl (zij.f (c,())).1 1 (unl (decide (c.2.2.2.2.1≥c.2.2.2.1)) 4 (unl (c.2.1==h.1) 7 (Fr.need (jj h) (Fr.need (wn t)
  (unl ((qub.f (h,t,c.2.2.2.2.1,())).2.1==0) (qub.f (h,t,c.2.2.2.2.1,())).2.1
   (unl (bif (cAt.f ((qub.f (h,t,c.2.2.2.2.1,())).1,c.2.2.2.1,())).2.1 then (cAt.f ((qub.f (h,t,c.2.2.2.2.1,())).1,c.2.2.2.1,())).1.2.1 else false) 11
    (unl (zg5.f ((cAt.f ((qub.f (h,t,c.2.2.2.2.1,())).1,c.2.2.2.1,())).1.2.2.2.1,c.2.2.1,())).2.1 11
     (Fr.val ((zg5.f ((cAt.f ((qub.f (h,t,c.2.2.2.2.1,())).1,c.2.2.2.1,())).1.2.2.2.1,c.2.2.1,())).1,0,())))))))))
noncomputable def ynf:Code:=(Tryz.f26.body.map fun c=>tlC (tlC c)).getD .skip
theorem yid:qa Tryz.prog 26 ⟨[.d qm,.d ze,.d jx],[qc,i64],fun xs=>(zak xs).get,fun xs=>[(zak xs).ok]⟩:=
 ybw zox (run:=fun s=>ja Tryz.prog ylr 0 qq ynf 0 s) (T:=117) (k:=.i64) (m:=5) (fn:=Tryz.f26) (A:=hdC (Tryz.f26.body.getD .skip)) (c:=ynf) (rid:=1) (ops:=zt6 (hdC (tlC (Tryz.f26.body.getD .skip)))) (td:=12) (ta:=6) (tb:=7) (fr:=zak) (ps:=[.d qm,.d ze,.d jx]) (rs:=[qc,i64]) (qm.dflt,ze.dflt,jx.dflt,())
  (by kernel_rfl) (by kernel_rfl) (by kernel_rfl) zva (fun E=>qim zox (qe _ 0)) (fun x=>by kernel_rfl)
theorem qxi {b:Bool} {e:Int} {k:Fr (qi [qc,i64])} {y:qi [qc,i64]} (hb:b=true) (hk:k.ok/\k.get=y):(unl b e k).ok/\(unl b e k).get=y:=Fr.br_f (by show (!b)=false; rw [hb]; rfl) hk
theorem qxh {b:Bool} {e:Int} {k:Fr (qi [qc,i64])} (hb:b=false) (he:inR .i64 e):(unl b e k).ok/\(unl b e k).get=(qdp,e,()):=Fr.br_t (by show (!b)=true; rw [hb]; rfl) (Fr.need_ he ⟨trivial,rfl⟩)
theorem yng (h:qm.den) (t:ze.den) (c:jx.den) (hf:jj h) (ht:wn t):(zak (h,t,c,())).ok/\(zak (h,t,c,())).get=((qyp h t c).1,(qyp h t c).2,()):=by
 unfold qyp;by_cases h1:zwa c=true
 ·rw [if_pos h1];refine qxi h1 ?_;by_cases h2:c.2.2.2.1<=c.2.2.2.2.1
  ·rw [if_pos h2];refine qxi (by simpa using h2) ?_;by_cases h3:c.2.1=h.1
   ·rw [if_pos h3];refine qxi (by simpa using h3) (Fr.need_ hf (Fr.need_ ht ?_));by_cases h4:(qcl h t c.2.2.2.2.1).2=0
    ·rw [if_pos h4];refine qxi (by show ((qcl h t c.2.2.2.2.1).2==0)=true; simpa using h4) ?_;unfold zwj;by_cases h5:((atS (qcl h t c.2.2.2.2.1).1 c.2.2.2.1).2&&(atS (qcl h t c.2.2.2.2.1).1 c.2.2.2.1).1.2.1)=true
     ·rw [if_pos h5];refine qxi ((qee _ _).trans h5) ?_;by_cases h6:(qae c.2.2.1 (atS (qcl h t c.2.2.2.2.1).1 c.2.2.2.1).1.2.2.2.1).2=true
      ·rw [if_pos h6];exact qxi h6 ⟨trivial,rfl⟩
      ·rw [if_neg h6];exact qxh (ueo.2 h6) ⟨by decide,by decide⟩
     ·rw [if_neg h5];exact qxh ((qee _ _).trans (ueo.2 h5)) ⟨by decide,by decide⟩
    ·rw [if_neg h4];exact qxh (by show ((qcl h t c.2.2.2.2.1).2==0)=false; simpa using h4) (zxz h t _).inR
   ·rw [if_neg h3];exact qxh (by simpa using h3) ⟨by decide,by decide⟩
  ·rw [if_neg h2];exact qxh (by simpa using h2) ⟨by decide,by decide⟩
 ·rw [if_neg h1];exact qxh (ueo.2 h1) ⟨by decide,by decide⟩
theorem ynh:qa Tryz.prog 26 ymz:=
 wa yid _ _ (fun w F x vs hr hok=>by
  obtain ⟨h,t,c,_⟩:=x;exact yng h t c hok.1 hok.2)
noncomputable def yr6:Cx:=cx [(145,qyk),(98,qhk),(259,qzx)] []
theorem yhh:CxOK Tryz.prog yr6:=zc (cs:=[(145,qyk),(98,qhk),(259,qzx)]) (ps:=[]) qv ⟨zwo,qv8,zp7,trivial⟩ trivial
def zjr (x:qn [.d i64,.d i64,.d zo]):Fr (qi [qm,i64]):=
 Fr.br (bif bif bif decide (x.1<1) then true else decide (x.1>1000000000) then true else !(qyk.f (x.2.1,())).1 then true else !(qhk.f (x.2.2.1,())).1) (Fr.val ((0,0,((0,0,()),(0,0,0,0,()),[],()),[],()),1,())) (Fr.need (List.length x.2.2.1.2.2.1<=1000000) (Fr.val ((x.1,x.2.1,(qzx.f (x.2.2.1,())).1,[],()),0,())))
theorem zno:qa Tryz.prog 256 ⟨[.d i64,.d i64,.d zo],[qm,i64],fun xs=>(zjr xs).get,fun xs=>[(zjr xs).ok]⟩:=
 qg yhh (Λ:=qq) (fn:=Tryz.f256) (dfP [.d i64,.d i64,.d zo]) (by kernel_rfl) (fun c E _=>qe c 0) (fun x=>by kernel_rfl)
def qqy (id bk:Int) (t:zo.den):Bool:=bif bif bif decide (id<1) then true else decide (id>1000000000) then true else !(qc6 bk) then true else !(qeu t)
def qo1 (id bk:Int) (t:zo.den):qm.den×Int:=bif qqy id bk t then (h00,1) else ((id,bk,t,[],()),0)
def zv0:Ct:=⟨[.d i64,.d i64,.d zo],[qm,i64],fun x=>((qo1 x.1 x.2.1 x.2.2.1).1,(qo1 x.1 x.2.1 x.2.2.1).2,()),fun _=>[]⟩
theorem qt2 {t:zo.den} (h:qeu t=true):t.2.2.1.length<=1000000:=by
 unfold qeu at h;rw [Bool.and_eq_true,Bool.and_eq_true,Bool.and_eq_true] at h;have hc:qcc t.2.2.1=true:=h.2.2.2;unfold qcc at hc;rw [Bool.and_eq_true] at hc;have:=of_decide_eq_true hc.1;exact Nat.le_trans this.2 (by decide)
theorem qtv {id bk:Int} {t:zo.den} (h:qqy id bk t=false):qeu t=true:=by
 unfold qqy at h;cases ht:qeu t
 ·rw [ht] at h;cases h1:(bif bif decide (id<1) then true else decide (id>1000000000) then true else !(qc6 bk))<;>rw [h1] at h<;>cases h
 ·rfl
theorem ya7:qa Tryz.prog 256 zv0:=conv zno _ _ (fun _ _ x _ _ _=>by
 obtain ⟨id,bk,t,_⟩:=x;show _/\_=((qo1 id bk t).1,(qo1 id bk t).2,());unfold qo1;cases h:qqy id bk t
 ·exact Fr.br_f h (Fr.need_ (qt2 (qtv h)) ⟨trivial,rfl⟩)
 ·exact Fr.br_t h ⟨trivial,rfl⟩)
theorem zid (id bk:Int) (t:zo.den):jj (qo1 id bk t).1:=by
 unfold qo1;cases h:qqy id bk t
 ·exact ⟨by show 0<=500000; omega,qt2 (qtv h),fun c hc=>by cases hc⟩
 ·have z:jj h00:=⟨by decide,by decide,fun c hc=>by cases hc⟩;exact z
def zrh:Ct:=⟨[.d zf],[i64],fun x=>(aId x.1,()),fun _=>[]⟩
def zrm:Ct:=⟨[.d qt],[i64],fun x=>(gId x.1,()),fun _=>[]⟩
def qye (f:factT.den) (g:qt.den):Bool:=bif g.1.2.1==fId f then decide (g.1.2.2.2.2.1≥zt f) else false
def zrf:Ct:=⟨[.d qt,.ptr factT],[.bool],fun x=>(qye x.2.1 x.1,()),fun _=>[]⟩
theorem ymu:qa Tryz.prog 258 zrh:=
 conv (qg xk (Λ:=qq) (fn:=Tryz.f258) (fr:=fun x=>Fr.val (aId x.1,())) (ps:=zrh.ps) (rs:=[i64]) (dfP zrh.ps) (by kernel_rfl) (fun c E _=>qe c 0) (fun x=>by kernel_rfl)) _ _ (fun _ _ _ _ _ _=>⟨trivial,rfl⟩)
theorem yox:qa Tryz.prog 276 zrm:=
 conv (qg xk (Λ:=qq) (fn:=Tryz.f276) (fr:=fun x=>Fr.val (gId x.1,())) (ps:=zrm.ps) (rs:=[i64]) (dfP zrm.ps) (by kernel_rfl) (fun c E _=>qe c 0) (fun x=>by kernel_rfl)) _ _ (fun _ _ _ _ _ _=>⟨trivial,rfl⟩)
theorem ymq:qa Tryz.prog 269 zrf:=
 conv (qg xk (Λ:=qq) (fn:=Tryz.f269) (fr:=fun x=>Fr.val (qye x.2.1 x.1,())) (ps:=zrf.ps) (rs:=[.bool]) (dfP zrf.ps) (by kernel_rfl) (fun c E _=>qe c 0) (fun x=>by kernel_rfl)) _ _ (fun _ _ _ _ _ _=>⟨trivial,rfl⟩)
noncomputable def yr3:Cx:=cx [(307,qzy),(43,cIn)] []
theorem yhe:CxOK Tryz.prog yr3:=zc (cs:=[(307,qzy),(43,cIn)]) (ps:=[]) qv ⟨ykf,qlv,trivial⟩ trivial
noncomputable def zqx:Cx:=cx [] []
theorem qj5:CxOK Tryz.prog zqx:=zc (cs:=[]) (ps:=[]) qv trivial trivial
abbrev qdq:Pt:=⟨28,2,⟨[(14,.d i64),(13,.d i64),(12,.d (.sl qb)),(6,.d i64),(1,.d i64),(5,.d i64),(9,.d i64),(0,.d (.sl qb))],[]⟩,⟨[(6,.d i64),(1,.d i64),(9,.d i64),(0,.d (.sl qb))],[]⟩,⟨[],[]⟩⟩
def zpo (x:qdq.M.X):Fr qdq.Out:=
 Fr.br (decide (x.1.1<x.1.2.1)) (Fr.need (0<=x.1.1/\x.1.1<((List.length x.1.2.2.1):Int)) (Fr.need (¬x.1.2.2.2.2.2.1<0) (Fr.val (Rd.next ((IntKind.i64.wrap (x.1.1+1),x.1.2.1,x.1.2.2.1,IntKind.i64.wrap (x.1.2.2.2.1+(qzy.f ((List.getD x.1.2.2.1 (Int.toNat x.1.1) qb.dflt),x.1.2.2.2.2.1,x.1.2.2.2.2.2.1,())).1),x.1.2.2.2.2.1,x.1.2.2.2.2.2.1,x.1.2.2.2.2.2.2.1,x.1.2.2.2.2.2.2.2.1,()),()))))) (Fr.val (Rd.out ((x.1.2.2.2.1,x.1.2.2.2.2.1,x.1.2.2.2.2.2.2.1,x.1.2.2.2.2.2.2.2.1,()),())))
noncomputable def qst:Code:=((ku (qo Tryz.f303 0) 0).getD .skip)
theorem yew:qf Tryz.prog qst qdq.M qdq zpo:=
 qf.of_run yhe (bs:=0) (Λ:=qq) rfl rfl rfl (fun E=>qe _ 0) (fun x=>by kernel_rfl)
abbrev qxe:Type:=qn [.d i64,.d i64,.d i64,.d i64,.d (.sl qb)]×jd []
def qb3 (e:qb.den) (s:qxe):Fr qxe:=
 Fr.need (¬s.1.2.2.1<0) (Fr.val ((IntKind.i64.wrap (s.1.1+(qzy.f (e,s.1.2.1,s.1.2.2.1,())).1),s.1.2.1,s.1.2.2.1,s.1.2.2.2.1,s.1.2.2.2.2.1,()),()))
def qrw (x:qdq.M.X):Int×List qb.den×qxe:=(x.1.1,x.1.2.2.1,x.1.2.2.2,x.2)
def qpj (x:qdq.M.X):Prop:=x.1.2.1=(x.1.2.2.1.length:Int)
def qzf (s:qxe):qdq.E.X:=((s.1.1,s.1.2.1,s.1.2.2.2.1,s.1.2.2.2.2.1,()),())
theorem zx3:qf Tryz.prog (.loop qst) qdq.M qdq (FF qb3 qrw qpj qzf):=by
 refine qf.fold yew qb3 qrw qpj qzf ?_ ?_
 ·rintro ⟨⟨i,n,l,s⟩,m⟩ hg h0 h1 hb e he Q h;have hg:n=(l.length:Int):=hg;subst hg;have h0:0<=i:=h0;have h1:i<(l.length:Int):=h1;have hb:(l.length:Int)<=9223372036854775807:=hb;have hd:l.getD i.toNat qb.dflt=e:=zp he;have hw:=zu h0 h1 hb;dsimp only [qrw,qb3,zpo,Fr.satP] at h ⊢;simp only [hd,hw] at h ⊢;refine ⟨fun _=>?_,fun hn=>absurd h1 (of_decide_eq_false hn)⟩
  repeat' first
   |exact h
   |exact ⟨h0,h1⟩
   |exact fun _=>⟨h0,h1⟩
   |exact h _ rfl rfl
   |(refine ⟨fun hc=>?_,fun hc=>?_⟩<;>first|replace h:=h.1 hc|replace h:=h.2 hc)
   |(refine ⟨h.1,?_⟩; replace h:=h.2)
   |refine ⟨⟨h0,h1⟩,?_⟩
   |exact h.1
   |exact h.2.1
   |exact h.2.2.1
   |refine ⟨?_,?_⟩
   |(intro (hc:_=true); replace h:=h.1 hc)
   |(intro (hc:_=false); replace h:=h.2 hc)
   |(replace h:=h.2)
 ·rintro ⟨⟨i,n,l,s⟩,m⟩ hg h1 Q h;have hg:n=(l.length:Int):=hg;subst hg;exact ⟨fun hn=>absurd (ua5 hn) h1,fun _=>h⟩
def yp9 (Γ:Gm):St->Option Tr:=qdq.han Γ qdq.M (FF qb3 qrw qpj qzf)
abbrev qch:Pt:=⟨33,0,⟨[(15,.d i64),(14,.d i64),(13,.d (.sl qb))],[.x 3 44 qb,.r 3 3 0,.y 5 27 [(some 44,qb)],.r 5 5 0]⟩,⟨[],[.x 3 44 qb,.r 3 3 0,.y 5 27 [(some 44,qb)],.r 5 5 0]⟩,⟨[],[]⟩⟩
def zkr (x:qch.M.X):Fr qch.Out:=
 Fr.br (decide (x.1.1<x.1.2.1)) (Fr.need (0<=x.1.1/\x.1.1<((List.length x.1.2.2.1):Int)) (Fr.need (x.2.2.1.1.length + [((List.getD x.1.2.2.1 (Int.toNat x.1.1) qb.dflt).1,(List.getD x.1.2.2.1 (Int.toNat x.1.1) qb.dflt).2.1,(List.getD x.1.2.2.1 (Int.toNat x.1.1) qb.dflt).2.2.1,(List.getD x.1.2.2.1 (Int.toNat x.1.1) qb.dflt).2.2.2.1,(List.getD x.1.2.2.1 (Int.toNat x.1.1) qb.dflt).2.2.2.2.1,(List.getD x.1.2.2.1 (Int.toNat x.1.1) qb.dflt).2.2.2.2.2.1,(List.getD x.1.2.2.1 (Int.toNat x.1.1) qb.dflt).2.2.2.2.2.2.1,IntKind.i64.wrap ((BitVec.ofInt IntKind.i64.bits (List.getD x.1.2.2.1 (Int.toNat x.1.1) qb.dflt).2.2.2.2.2.2.2.1 &&& BitVec.ofInt IntKind.i64.bits x.2.1.2.2.2.2.2.2.2.1).toNat:Int),())].length<=maxLen/\(x.2.2.1.1.length + [((List.getD x.1.2.2.1 (Int.toNat x.1.1) qb.dflt).1,(List.getD x.1.2.2.1 (Int.toNat x.1.1) qb.dflt).2.1,(List.getD x.1.2.2.1 (Int.toNat x.1.1) qb.dflt).2.2.1,(List.getD x.1.2.2.1 (Int.toNat x.1.1) qb.dflt).2.2.2.1,(List.getD x.1.2.2.1 (Int.toNat x.1.1) qb.dflt).2.2.2.2.1,(List.getD x.1.2.2.1 (Int.toNat x.1.1) qb.dflt).2.2.2.2.2.1,(List.getD x.1.2.2.1 (Int.toNat x.1.1) qb.dflt).2.2.2.2.2.2.1,IntKind.i64.wrap ((BitVec.ofInt IntKind.i64.bits (List.getD x.1.2.2.1 (Int.toNat x.1.1) qb.dflt).2.2.2.2.2.2.2.1 &&& BitVec.ofInt IntKind.i64.bits x.2.1.2.2.2.2.2.2.2.1).toNat:Int),())].length)*72<=140737488355328) (Fr.val (Rd.next ((IntKind.i64.wrap (x.1.1+1),x.1.2.1,x.1.2.2.1,()),x.2.1,(x.2.2.1.1++[((List.getD x.1.2.2.1 (Int.toNat x.1.1) qb.dflt).1,(List.getD x.1.2.2.1 (Int.toNat x.1.1) qb.dflt).2.1,(List.getD x.1.2.2.1 (Int.toNat x.1.1) qb.dflt).2.2.1,(List.getD x.1.2.2.1 (Int.toNat x.1.1) qb.dflt).2.2.2.1,(List.getD x.1.2.2.1 (Int.toNat x.1.1) qb.dflt).2.2.2.2.1,(List.getD x.1.2.2.1 (Int.toNat x.1.1) qb.dflt).2.2.2.2.2.1,(List.getD x.1.2.2.1 (Int.toNat x.1.1) qb.dflt).2.2.2.2.2.2.1,IntKind.i64.wrap ((BitVec.ofInt IntKind.i64.bits (List.getD x.1.2.2.1 (Int.toNat x.1.1) qb.dflt).2.2.2.2.2.2.2.1 &&& BitVec.ofInt IntKind.i64.bits x.2.1.2.2.2.2.2.2.2.1).toNat:Int),())],()),()))))) (Fr.val (Rd.out ((),x.2.1,(x.2.2.1.1,()),())))
theorem zzi:qf Tryz.prog (qo Tryz.f299 0) qch.M qch zkr:=
 qf.of_run qj5 (bs:=0) (Λ:=qq) rfl rfl rfl (fun E=>qe _ 0) (fun x=>by kernel_rfl)
abbrev qoq:Type:=qn []×jd [.x 3 44 qb,.r 3 3 0,.y 5 27 [(some 44,qb)],.r 5 5 0]
def qcu (e:qb.den) (s:qoq):Fr qoq:=
 Fr.need (s.2.2.1.1.length + [(e.1,e.2.1,e.2.2.1,e.2.2.2.1,e.2.2.2.2.1,e.2.2.2.2.2.1,e.2.2.2.2.2.2.1,IntKind.i64.wrap ((BitVec.ofInt IntKind.i64.bits e.2.2.2.2.2.2.2.1 &&& BitVec.ofInt IntKind.i64.bits s.2.1.2.2.2.2.2.2.2.1).toNat:Int),())].length<=maxLen/\(s.2.2.1.1.length + [(e.1,e.2.1,e.2.2.1,e.2.2.2.1,e.2.2.2.2.1,e.2.2.2.2.2.1,e.2.2.2.2.2.2.1,IntKind.i64.wrap ((BitVec.ofInt IntKind.i64.bits e.2.2.2.2.2.2.2.1 &&& BitVec.ofInt IntKind.i64.bits s.2.1.2.2.2.2.2.2.2.1).toNat:Int),())].length)*72<=140737488355328) (Fr.val ((),s.2.1,(s.2.2.1.1++[(e.1,e.2.1,e.2.2.1,e.2.2.2.1,e.2.2.2.2.1,e.2.2.2.2.2.1,e.2.2.2.2.2.2.1,IntKind.i64.wrap ((BitVec.ofInt IntKind.i64.bits e.2.2.2.2.2.2.2.1 &&& BitVec.ofInt IntKind.i64.bits s.2.1.2.2.2.2.2.2.2.1).toNat:Int),())],()),()))
def qov (x:qch.M.X):Int×List qb.den×qoq:=(x.1.1,x.1.2.2.1,x.1.2.2.2,x.2)
def qm3 (x:qch.M.X):Prop:=x.1.2.1=(x.1.2.2.1.length:Int)
def qvh (s:qoq):qch.E.X:=((),s.2.1,(s.2.2.1.1,()),())
theorem ztr:qf Tryz.prog (.loop (qo Tryz.f299 0)) qch.M qch (FF qcu qov qm3 qvh):=by
 refine qf.fold zzi qcu qov qm3 qvh ?_ ?_
 ·rintro ⟨⟨i,n,l,s⟩,m⟩ hg h0 h1 hb e he Q h;have hg:n=(l.length:Int):=hg;subst hg;have h0:0<=i:=h0;have h1:i<(l.length:Int):=h1;have hb:(l.length:Int)<=9223372036854775807:=hb;have hd:l.getD i.toNat qb.dflt=e:=zp he;have hw:=zu h0 h1 hb;dsimp only [qov,qcu,zkr,Fr.satP] at h ⊢;simp only [hd,hw] at h ⊢;refine ⟨fun _=>?_,fun hn=>absurd h1 (of_decide_eq_false hn)⟩
  repeat' first
   |exact h
   |exact ⟨h0,h1⟩
   |exact fun _=>⟨h0,h1⟩
   |exact h _ rfl rfl
   |(refine ⟨fun hc=>?_,fun hc=>?_⟩<;>first|replace h:=h.1 hc|replace h:=h.2 hc)
   |(refine ⟨h.1,?_⟩; replace h:=h.2)
   |refine ⟨⟨h0,h1⟩,?_⟩
   |exact h.1
   |exact h.2.1
   |exact h.2.2.1
   |refine ⟨?_,?_⟩
   |(intro (hc:_=true); replace h:=h.1 hc)
   |(intro (hc:_=false); replace h:=h.2 hc)
   |(replace h:=h.2)
 ·rintro ⟨⟨i,n,l,s⟩,m⟩ hg h1 Q h;have hg:n=(l.length:Int):=hg;subst hg;exact ⟨fun hn=>absurd (ua5 hn) h1,fun _=>h⟩
def yln (Γ:Gm):St->Option Tr:=qch.han Γ qch.M (FF qcu qov qm3 qvh)
abbrev qfk:Pt:=⟨28,0,⟨[(9,.d i64),(0,.d (.sl qb)),(1,.d i64)],[]⟩,⟨[],[]⟩,⟨[(4,.d .bool)],[]⟩⟩
def qto (day peril:Int) (l:List qb.den) (s:Int):Int:=l.foldl (fun s t=>IntKind.i64.wrap (s+jc t day peril)) s
theorem zpf (day p i:Int) (l0:List qb.den):(l:List qb.den)->(s:Int)->goF qb3 l ((s,day,p,i,l0,()),())=((qto day p l s,day,p,i,l0,()),())
 |[],_=>rfl
 |t::l,s=>zpf day p i l0 l (IntKind.i64.wrap (s+jc t day p))
theorem zi8 (day p i:Int) (hp:¬ p<0) (l0:List qb.den):(l:List qb.den)->(s:Int)->okF qb3 l ((s,day,p,i,l0,()),())
 |[],_=>trivial
 |t::l,s=>⟨⟨hp,trivial⟩,zi8 day p i hp l0 l (IntKind.i64.wrap (s+jc t day p))⟩
abbrev zpg (i:Int) (l:List qb.den) (day:Int):qdq.M.X:=((0,((List.length l:Nat):Int),l,0,day,i,i,l,()),())
def zxf (x:qfk.M.X):Fr qfk.Out:=
 Fr.br (decide (x.1.1<8)) (Fr.need (InL (qpj (zpg x.1.1 x.1.2.1 x.1.2.2.1)) (qrw (zpg x.1.1 x.1.2.1 x.1.2.2.1)))
  (Fr.need (okF qb3 (List.drop 0 x.1.2.1) ((0,x.1.2.2.1,x.1.1,x.1.1,x.1.2.1,()),()))
   (Fr.br (decide ((goF qb3 (List.drop 0 x.1.2.1) ((0,x.1.2.2.1,x.1.1,x.1.1,x.1.2.1,()),())).1.1>10000)) (Fr.val (Rd.back ((true,()),())))
    (Fr.val (Rd.next ((IntKind.i64.wrap ((goF qb3 (List.drop 0 x.1.2.1) ((0,x.1.2.2.1,x.1.1,x.1.1,x.1.2.1,()),())).1.2.2.2.1+1),(goF qb3 (List.drop 0 x.1.2.1) ((0,x.1.2.2.1,x.1.1,x.1.1,x.1.2.1,()),())).1.2.2.2.2.1,(goF qb3 (List.drop 0 x.1.2.1) ((0,x.1.2.2.1,x.1.1,x.1.1,x.1.2.1,()),())).1.2.1,()),()))))))
  (Fr.val (Rd.out ((),())))
theorem ykv:qf Tryz.prog (qo Tryz.f303 0) qfk.M qfk zxf:=
 qf.of_run qj5 (bs:=0) (Λ:=fun _=>yp9 zqx.Γ) rfl rfl rfl (fun E=>qly _ 0 fun i b hb=>by
  match i,hb with
  |0,hb=>
   have e:some qst=some b:=by rw [← hb]; kernel_rfl
   cases e;exact qf.han qj5 rfl zx3
  |i+1,hb=>exact absurd (qew hb) (by
   have:zq (qo Tryz.f303 0)=1:=by kernel_rfl
   omega)) (fun x=>by kernel_rfl)
def qn4 (l:List qb.den) (day:Int):Nat->Int->Bool
 |0,_=>false
 |n+1,p=>decide (qto day p l 0>10000) || qn4 l day n (p+1)
def qlp (l:List qb.den) (day:Int):Bool:=qn4 l day 8 0
def zch (i:Int) (l:List qb.den):Prop:=0<=i/\i<=8/\((List.length l:Nat):Int)<=9223372036854775807
def zq4 (x:qfk.M.X):Fr qfk.Out:=
 Fr.need (zch x.1.1 x.1.2.1) (Fr.br (qn4 x.1.2.1 x.1.2.2.1 (8-x.1.1).toNat x.1.1) (Fr.val (Rd.back ((true,()),()))) (Fr.val (Rd.out ((),()))))
theorem yjt (i:Int) (l:List qb.den) (day:Int) (hinv:zch i l) (Q:qfk.Out->Prop) (hq:(Fr.br (qn4 l day (8-i).toNat i) (Fr.val (Rd.back ((true,()),()))) (Fr.val (Rd.out ((),()))):Fr qfk.Out).satP Q) :
  (zxf ((i,l,day,()),())).satP fun
   |.next x'=>zch x'.1.1 x'.1.2.1/\(8-x'.1.1).toNat<(8-i).toNat/\(zq4 x').satP Q
   |.out y=>Q (.out y)
   |.back z=>Q (.back z)
   |.pan p=>Q (.pan p):=by
 obtain ⟨h1,h2,h3⟩:=hinv;by_cases hi:i<8
 ·refine ⟨fun _=>⟨⟨rfl,Int.le_refl _,Int.natCast_nonneg _,h3⟩,zi8 day i i (by omega) l (List.drop 0 l) 0,?_⟩,fun h=>absurd hi (of_decide_eq_false h)⟩;have hw:IntKind.i64.wrap (i+1)=i+1:=IntWalk.i64_in _ (by omega);dsimp only;rw [zpf,List.drop_zero];have hn:(8-i).toNat=(8-(i+1)).toNat+1:=by omega
  rw [hn] at hq;dsimp only [qn4] at hq;refine ⟨fun hb=>?_,fun hb=>?_⟩
  ·have hb':decide (qto day i l 0>10000)=true:=hb;rw [hb'] at hq;exact hq.1 rfl
  ·have hb':decide (qto day i l 0>10000)=false:=hb;rw [hb',Bool.false_or] at hq;dsimp only;rw [hw];have hI:zch (i+1) l:=⟨by omega,by omega,h3⟩;have hm:(8-(i+1)).toNat<(8-i).toNat:=by omega
   exact ⟨hI,hm,hI,hq⟩
 ·refine ⟨fun h=>absurd (ua5 h) hi,fun _=>?_⟩;have hn:(8-i).toNat=0:=by omega
  rw [hn] at hq;exact hq.2 rfl
theorem ydk:qf Tryz.prog (.loop (qo Tryz.f303 0)) qfk.M qfk zq4:=by
 refine qf.loop (n:=28) (id:=0) ykv (inv:=fun x=>zch x.1.1 x.1.2.1) (μ:=fun x=>(8-x.1.1).toNat) ?_ (fun x Q h=>h.1);rintro ⟨⟨i,l,day,_⟩,_⟩ hinv Q hq;exact yjt i l day hinv Q hq.2
def zik:Ct:=⟨[.d (.sl qb),.d i64],[.bool],fun x=>(qlp x.1 x.2.1,()),fun _=>[]⟩
theorem ybq:qa Tryz.prog 303 zik:=
 conv (qg qj5 (Λ:=fun _=>qfk.han zqx.Γ qfk.M zq4) (fn:=Tryz.f303) (ps:=[.d (.sl qb),.d i64]) (rs:=[.bool])
  (fr:=fun x=>Fr.need (zch 0 x.1) (Fr.br (qn4 x.1 x.2.1 (8-(0:Int)).toNat 0) (Fr.val (true,())) (Fr.val (false,())))) (dfP [.d (.sl qb),.d i64]) (by kernel_rfl)
  (fun c E hc=>jb hc (by kernel_rfl) (b:=qo Tryz.f303 0) (by kernel_rfl) (qf.han qj5 rfl ydk)) (fun x=>by kernel_rfl)) _ _ (fun w F x vs hr _=>by
  obtain ⟨l,day,_⟩:=x;obtain ⟨v,vs',rfl,hv,_⟩:=hr;have hlen:((List.length (α:=qb.den) l:Nat):Int)<=9223372036854775807:=qcn hv;refine Fr.need_ ⟨by omega,by omega,hlen⟩ ?_;show _/\_=(qlp l day,());cases hc:qlp l day
  ·exact Fr.br_f hc ⟨trivial,rfl⟩
  ·exact Fr.br_t hc ⟨trivial,rfl⟩)
def qs9 (x t:qb.den) (all:List qb.den):Bool:=bif (cIn.f (t.2.2.1,x.2.2.1.1,())).1 then qlp all x.2.2.1.1 else false
def ziu:Ct:=⟨[.d qb,.ptr qb,.ptr (.sl qb)],[.bool],fun x=>(qs9 x.1 x.2.1 x.2.2.1,()),fun _=>[]⟩
noncomputable def yr4:Cx:=cx [(303,zik),(43,cIn)] []
theorem yhf:CxOK Tryz.prog yr4:=zc (cs:=[(303,zik),(43,cIn)]) (ps:=[]) qv ⟨ybq,qlv,trivial⟩ trivial
theorem yo8:qa Tryz.prog 302 ziu:=
 conv (qg yhf (Λ:=qq) (fn:=Tryz.f302) (fr:=fun x=>Fr.val (qs9 x.1 x.2.1 x.2.2.1,())) (ps:=ziu.ps) (rs:=[.bool]) (dfP ziu.ps) (by kernel_rfl) (fun c E _=>qe c 0) (fun x=>by kernel_rfl)) _ _ (fun _ _ _ _ _ _=>⟨trivial,rfl⟩)
def qfy (t x:qb.den):qb.den:=(x.1,x.2.1,x.2.2.1,x.2.2.2.1,x.2.2.2.2.1,x.2.2.2.2.2.1,x.2.2.2.2.2.2.1,IntKind.i64.wrap ((BitVec.ofInt IntKind.i64.bits x.2.2.2.2.2.2.2.1 &&& BitVec.ofInt IntKind.i64.bits t.2.2.2.2.2.2.2.1).toNat:Int),())
def qfu (l:List qb.den) (t:qb.den):List qb.den:=[t]++l.map (qfy t)
def qlb (l:List qb.den) (t:qb.den):Bool:=bif t.2.1 != 1 then false else (qfu l t).any fun x=>qs9 x t (qfu l t)
theorem zlu (t:qb.den):(l a:List qb.den)->goF qcu l ((),t,(a,()),())=((),t,(a++l.map (qfy t),()),())
 |[],a=>by rw [ugg,ud1]; rfl
 |x::l,a=>by
  have h:=zlu t l (a++[qfy t x]);rw [ubf] at h;exact h
theorem zfd (t:qb.den):(l a:List qb.den)->a.length+l.length<=1000000->okF qcu l ((),t,(a,()),())
 |[],_,_=>trivial
 |x::l,a,h=>by
  rw [uaf] at h;refine ⟨⟨⟨?_,?_⟩,trivial⟩,zfd t l (a++[qfy t x]) (by rw [uas,uf4]; omega)⟩
  ·show a.length+1<=maxLen;unfold maxLen; omega
  ·show (a.length+1)*72<=140737488355328;omega
abbrev zjj (l:List qb.den) (t:qb.den):qch.M.X:=((0,((List.length l:Nat):Int),l,()),t,([t],()),())
abbrev qkf (l:List qb.den) (t:qb.den):qoq:=goF qcu (List.drop 0 l) ((),t,([t],()),())
noncomputable def yl6:Cx:=cx [(297,qr3 qb),(302,ziu)] []
theorem zoy:CxOK Tryz.prog yl6:=zc (cs:=[(297,qr3 qb),(302,ziu)]) (ps:=[]) qv ⟨zo6,yo8,trivial⟩ trivial
abbrev POv:List PT:=[.d (.sl qb),.d qb]
def zro:Ct:=⟨POv,[.bool],fun x=>(qlb x.1 x.2.1,()),fun x=>[x.1.length<=100000]⟩
theorem ykd:qa Tryz.prog 299 zro:=
 conv (qg zoy (Λ:=fun _=>yln yl6.Γ) (fn:=Tryz.f299) (ps:=POv) (rs:=[.bool])
  (fr:=fun x=>Fr.br (x.2.1.2.1 != 1) (Fr.val (false,())) (Fr.need (InL (qm3 (zjj x.1 x.2.1)) (qov (zjj x.1 x.2.1))) (Fr.need (okF qcu (List.drop 0 x.1) ((),x.2.1,([x.2.1],()),()))
   (Fr.need (∀ y:qi [qb],WfL [qb] y->qr ([]:List Prop)) (Fr.val ((qkf x.1 x.2.1).2.2.1.1.any (fun n=>qs9 n (qkf x.1 x.2.1).2.1 (qkf x.1 x.2.1).2.2.1.1),())))))) (dfP POv) (by kernel_rfl)
  (fun c E hc=>jb hc (by kernel_rfl) (b:=qo Tryz.f299 0) (by kernel_rfl) (qf.han zoy rfl ztr)) (fun x=>by kernel_rfl)) _ _ (fun w F x vs hr h=>by
  obtain ⟨l,t,_⟩:=x;have hl:List.length (α:=qb.den) l<=100000:=h;show _/\_=(qlb l t,());unfold qlb;cases hc:t.2.1 != 1
  ·refine Fr.br_f hc (Fr.need_ ⟨rfl,ua4 _,uak _,?_⟩ (Fr.need_ (zfd t (List.drop 0 l) [t] (by rw [uc7,uf4]; omega)) (Fr.need_ (fun _ _=>trivial) ⟨trivial,?_⟩)))
   ·show ((List.length (α:=qb.den) l:Nat):Int)<=_;omega
   ·show ((qkf l t).2.2.1.1.any (fun n=>qs9 n (qkf l t).2.1 (qkf l t).2.2.1.1),())=_;have e:qkf l t=((),t,(qfu l t,()),()):=by
     show goF qcu (List.drop 0 l) _=_;rw [uc7,zlu]; rfl
    rw [e];rfl
  ·exact Fr.br_t hc ⟨trivial,rfl⟩)
def zb7 (s:stateT.den) (t:qb.den):Bool:=(yw s).any fun x=>x.1==t.1
def zqs (s:stateT.den) (l:List qb.den):stateT.den:=(s.1,s.2.1,s.2.2.1,l,s.2.2.2.2.1,())
def qcg (s:stateT.den) (f:factT.den):stateT.den×Int:=
 bif zb7 s (jh f) then (s,8) else bif decide (((List.length (yw s):Nat):Int)≥100) then (s,2) else bif qlb (yw s) (jh f) then (s,13)
  else (zqs s (qbe (fun t=>t.1) (yw s) (jh f)),0)
abbrev PDo:List PT:=[.d factT,.d stateT]
def qyn:Ct:=⟨[.d qb],[i64],fun x=>(x.1.1,()),fun _=>[]⟩
def ziz:Ct:=⟨[.d qb,.pk 296,.ptr factT],[.bool],fun x=>(x.1.1==(jh x.2.2.1).1,()),fun _=>[]⟩
theorem zzx:qa Tryz.prog 296 qyn:=
 conv (qg xk (Λ:=qq) (fn:=Tryz.f296) (fr:=fun x=>Fr.val (x.1.1,())) (ps:=qyn.ps) (rs:=[i64]) (dfP qyn.ps) (by kernel_rfl) (fun c E _=>qe c 0) (fun x=>by kernel_rfl)) _ _ (fun _ _ _ _ _ _=>⟨trivial,rfl⟩)
noncomputable def yqh:Cx:=cx [(296,qyn)] []
theorem yaf:CxOK Tryz.prog yqh:=zc (cs:=[(296,qyn)]) (ps:=[]) qv ⟨zzx,trivial⟩ trivial
theorem yp4:qa Tryz.prog 298 ziz:=
 conv (qg yaf (Λ:=qq) (fn:=Tryz.f298) (fr:=fun x=>Fr.val (x.1.1==(jh x.2.2.1).1,())) (ps:=ziz.ps) (rs:=[.bool]) (dfP ziz.ps) (by kernel_rfl) (fun c E _=>qe c 0) (fun x=>by kernel_rfl)) _ _ (fun _ _ _ _ _ _=>⟨trivial,rfl⟩)
noncomputable def yqi:Cx:=cx [(297,qr3 qb),(296,qyn),(298,ziz),(299,zro),(300,qym qb)] []
theorem yag:CxOK Tryz.prog yqi:=zc (cs:=[(297,qr3 qb),(296,qyn),(298,ziz),(299,zro),(300,qym qb)]) (ps:=[]) qv ⟨zo6,zzx,yp4,ykd,zyt,trivial⟩ trivial
def zd6:Ct:=⟨PDo,[stateT,i64],fun x=>((qcg x.2.1 x.1).1,(qcg x.2.1 x.1).2,()),fun _=>[]⟩
def ynw (x:qn PDo):Fr (qi [stateT,i64]):=
 Fr.need (∀ y:qi [qb],WfL [qb] y->qr ([]:List Prop)) (Fr.br (zb7 x.2.1 (jh x.1)) (Fr.val (x.2.1,8,())) (Fr.br (decide (((List.length (yw x.2.1):Nat):Int)≥100)) (Fr.val (x.2.1,2,()))
  (Fr.need ((yw x.2.1).length<=100000) (Fr.br (qlb (yw x.2.1) (jh x.1)) (Fr.val (x.2.1,13,()))
   (Fr.need (∀ y:qi [qb],WfL [qb] y->qr ([]:List Prop)) (Fr.need ((yw x.2.1).length<=100000) (Fr.val (zqs x.2.1 (qbe (fun t=>t.1) (yw x.2.1) (jh x.1)),0,()))))))))
theorem znl:qa Tryz.prog 295 zd6:=
 conv (qg yag (Λ:=qq) (fn:=Tryz.f295) (fr:=ynw) (ps:=PDo) (rs:=[stateT,i64]) (dfP PDo) (by kernel_rfl) (fun c E _=>qe c 0) (fun x=>by kernel_rfl)) _ _ (fun _ _ x _ _ _=>by
  obtain ⟨f,s,_⟩:=x;show _/\_=((qcg s f).1,(qcg s f).2,());unfold qcg;refine Fr.need_ (fun _ _=>trivial) ?_;cases h1:zb7 s (jh f)
  ·refine Fr.br_f rfl ?_;cases h2:decide (((List.length (yw s):Nat):Int)≥100)
   ·have hl:(yw s).length<=100000:=by have:=uac h2; omega
    refine Fr.br_f rfl (Fr.need_ hl ?_);cases h3:qlb (yw s) (jh f)
    ·exact Fr.br_f rfl (Fr.need_ (fun _ _=>trivial) (Fr.need_ hl ⟨trivial,rfl⟩))
    ·exact Fr.br_t rfl ⟨trivial,rfl⟩
   ·exact Fr.br_t rfl ⟨trivial,rfl⟩
  ·exact Fr.br_t rfl ⟨trivial,rfl⟩)
def qdo (s:stateT.den) (f:factT.den):stateT.den×Int:=bif decide (qfw f<=qmr s) then (s,12) else ((s.1,s.2.1,s.2.2.1,s.2.2.2.1,qfw f,()),0)
def zim:Ct:=⟨PDo,[stateT,i64],fun x=>((qdo x.2.1 x.1).1,(qdo x.2.1 x.1).2,()),fun _=>[]⟩
theorem zsf:qa Tryz.prog 312 zim:=
 conv (qg xk (Λ:=qq) (fn:=Tryz.f312) (fr:=fun x=>Fr.br (decide (qfw x.1<=qmr x.2.1)) (Fr.val (x.2.1,12,())) (Fr.val ((x.2.1.1,x.2.1.2.1,x.2.1.2.2.1,x.2.1.2.2.2.1,qfw x.1,()),0,()))) (ps:=PDo) (rs:=[stateT,i64]) (dfP PDo) (by kernel_rfl) (fun c E _=>qe c 0) (fun x=>by kernel_rfl)) _ _ (fun _ _ x _ _ _=>by
  obtain ⟨f,s,_⟩:=x;show _/\_=((qdo s f).1,(qdo s f).2,());unfold qdo;cases h1:decide (qfw f<=qmr s)
  ·exact Fr.br_f h1 ⟨trivial,rfl⟩
  ·exact Fr.br_t h1 ⟨trivial,rfl⟩)
noncomputable def ygm:List (FuncId×Ct):=[(48,zg0),(60,zg4),(21,qzt),(256,zv0),(20,ym0),(270,ym3),(26,ymz),(275,ygf),(285,yge),(257,(qym zf)),(274,(qym qt)),(271,(zrs zf)),(286,(zrs qt)),(268,(qr3 qt)),(258,zrh),(276,zrm),(269,zrf)]
noncomputable def yr7:Cx:=cx ygm []
theorem qqx:CxOK Tryz.prog yr7:=zc (cs:=ygm) (ps:=[]) qv ⟨zo4,zpm,zh7,ya7,ynq,ypb,ynh,ykc,yif,zyr,zys,yfu,yfv,yhx,ymu,yox,ymq,trivial⟩ trivial
abbrev qhb (s:stateT.den) (l:List zf.den):stateT.den:=(s.1,l,s.2.2.1,s.2.2.2.1,s.2.2.2.2.1,())
abbrev qxk (s:stateT.den) (l:List qt.den):stateT.den:=(s.1,s.2.1,l,s.2.2.2.1,s.2.2.2.2.1,())
def yf (s:stateT.den):Prop:=wn s.1/\(kr s).length<=100000/\(xb s).length<=100000/\∀ a∈kr s,jj a.1
abbrev qe1 (s:stateT.den) (i:Int):zf.den:=(kr s).getD i.toNat zf.dflt
abbrev yqt (s:stateT.den) (i:Int):qt.den:=(xb s).getD i.toNat qt.dflt
abbrev bH (f:factT.den):qm.den×Int:=qo1 (fId f) (zt f) (qhp f)
abbrev aI (s:stateT.den) (f:factT.den):Int:=qhe s (fId f)
abbrev gI (s:stateT.den) (f:factT.den):Int:=qe5 s (fId f)
abbrev pH (s:stateT.den) (f:factT.den):qm.den×Int:=qvn (qe1 s (aI s f)).1 (qei f)
def qff (s:stateT.den) (f:factT.den):stateT.den×Int:=
 bif decide (aI s f≥0) then (s,8) else bif decide (((List.length (kr s):Nat):Int)≥2000) then (s,2)
  else (qhb s (qbe aId (kr s) ((bH f).1,0,())),bif (bH f).2==0 then (qsf (bH f).1 s.1).2 else (bH f).2)
def qdn (s:stateT.den) (f:factT.den):stateT.den×Int:=
 bif decide (aI s f<0) then (s,7) else bif (xb s).any (qye f) then (s,10)
  else (qhb s ((kr s).set (aI s f).toNat ((pH s f).1,(qe1 s (aI s f)).2.1,())),bif (pH s f).2==0 then (qsf (pH s f).1 s.1).2 else (pH s f).2)
def qfh (s:stateT.den) (f:factT.den):stateT.den×Int:=
 bif decide (aI s f<0) then (s,7) else bif decide (qif f>IntKind.i64.wrap (4000000000000000000-(qe1 s (aI s f)).2.1)) then (s,5)
  else (qhb s ((kr s).set (aI s f).toNat ((qe1 s (aI s f)).1,IntKind.i64.wrap ((qe1 s (aI s f)).2.1+qif f),())),0)
abbrev lA (s:stateT.den) (f:factT.den):zf.den×Bool:=qi7 s (qao f).2.1
def qfg (s:stateT.den) (f:factT.den):stateT.den×Int:=
 bif decide (qe5 s (qao f).1≥0) then (s,8) else bif decide (((List.length (xb s):Nat):Int)≥2000) then (s,2) else bif !(lA s f).2 then (s,7)
  else (qxk s (qbe gId (xb s) (qao f,[],())),(qyp (lA s f).1.1 s.1 (qao f)).2)
abbrev pG (s:stateT.den) (f:factT.den):qt.den×Int:=qwr (yqt s (gI s f)) (qsj f)
def qh0 (s:stateT.den) (f:factT.den):stateT.den×Int:=
 bif decide (gI s f<0) then (s,7) else (qxk s ((xb s).set (gI s f).toNat (pG s f).1),(pG s f).2)
theorem vu {α:Type} {l:List α} {i:Int} {d:α} (h:0<=i/\i<(l.length:Int)):l.getD i.toNat d∈l:=by
 have hi:i.toNat<l.length:=by omega
 rw [ua6,ua7 hi];exact uer hi
theorem qnd {s:stateT.den} {id:Int} (h:¬ qhe s id<0):0<=qhe s id/\qhe s id<((kr s).length:Int):=⟨by omega,(qrk (by unfold qhe at h; omega)).1⟩
theorem zpl {s:stateT.den} {id:Int} (h:¬ qe5 s id<0):0<=qe5 s id/\qe5 s id<((xb s).length:Int):=⟨by omega,(qrk (by unfold qe5 at h; omega)).1⟩
theorem qre {s:stateT.den} (hs:yf s) {id:Int} (h:¬ qhe s id<0):jj (qe1 s (qhe s id)).1:=hs.2.2.2 _ (vu (qnd h))
theorem yb8:jj h00:=⟨by decide,by decide,fun c hc=>by cases hc⟩
theorem zvu {s:stateT.den} (hs:yf s) (id:Int):jj (qi7 s id).1.1:=by
 unfold qi7;split
 ·rename_i h;exact qre hs (id:=id) (by omega)
 ·exact yb8
abbrev nA:Prop:=∀ y:qi [zf],WfL [zf] y->qr ([]:List Prop)
abbrev nF:Prop:=∀ y:qi [qt],WfL [qt] y->qr ([]:List Prop)
def zpb:Ct:=⟨PDo,[stateT,i64],fun x=>((qff x.2.1 x.1).1,(qff x.2.1 x.1).2,()),fun x=>[yf x.2.1]⟩
def qy1 (s:stateT.den) (f:factT.den):Fr (qi [stateT,i64]):=
 Fr.br (decide (aI s f≥0)) (Fr.val (s,8,())) (Fr.br (decide (((List.length (kr s):Nat):Int)≥2000)) (Fr.val (s,2,())) (Fr.br ((bH f).2==0)
  (Fr.need (jj (bH f).1) (Fr.need (wn s.1) (Fr.need nA (Fr.need ((kr s).length<=100000) (Fr.val (qhb s (qbe aId (kr s) ((bH f).1,0,())),(qsf (bH f).1 s.1).2,()))))))
  (Fr.need nA (Fr.need ((kr s).length<=100000) (Fr.val (qhb s (qbe aId (kr s) ((bH f).1,0,())),(bH f).2,()))))))
theorem zwu (s:stateT.den) (f:factT.den) (hs:yf s):(qy1 s f).ok/\(qy1 s f).get=((qff s f).1,(qff s f).2,()):=by
 unfold qff;cases h1:decide (aI s f≥0)
 ·refine Fr.br_f (by first|rfl|exact h1) ?_;cases h2:decide (((List.length (kr s):Nat):Int)≥2000)
  ·refine Fr.br_f (by first|rfl|exact h2) ?_;cases h3:(bH f).2==0
   ·refine Fr.br_f (by first|rfl|exact h3) ?_;exact Fr.need_ (fun _ _=>trivial) (Fr.need_ hs.2.1 ⟨trivial,rfl⟩)
   ·refine Fr.br_t (by first|rfl|exact h3) ?_;exact Fr.need_ (zid _ _ _) (Fr.need_ hs.1 (Fr.need_ (fun _ _=>trivial) (Fr.need_ hs.2.1 ⟨trivial,rfl⟩)))
  ·exact Fr.br_t (by first|rfl|exact h2) ⟨trivial,rfl⟩
 ·exact Fr.br_t (by first|rfl|exact h1) ⟨trivial,rfl⟩
theorem zwv:qa Tryz.prog 255 zpb:=
 conv (qg qqx (Λ:=qq) (fn:=Tryz.f255) (fr:=fun x=>qy1 x.2.1 x.1) (ps:=PDo) (rs:=[stateT,i64]) (dfP PDo) (by kernel_rfl) (fun c E _=>qe c 0) (fun x=>by kernel_rfl)) _ _ (fun _ _ x _ _ h=>zwu x.2.1 x.1 h)
def zil:Ct:=⟨PDo,[stateT,i64],fun x=>((qdn x.2.1 x.1).1,(qdn x.2.1 x.1).2,()),fun x=>[yf x.2.1]⟩
def qu1 (s:stateT.den) (f:factT.den):Fr (qi [stateT,i64]):=
 Fr.br (decide (aI s f<0)) (Fr.val (s,7,())) (Fr.need nF (Fr.br ((xb s).any (qye f)) (Fr.val (s,10,())) (Fr.need (0<=aI s f/\aI s f<((kr s).length:Int)) (Fr.need (jj (qe1 s (aI s f)).1)
  (Fr.br ((pH s f).2==0)
   (Fr.need (jj (pH s f).1) (Fr.need (wn s.1) (Fr.need ((kr s).length<=100000) (Fr.need (0<=aI s f/\aI s f<((kr s).length:Int)) (Fr.val (qhb s ((kr s).set (aI s f).toNat ((pH s f).1,(qe1 s (aI s f)).2.1,())),(qsf (pH s f).1 s.1).2,()))))))
   (Fr.need ((kr s).length<=100000) (Fr.need (0<=aI s f/\aI s f<((kr s).length:Int)) (Fr.val (qhb s ((kr s).set (aI s f).toNat ((pH s f).1,(qe1 s (aI s f)).2.1,())),(pH s f).2,())))))))))
theorem zsd (s:stateT.den) (f:factT.den) (hs:yf s):(qu1 s f).ok/\(qu1 s f).get=((qdn s f).1,(qdn s f).2,()):=by
 unfold qdn;cases h1:decide (aI s f<0)
 ·refine Fr.br_f (by first|rfl|exact h1) ?_;have hi:=uac h1;refine Fr.need_ (fun _ _=>trivial) ?_;cases h2:(xb s).any (qye f)
  ·refine Fr.br_f (by first|rfl|exact h2) ?_;refine Fr.need_ (qnd hi) (Fr.need_ (qre hs hi) ?_);cases h3:(pH s f).2==0
   ·refine Fr.br_f (by first|rfl|exact h3) ?_;exact Fr.need_ hs.2.1 (Fr.need_ (qnd hi) ⟨trivial,rfl⟩)
   ·refine Fr.br_t (by first|rfl|exact h3) ?_;exact Fr.need_ (zqc (qre hs hi)) (Fr.need_ hs.1 (Fr.need_ hs.2.1 (Fr.need_ (qnd hi) ⟨trivial,rfl⟩)))
  ·exact Fr.br_t (by first|rfl|exact h2) ⟨trivial,rfl⟩
 ·exact Fr.br_t (by first|rfl|exact h1) ⟨trivial,rfl⟩
theorem zse:qa Tryz.prog 267 zil:=
 conv (qg qqx (Λ:=qq) (fn:=Tryz.f267) (fr:=fun x=>qu1 x.2.1 x.1) (ps:=PDo) (rs:=[stateT,i64]) (dfP PDo) (by kernel_rfl) (fun c E _=>qe c 0) (fun x=>by kernel_rfl)) _ _ (fun _ _ x _ _ h=>zsd x.2.1 x.1 h)
def zpd:Ct:=⟨PDo,[stateT,i64],fun x=>((qfh x.2.1 x.1).1,(qfh x.2.1 x.1).2,()),fun x=>[yf x.2.1]⟩
def qy3 (s:stateT.den) (f:factT.den):Fr (qi [stateT,i64]):=
 Fr.br (decide (aI s f<0)) (Fr.val (s,7,())) (Fr.need (0<=aI s f/\aI s f<((kr s).length:Int)) (Fr.br (decide (qif f>IntKind.i64.wrap (4000000000000000000-(qe1 s (aI s f)).2.1))) (Fr.val (s,5,()))
  (Fr.need ((kr s).length<=100000) (Fr.need (0<=aI s f/\aI s f<((kr s).length:Int)) (Fr.val (qhb s ((kr s).set (aI s f).toNat ((qe1 s (aI s f)).1,IntKind.i64.wrap ((qe1 s (aI s f)).2.1+qif f),())),0,()))))))
theorem zwy (s:stateT.den) (f:factT.den) (hs:yf s):(qy3 s f).ok/\(qy3 s f).get=((qfh s f).1,(qfh s f).2,()):=by
 unfold qfh;cases h1:decide (aI s f<0)
 ·refine Fr.br_f (by first|rfl|exact h1) ?_;have hi:=uac h1;refine Fr.need_ (qnd hi) ?_;cases h2:decide (qif f>IntKind.i64.wrap (4000000000000000000-(qe1 s (aI s f)).2.1))
  ·refine Fr.br_f (by first|rfl|exact h2) ?_;exact Fr.need_ hs.2.1 (Fr.need_ (qnd hi) ⟨trivial,rfl⟩)
  ·exact Fr.br_t (by first|rfl|exact h2) ⟨trivial,rfl⟩
 ·exact Fr.br_t (by first|rfl|exact h1) ⟨trivial,rfl⟩
theorem zwz:qa Tryz.prog 272 zpd:=
 conv (qg qqx (Λ:=qq) (fn:=Tryz.f272) (fr:=fun x=>qy3 x.2.1 x.1) (ps:=PDo) (rs:=[stateT,i64]) (dfP PDo) (by kernel_rfl) (fun c E _=>qe c 0) (fun x=>by kernel_rfl)) _ _ (fun _ _ x _ _ h=>zwy x.2.1 x.1 h)
def zpc:Ct:=⟨PDo,[stateT,i64],fun x=>((qfg x.2.1 x.1).1,(qfg x.2.1 x.1).2,()),fun x=>[yf x.2.1]⟩
def qy2 (s:stateT.den) (f:factT.den):Fr (qi [stateT,i64]):=
 Fr.br (decide (qe5 s (qao f).1≥0)) (Fr.val (s,8,())) (Fr.br (decide (((List.length (xb s):Nat):Int)≥2000)) (Fr.val (s,2,())) (Fr.br (!(lA s f).2) (Fr.val (s,7,()))
  (Fr.need (jj (lA s f).1.1) (Fr.need (wn s.1) (Fr.need nF (Fr.need ((xb s).length<=100000) (Fr.val (qxk s (qbe gId (xb s) (qao f,[],())),(qyp (lA s f).1.1 s.1 (qao f)).2,()))))))))
theorem zww (s:stateT.den) (f:factT.den) (hs:yf s):(qy2 s f).ok/\(qy2 s f).get=((qfg s f).1,(qfg s f).2,()):=by
 unfold qfg;cases h1:decide (qe5 s (qao f).1≥0)
 ·refine Fr.br_f (by first|rfl|exact h1) ?_;cases h2:decide (((List.length (xb s):Nat):Int)≥2000)
  ·refine Fr.br_f (by first|rfl|exact h2) ?_;cases h3 : !(lA s f).2
   ·refine Fr.br_f (by first|rfl|exact h3) ?_;exact Fr.need_ (zvu hs _) (Fr.need_ hs.1 (Fr.need_ (fun _ _=>trivial) (Fr.need_ hs.2.2.1 ⟨trivial,rfl⟩)))
   ·exact Fr.br_t (by first|rfl|exact h3) ⟨trivial,rfl⟩
  ·exact Fr.br_t (by first|rfl|exact h2) ⟨trivial,rfl⟩
 ·exact Fr.br_t (by first|rfl|exact h1) ⟨trivial,rfl⟩
theorem zwx:qa Tryz.prog 273 zpc:=
 conv (qg qqx (Λ:=qq) (fn:=Tryz.f273) (fr:=fun x=>qy2 x.2.1 x.1) (ps:=PDo) (rs:=[stateT,i64]) (dfP PDo) (by kernel_rfl) (fun c E _=>qe c 0) (fun x=>by kernel_rfl)) _ _ (fun _ _ x _ _ h=>zww x.2.1 x.1 h)
def zv1:Ct:=⟨PDo,[stateT,i64],fun x=>((qh0 x.2.1 x.1).1,(qh0 x.2.1 x.1).2,()),fun x=>[yf x.2.1]⟩
def zc5 (s:stateT.den) (f:factT.den):Fr (qi [stateT,i64]):=
 Fr.br (decide (gI s f<0)) (Fr.val (s,7,())) (Fr.need (0<=gI s f/\gI s f<((xb s).length:Int)) (Fr.need ((xb s).length<=100000) (Fr.need (0<=gI s f/\gI s f<((xb s).length:Int)) (Fr.val (qxk s ((xb s).set (gI s f).toNat (pG s f).1),(pG s f).2,())))))
theorem ybu (s:stateT.den) (f:factT.den) (hs:yf s):(zc5 s f).ok/\(zc5 s f).get=((qh0 s f).1,(qh0 s f).2,()):=by
 unfold qh0;cases h1:decide (gI s f<0)
 ·refine Fr.br_f (by first|rfl|exact h1) ?_;have hi:=uac h1;exact Fr.need_ (zpl hi) (Fr.need_ hs.2.2.1 (Fr.need_ (zpl hi) ⟨trivial,rfl⟩))
 ·exact Fr.br_t (by first|rfl|exact h1) ⟨trivial,rfl⟩
theorem ybv:qa Tryz.prog 284 zv1:=
 conv (qg qqx (Λ:=qq) (fn:=Tryz.f284) (fr:=fun x=>zc5 x.2.1 x.1) (ps:=PDo) (rs:=[stateT,i64]) (dfP PDo) (by kernel_rfl) (fun c E _=>qe c 0) (fun x=>by kernel_rfl)) _ _ (fun _ _ x _ _ h=>ybu x.2.1 x.1 h)
end Go.Proofs.YtgieagiaagoogaaGreat
