/- A part of the proof that the statement holds for every input that it names. No other condition. -/
import Derived.Test.YtmonfaepfbpdpaaUxTabAZ
import Derived.Test.YtmonfaepfbpdpaaUxNodAZ
import Derived.Test.YtmonfaepfbpdpaaPsAZ
import Derived.Test.YtmonfaepfbpdpaaUxWtAZ
set_option linter.unusedVariables false
set_option linter.unusedSimpArgs false
namespace Go.Proofs.Ytmonfaepfbpdpaa
open Go.RowKit
open Ux (i64B ND NRows nodV Nod KGrow SixAt)
theorem infoND:(Try.prog.info? 24).map (fun i=>(i.zero,i.size,i.bytes))=some (some (.agg #[.int .i64 0,.int .i64 0,.string ⟨#[]⟩,.string ⟨#[]⟩,.int .i64 0,.slice none 0 0]),6,80):=by kernel_rfl
def NLs (w:World) (A:Nat→Prop) (xs:List Value) (l:List Nod):Prop:= ∀i y,l[i]? =some y→∃u,xs[i*6]? =some (.int .i64 y.kind)∧xs[i*6+1]? =some (.int .i64 y.op)∧xs[i*6+2]? =some (.string y.s)∧xs[i*6+3]? =some (.string y.t)∧xs[i*6+4]? =some (.int .i64 y.n)∧xs[i*6+5]? =some u∧ND w A y (nodV y u)
theorem NLs.touch {R A:Nat→Prop} {w w':World} {xs:List Value} {l:List Nod} (h:NLs w A xs l) (T:Ux.Touch R w w') (hR: ∀g,g<w.heap.size→A g→¬R g):NLs w' A xs l:=fun i y hy=>by
 obtain ⟨u,h0,h1,h2,h3,h4,h5,hn⟩:=h i y hy
 exact ⟨u,h0,h1,h2,h3,h4,h5,hn.touch T hR⟩
theorem NLs.mono {A A':Nat→Prop} {w:World} {xs:List Value} {l:List Nod} (h:NLs w A xs l) (hA: ∀g,g<w.heap.size→A g→A' g):NLs w A' xs l:=fun i y hy=>by
 obtain ⟨u,h0,h1,h2,h3,h4,h5,hn⟩:=h i y hy
 exact ⟨u,h0,h1,h2,h3,h4,h5,hn.mono hA⟩
theorem NLs.append {A:Nat→Prop} {w:World} {xs ys:List Value} {l m:List Nod} (h:NLs w A xs l) (hx:xs.length=l.length*6) (h2:NLs w A ys m):NLs w A (xs++ys) (l++m):=fun i y hy=>by
 by_cases hk:i<l.length
 ·rw [List.getElem?_append_left hk] at hy
  obtain ⟨u,h0,h1,h2,h3,h4,h5,hn⟩:=h i y hy
  have key: ∀j y,xs[j]? =some y→(xs++ys)[j]? =some y:=fun j y hj=>by
   rw [List.getElem?_append_left (List.getElem?_eq_some_iff.1 hj).1]
   exact hj
  exact ⟨u,key _ _ h0,key _ _ h1,key _ _ h2,key _ _ h3,key _ _ h4,key _ _ h5,hn⟩
 ·rw [List.getElem?_append_right (by omega)] at hy
  obtain ⟨u,h0,h1,h2,h3,h4,h5,hn⟩:=h2 _ y hy
  have key: ∀d y,ys[(i-l.length)*6+d]? =some y→(xs++ys)[i*6+d]? =some y:=fun d y hj=>by
   rw [List.getElem?_append_right (by omega),hx,show i*6+d-l.length*6=(i-l.length)*6+d by omega]
   exact hj
  exact ⟨u,key 0 _ h0,key 1 _ h1,key 2 _ h2,key 3 _ h3,key 4 _ h4,key 5 _ h5,hn⟩
theorem NLs.nil (w:World) (A:Nat→Prop):NLs w A [] []:=fun i y hy=>by simp at hy
theorem NLs.one {A:Nat→Prop} {w:World} {y:Nod} {u:Value} (h:ND w A y (nodV y u)):NLs w A [.int .i64 y.kind,.int .i64 y.op,.string y.s,.string y.t,.int .i64 y.n,u] [y]:=fun i z hz=>by
 cases i with
 |zero=>cases hz;exact ⟨u,rfl,rfl,rfl,rfl,rfl,rfl,h⟩
 |succ i=>simp at hz
theorem NLs.one_cells {A:Nat→Prop} {w:World} {xs:List Value} {l:List Nod} (h:NLs w A xs l) (hx:xs.length=l.length*6): ∀u∈xs,u.oneCell'=true:=fun u hu=>by
 obtain ⟨j,hj,rfl⟩:=List.mem_iff_getElem.1 hu
 obtain ⟨u,h0,h1,h2,h3,h4,h5,hn⟩:=h (j/6) (l[j/6]'(by omega)) (List.getElem?_eq_getElem (by omega))
 obtain ⟨v,e,_,hr⟩:=hn.open
 obtain ⟨a,c,rfl,_⟩:=hr.is
 have hu:u= .slice a (l[j/6]'(by omega)).l.length c:=by unfold nodV at e;simpa using e
 have hm:j % 6=0∨j % 6=1∨j % 6=2∨j % 6=3∨j % 6=4∨j % 6=5:=by omega
 have key: ∀d y,j % 6=d→xs[j/6*6+d]? =some y→xs[j]=y:=fun d y hd hy=>by
  have e:j/6*6+d=j:=by omega
  rw [e,List.getElem?_eq_getElem hj] at hy
  exact Option.some.inj hy
 rcases hm with hm|hm|hm|hm|hm|hm
 ·rw [key 0 _ hm h0];rfl
 ·rw [key 1 _ hm h1];rfl
 ·rw [key 2 _ hm h2];rfl
 ·rw [key 3 _ hm h3];rfl
 ·rw [key 4 _ hm h4];rfl
 ·rw [key 5 _ hm h5,hu];rfl
def NGs (w:World) (lo:Nat) (A:Nat→Prop) (v:Value) (l:List Nod):Prop:= ∃xs,KGrow w lo 24 6 v l.length xs∧NLs w A xs l
theorem NGs.nil (w:World) (lo:Nat) (A:Nat→Prop):NGs w lo A (.slice none 0 0) []:=⟨[],KGrow.nil _ _ _ _,NLs.nil _ _⟩
theorem NGs.touch {R A:Nat→Prop} {w w':World} {lo:Nat} {v:Value} {l:List Nod} (h:NGs w lo A v l) (T:Ux.Touch R w w') (hR: ∀g,g<w.heap.size→(A g∨lo≤g)→¬R g):NGs w' lo A v l:=by
 obtain ⟨xs,h1,h2⟩:=h
 exact ⟨xs,⟨Ux.own_touch h1.1 T fun b hb=>hR b (Ux.own_lt h1.1 b hb) (.inr (h1.2 b hb)),h1.2⟩,h2.touch T fun g h3 h4=>hR g h3 (.inl h4)⟩
theorem NGs.touch0 {A:Nat→Prop} {w w':World} {lo:Nat} {v:Value} {l:List Nod} (h:NGs w lo A v l) (T:Ux.Touch (fun _=>False) w w'):NGs w' lo A v l:=h.touch T fun _ _ _ f=>f
theorem NGs.mono {A A':Nat→Prop} {w:World} {lo lo':Nat} {v:Value} {l:List Nod} (h:NGs w lo A v l) (hl:lo'≤lo) (hA: ∀g,g<w.heap.size→A g→A' g):NGs w lo' A' v l:=by
 obtain ⟨xs,h1,h2⟩:=h
 exact ⟨xs,h1.mono hl,h2.mono hA⟩
theorem NGs.is {A:Nat→Prop} {w:World} {lo:Nat} {v:Value} {l:List Nod} (h:NGs w lo A v l): ∃a c,v= .slice a l.length c∧l.length≤c:=by
 obtain ⟨xs,h1,_⟩:=h
 obtain ⟨a,c,rfl,_⟩:=h1.is
 exact ⟨a,c,rfl,h1.cap⟩
theorem NGs.app {A:Nat→Prop} {w:World} {lo:Nat} {v:Value} {l:List Nod} (h:NGs w lo A v l) (u:Value) (m:List Nod) (ys:List Value) (hs:Src Try.prog 6 22 u m.length ys w) (hy:NLs w A ys m) (hA: ∀g,g<w.heap.size→A g→v.ownBlock≠some g) (hlo:lo≤w.heap.size) (hk:l.length≤10000) (hm:m.length≤10000):
 ∃r w',(∀ty,(Builtin.append_ #[22,22] ty #[v,u]).run Try.prog w= .ok r w')∧NGs w' lo (fun g=>A g∧r.ownBlock≠some g) r (l++m)∧Ux.Touch (fun b=>lo≤b∧v.ownBlock=some b) w w'∧∀g,r.ownBlock=some g→v.ownBlock=some g∨w.heap.size≤g:=by
 obtain ⟨xs,h1,h2⟩:=h
 obtain ⟨r,w',e1,e2,e3,e4⟩:=h1.app' (P:=Try.prog) 22 80 _ Try.underlying22 infoND rfl (by omega) u m.length ys hs hlo (by simp only [maxLen];omega) (by omega)
 refine ⟨r,w',e1,⟨xs++ys,by rw [List.length_append];exact e2,((h2.append h1.len hy).mono (A':=fun g=>A g∧r.ownBlock≠some g) fun g h3 h4=>⟨h4,fun h6=> ?_⟩).touch e3 fun g h3 h4 h5=>hA g h3 h4.1 h5.2⟩,e3,fun g hg=> ?_⟩
 ·rcases e4 with e|⟨g',e,hg⟩
  ·rw [e] at h6
   exact hA g h3 h4 h6
  ·rw [e] at h6
   cases h6
   omega
 ·rcases e4 with e|⟨g',e,hg'⟩
  ·exact .inl (by rw [←e];exact hg)
  ·rw [e] at hg
   cases hg
   exact .inr hg'
theorem NGs.rows {A:Nat→Prop} {w:World} {lo:Nat} {v:Value} {l:List Nod} (h:NGs w lo A v l):NRows w (fun g=>A g∨lo≤g) l v:=by
 obtain ⟨xs,h1,h2⟩:=h
 obtain ⟨a,c,rfl,hc⟩:=h1.is
 refine ⟨a,c,rfl,h1.cap,fun i y hy=> ?_⟩
 obtain ⟨u,e0,e1,e2,e3,e4,e5,hn⟩:=h2 i y hy
 obtain ⟨g,rfl,hg,_⟩:=hc _ _ e0
 have key: ∀j y,xs[j]? =some y→w.cell? ⟨g,0+j,none⟩=some y:=fun j y hj=>by
  obtain ⟨g',e',_,c⟩:=hc _ _ hj
  cases e'
  rw [Nat.zero_add]
  exact c
 have hgl:g<w.heap.size:=Ux.own_lt h1.1 g rfl
 exact ⟨_,⟨g,0,_,_,_,_,_,_,rfl,.inr hg,hgl,rfl,key _ _ e0,key _ _ e1,key _ _ e2,key _ _ e3,key _ _ e4,key _ _ e5⟩,hn.mono fun g _ h=> .inl h⟩
theorem NRows.list {A:Nat→Prop} {w:World} {l:List Nod} {a:Option Addr} {n c:Nat} (h:NRows w A l (.slice a n c)): ∃xs,xs.length=l.length*6∧NLs w A xs l∧Src Try.prog 6 22 (.slice a l.length c) l.length xs w:=by
 obtain ⟨a',c',e,hl,hr⟩:=h
 cases e
 by_cases h0:l= []
 ·subst h0
  exact ⟨[],rfl,NLs.nil _ _,Ux.src_at Try.underlying22 6 0 c a [] rfl (fun u hu=>by simp at hu) (fun j u hj=>by simp at hj) (by omega)⟩
 ·have hpos:0<l.length:=List.length_pos_iff.2 h0
  obtain ⟨u0,⟨g,off,_,_,_,_,_,_,rfl,_⟩,_⟩:=hr 0 _ (List.getElem?_eq_getElem hpos)
  have hcell: ∀i y,l[i]? =some y→∃u,w.cell? ⟨g,off+i*6,none⟩=some (.int .i64 y.kind)∧w.cell? ⟨g,off+i*6+1,none⟩=some (.int .i64 y.op)∧w.cell? ⟨g,off+i*6+2,none⟩=some (.string y.s)∧w.cell? ⟨g,off+i*6+3,none⟩=some (.string y.t)∧w.cell? ⟨g,off+i*6+4,none⟩=some (.int .i64 y.n)∧w.cell? ⟨g,off+i*6+5,none⟩=some u∧ND w A y (nodV y u):=fun i y hy=>by
   obtain ⟨v,⟨g',off',y0,y1,y2,y3,y4,y5,e,_,_,rfl,c0,c1,c2,c3,c4,c5⟩,hn⟩:=hr i y hy
   cases e
   have hn':=hn
   obtain ⟨u,e,_,_⟩:=hn.open
   unfold nodV at e
   cases e
   exact ⟨_,c0,c1,c2,c3,c4,c5,hn'⟩
  have hsome: ∀j,j<l.length*6→∃v,w.cell? ⟨g,off+j,none⟩=some v:=fun j hj=>by
   obtain ⟨u,c0,c1,c2,c3,c4,c5,_⟩:=hcell (j/6) _ (List.getElem?_eq_getElem (by omega))
   have hm:j % 6=0∨j % 6=1∨j % 6=2∨j % 6=3∨j % 6=4∨j % 6=5:=by omega
   have ej:off+j=off+j/6*6+j % 6:=by omega
   rw [ej]
   rcases hm with hm|hm|hm|hm|hm|hm<;>rw [hm]
   ·exact ⟨_,c0⟩
   ·exact ⟨_,c1⟩
   ·exact ⟨_,c2⟩
   ·exact ⟨_,c3⟩
   ·exact ⟨_,c4⟩
   ·exact ⟨_,c5⟩
  obtain ⟨xs,hxs⟩: ∃xs,(List.range (l.length*6)).map (fun j=>(w.cell? ⟨g,off+j,none⟩).getD (.int .i64 0))=xs:=⟨_,rfl⟩
  have hlen:xs.length=l.length*6:=by rw [←hxs];simp
  have hget: ∀j v,j<l.length*6→w.cell? ⟨g,off+j,none⟩=some v→xs[j]? =some v:=fun j v hj hv=>by
   rw [←hxs,List.getElem?_map,List.getElem?_range hj]
   simp [hv]
  have hin: ∀{i:Nat} {y:Nod},l[i]? =some y→i<l.length:=fun hy=>(List.getElem?_eq_some_iff.1 hy).1
  have hnl:NLs w A xs l:=fun i y hy=>by
   obtain ⟨u,c0,c1,c2,c3,c4,c5,hn⟩:=hcell i y hy
   have:=hin hy
   exact ⟨u,hget _ _ (by omega) c0,hget _ _ (by omega) c1,hget _ _ (by omega) c2,hget _ _ (by omega) c3,hget _ _ (by omega) c4,hget _ _ (by omega) c5,hn⟩
  refine ⟨xs,hlen,hnl,Ux.src_at Try.underlying22 6 l.length c _ xs hlen (hnl.one_cells hlen) (fun j u hj=>⟨g,off,rfl,?_⟩) (by omega)⟩
  have hjl:j<l.length*6:=by have:=(List.getElem?_eq_some_iff.1 hj).1;omega
  obtain ⟨v,hv⟩:=hsome j hjl
  rw [hget j v hjl hv] at hj
  cases hj
  exact hv
end Go.Proofs.Ytmonfaepfbpdpaa
namespace Go.Proofs.Ytmonfaepfbpdpaa
open Go.RowKit
open Ux (i64B ND NRows nodV Nod KGrow SixAt)
set_option maxHeartbeats 4000000 in
set_option maxRecDepth 100000 in
theorem growN_ (n:Nat) (w:World) (A:Nat→Prop) (hn:n≤10000):Calls Try.prog 32 #[.slice none 0 0,.int .i64 (n:Int)] w fun e w'=> ∃v,e= .returned v∧NGs w' w.heap.size A v []∧Ux.Touch (fun _=>False) w w':=by
 by_cases h0:n=0
 ·subst h0
  go_enter Try.func32,Try.ntmps32
  go_wp2
  go_returns
  exact ⟨_,rfl,NGs.nil _ _ _,Ux.Touch.refl _ _⟩
 ·obtain ⟨i0,hi0,hz0⟩:=Option.map_eq_some_iff.1 infoND
  simp only [Prod.mk.injEq] at hz0
  obtain ⟨hz0,hz1,hz2⟩:=hz0
  obtain ⟨Z,hZ⟩: ∃Z,Value.agg #[.int .i64 0,.int .i64 0,.string ⟨#[]⟩,.string ⟨#[]⟩,.int .i64 0,.slice none 0 0]=Z:=⟨_,rfl⟩
  have hzs:Z.cells.size=6:=by rw [←hZ];rfl
  rw [hZ] at hz0
  have run:=fun ty=>Go.Lib.run_append_nil_zeros (P:=Try.prog) w 22 3 ty 24 i0 Z .i64 .i64 Try.underlying22 Try.underlying3 hi0 hz0 n (by omega) (by omega) (by omega) (by rw [hz2];omega)
  obtain ⟨W,hW⟩: ∃W,(w.drew.alloc (.cells (Builtin.zeroCells Z.cells n++Builtin.zeroCells Z.cells (grownCap w n 0 24-n)) 24))=W:=⟨_,rfl⟩
  rw [hW] at run
  have hge:=grownCap_ge w n 0 24
  have hle:=grownCap_le_maxLen w n 0 24 (Nat.le_trans hn (by decide))
  have hR:NGs W w.heap.size A (.slice (some ⟨w.heap.size,0,none⟩) 0 (grownCap w n 0 24)) []:=by
   refine ⟨[],⟨⟨rfl,.inr ⟨w.heap.size,_,_,rfl,Nat.zero_le _,by rw [←hW];exact heap_alloc_new w.drew _,Nat.zero_le _,hle,?_,rfl⟩⟩,fun b hb=>by cases hb;exact Nat.le_refl _⟩,NLs.nil _ _⟩
   rw [Array.size_append,size_zeroCells,size_zeroCells,hzs,←Nat.add_mul]
   congr 1
   omega
  have hT:Ux.Touch (fun _=>False) w W:=by rw [←hW];exact (Ux.Touch.refl _ w).drew.alloc _
  obtain ⟨K,hK⟩: ∃K,grownCap w n 0 24=K:=⟨_,rfl⟩
  rw [hK] at run hR
  have R:=Lib.hid run
  have H:=Lib.hid (And.intro hR hT)
  have n1:(0:Int)<n:=by omega
  have n2:0<n:=by omega
  clear run hR hT hge hK hW hz0 hz1 hz2 hi0 h0 hle hzs hZ
  go_enter Try.func32,Try.ntmps32
  go_wp2_with (at_builtin;refine Ux.wpList_app (v1:= .slice none 0 0) (x1:= .int .i64 (n:Int)) rfl _ _ _ _ rfl rfl rfl (R.out _) ?_)
  go_returns
  exact ⟨_,rfl,H.out.1,H.out.2⟩
set_option maxHeartbeats 4000000 in
set_option maxRecDepth 100000 in
theorem concatN_ (g:Nat) (va vb:Value) (x y:List Nod) (A:Nat→Prop) (w:World) (h0:w.cell? ⟨g,0,none⟩=some va) (h1:w.cell? ⟨g,1,none⟩=some vb) (hx:NRows w A x va) (hy:NRows w A y vb) (lx:x.length≤1000) (ly:y.length≤1000):
 Calls Try.prog 19 #[.slice (some ⟨g,0,none⟩) 2 2] w fun e w'=> ∃v,e= .returned v∧NGs w' w.heap.size A v (x++y)∧Ux.Touch (fun _=>False) w w':=by
 have hx:=hx.mono (A':=fun g=>A g∧g<w.heap.size) fun g hg hA=>⟨hA,hg⟩
 have hy:=hy.mono (A':=fun g=>A g∧g<w.heap.size) fun g hg hA=>⟨hA,hg⟩
 obtain ⟨a1,c1,rfl,_⟩:=hx.is
 obtain ⟨a2,c2,rfl,_⟩:=hy.is
 obtain ⟨n1,hn1⟩: ∃n,x.length=n:=⟨_,rfl⟩
 obtain ⟨n2,hn2⟩: ∃n,y.length=n:=⟨_,rfl⟩
 have HX:=Lib.hid (And.intro hx (And.intro hy (And.intro hn1 (And.intro hn2 (And.intro h0 h1)))))
 have HG:=Lib.hid (growN_ (n1+n2) w (fun g=>A g∧g<w.heap.size) (by omega))
 rw [hn1] at h0 lx
 rw [hn2] at h1 ly
 have k1:(n1:Int)≤1000:=by omega
 have k2:(n2:Int)≤1000:=by omega
 have k3:(0:Int)≤n1:=by omega
 have k4:(0:Int)≤n2:=by omega
 have k5: ¬((n1:Int)<0):=by omega
 have k6: ¬((n1:Int)+n2<0):=by omega
 rw [Int.natCast_add] at HG
 clear hx hy hn1 hn2 lx ly
 go_enter Try.func19,Try.ntmps19
 go_wp2
 refine wp_loop_rounds 3 ?_
 rw [rounds_succ]
 go_wp2
 rw [rounds_succ]
 go_wp2
 rw [rounds_succ]
 go_wp2_with (go_at_call 32;fail)
 refine HG.out.mono ?_
 rintro e w3 ⟨v0,rfl,hr0,T3⟩
 obtain ⟨a0,c0,hv0,_⟩:=hr0.is
 have hv0:v0= .slice a0 0 c0:=hv0
 subst hv0
 obtain ⟨hx,hy,hn1,hn2,d0,d1⟩:=HX.out
 rw [hn1] at d0
 rw [hn2] at d1
 have d0:=T3.cell d0 (fun f=>f)
 have d1:=T3.cell d1 (fun f=>f)
 have hx3:=hx.touch0 T3
 have hy3:=hy.touch0 T3
 obtain ⟨xs,hxl,hxn,hs1⟩:=NRows.list hx3
 have hb0: ∀gg,(Value.slice a0 0 c0).ownBlock=some gg→w.heap.size≤gg:=fun gg h=>by obtain ⟨zs,k1,_⟩:=hr0;exact k1.2 gg h
 obtain ⟨r4,w4,run4,hr4,T4,ho4⟩:=hr0.app _ x xs hs1 hxn (fun gg _ hA e=>by have:=hb0 gg e;omega) T3.size (Nat.zero_le _) (by omega)
 have hlt: ∀b,b<w.heap.size→¬(w.heap.size≤b∧(Value.slice a0 0 c0).ownBlock=some b):=fun b hb hh=>by have:=hh.1;omega
 have hgl:g<w.heap.size:=block_lt_of_cell HX.out.2.2.2.2.1
 have f0:=T4.cell d0 (hlt g hgl)
 have f1:=T4.cell d1 (hlt g hgl)
 have hy4:=hy3.touch T4 fun b _ hb=>hlt b hb.2
 obtain ⟨ys,hyl,hyn,hs2⟩:=NRows.list hy4
 have hb4: ∀gg,r4.ownBlock=some gg→w.heap.size≤gg:=fun gg h=>by obtain ⟨zs,k1,_⟩:=hr4;exact k1.2 gg h
 obtain ⟨a4,c4,rfl,_⟩:=hr4.is
 obtain ⟨r5,w5,run5,hr5,T5,ho5⟩:=(hr4.mono (A':=fun g=>A g∧g<w.heap.size) (Nat.le_refl _) fun g _ h=>h.1).app _ y ys hs2 hyn (fun gg _ hA e=>by have:=hb4 gg e;omega) (Nat.le_trans T3.size T4.size) (by rw [List.nil_append];omega) (by omega)
 have TT:Ux.Touch (fun _=>False) w w5:=(T3.trans T4 fun b hb h=>hlt b hb h).trans T5 fun b hb h=>by have:=h.1;omega
 rw [List.nil_append] at hr5 run5
 rw [hn1] at run4 run5
 rw [hn2] at run5
 have H5:=Lib.hid (And.intro (hr5.mono (A':=A) (Nat.le_refl _) fun g _ h=>h.1.1) TT)
 have R4:=Lib.hid run4
 have R5:=Lib.hid run5
 have hnil:([]++x:List Nod).length=n1:=by rw [List.nil_append,hn1]
 rw [hnil] at R4
 clear hx hy hn1 hn2 hx3 hy3 hs1 hr0 hr4 T4 hlt hgl hy4 hs2 hr5 T5 TT run4 run5 T3 h0 h1 hxl hxn hyl hyn hb0 hb4 ho4 ho5 hnil
 go_wp2
 refine wp_loop_rounds 3 ?_
 rw [rounds_succ]
 go_wp2_with (at_builtin;refine Ux.wpList_app (v1:= .slice a0 0 c0) (x1:= .slice a1 n1 c1) rfl _ _ _ _ rfl rfl rfl (R4.out _) ?_)
 rw [rounds_succ]
 go_wp2_with (at_builtin;refine Ux.wpList_app (v1:= .slice a4 n1 c4) (x1:= .slice a2 n2 c2) rfl _ _ _ _ rfl rfl rfl (R5.out _) ?_)
 rw [rounds_succ]
 go_wp2
 go_returns
 exact ⟨_,rfl,H5.out.1,H5.out.2⟩
theorem clipN_ (a:Option Addr) (n c:Nat) (w:World) (hn:n≤10000) (hc:n≤c):Calls Try.prog 18 #[.slice a n c] w fun e w'=>e= .returned (.slice a n n)∧w'=w:=by
 have k1:(n:Int)≤10000:=by omega
 have k2:(n:Int)≤c:=by omega
 go_enter Try.func18,Try.ntmps18
 go_wp2_with (fail)
 go_returns
 exact ⟨rfl,rfl⟩
end Go.Proofs.Ytmonfaepfbpdpaa
namespace Go.Proofs.Ytmonfaepfbpdpaa
open Go.RowKit
open Ux (i64B ND NRows nodV Nod KGrow SixAt)
def NAt (w:World) (A:Nat→Prop) (g off:Nat) (x:Nod):Prop:= ∃a c,w.cell? ⟨g,off,none⟩=some (.int .i64 x.kind)∧w.cell? ⟨g,off+1,none⟩=some (.int .i64 x.op)∧w.cell? ⟨g,off+2,none⟩=some (.string x.s)∧w.cell? ⟨g,off+3,none⟩=some (.string x.t)∧w.cell? ⟨g,off+4,none⟩=some (.int .i64 x.n)∧w.cell? ⟨g,off+5,none⟩=some (.slice a x.l.length c)∧ND w A x (nodV x (.slice a x.l.length c))∧A g∧g<w.heap.size
theorem NAt.touch {R A:Nat→Prop} {w w':World} {g off:Nat} {x:Nod} (h:NAt w A g off x) (T:Ux.Touch R w w') (hR: ∀g,g<w.heap.size→A g→¬R g):NAt w' A g off x:=by
 obtain ⟨a,c,c0,c1,c2,c3,c4,c5,hn,hA,hg⟩:=h
 have hr:=hR g hg hA
 exact ⟨a,c,T.cell c0 hr,T.cell c1 hr,T.cell c2 hr,T.cell c3 hr,T.cell c4 hr,T.cell c5 hr,hn.touch T hR,hA,Nat.lt_of_lt_of_le hg T.size⟩
theorem NAt.touch0 {A:Nat→Prop} {w w':World} {g off:Nat} {x:Nod} (h:NAt w A g off x) (T:Ux.Touch (fun _=>False) w w'):NAt w' A g off x:=h.touch T fun _ _ _ f=>f
theorem NAt.mono {A A':Nat→Prop} {w:World} {g off:Nat} {x:Nod} (h:NAt w A g off x) (hA: ∀g,g<w.heap.size→A g→A' g):NAt w A' g off x:=by
 obtain ⟨a,c,c0,c1,c2,c3,c4,c5,hn,h1,hg⟩:=h
 exact ⟨a,c,c0,c1,c2,c3,c4,c5,hn.mono hA,hA g hg h1,hg⟩
theorem NRows.nat {w:World} {A:Nat→Prop} {l:List Nod} {a:Option Addr} {n c:Nat} (h:NRows w A l (.slice a n c)) {i:Nat} {y:Nod} (hy:l[i]? =some y): ∃g off,a=some ⟨g,off,none⟩∧NAt w A g (off+i*6) y:=by
 obtain ⟨g,off,ua,uc,rfl,hA,hg,c0,c1,c2,c3,c4,c5,hn⟩:=h.at hy
 exact ⟨g,off,rfl,ua,uc,c0,c1,c2,c3,c4,c5,hn,hA,hg⟩
theorem NRows.single {w:World} {A:Nat→Prop} {g c:Nat} {x:Nod} (h:NAt w A g 0 x) (hc:1≤c):NRows w A [x] (.slice (some ⟨g,0,none⟩) 1 c):=by
 obtain ⟨a,c',c0,c1,c2,c3,c4,c5,hn,hA,hg⟩:=h
 refine ⟨_,c,rfl,hc,fun i y hy=> ?_⟩
 cases i with
 |zero=>cases hy;exact ⟨_,⟨g,0,_,_,_,_,_,_,rfl,hA,hg,rfl,c0,c1,c2,c3,c4,c5⟩,hn⟩
 |succ i=>simp at hy
theorem NAt.row {w:World} {A:Nat→Prop} {g:Nat} {x:Nod} {a:Option Addr} {c:Nat} (r:w.heap[g]? =some (.cells #[.int .i64 x.kind,.int .i64 x.op,.string x.s,.string x.t,.int .i64 x.n,.slice a x.l.length c] 24 (0,0))) (h:ND w A x (nodV x (.slice a x.l.length c))) (hA:A g):NAt w A g 0 x:=
 ⟨a,c,by rw [row6 r 0];rfl,by rw [row6 r];rfl,by rw [row6 r];rfl,by rw [row6 r];rfl,by rw [row6 r];rfl,by rw [row6 r];rfl,h,hA,Ux.lt_of_heap r⟩
theorem Nod.six_tests (x:Nod):x.two↔((x.kind !=6)=false∧(x.op !=18)=false∧((x.l.length:Int) !=2)=false):=by
 unfold Ux.Nod.two
 simp
 omega
theorem NRows.clip {w:World} {A:Nat→Prop} {l:List Nod} {a:Option Addr} {c:Nat} (h:NRows w A l (.slice a l.length c)):NRows w A l (.slice a l.length l.length):=by
 obtain ⟨a',c',e,hl,hr⟩:=h
 cases e
 exact ⟨a,l.length,rfl,Nat.le_refl _,hr⟩
def ConjR (A:Nat→Prop) (x:Nod) (w w':World) (e:Ending):Prop:= ∃v,e= .returned v∧NRows w' (fun b=>A b∨w.heap.size≤b) x.conj v∧Ux.Touch (fun _=>False) w w'
def ConjC (x:Nod):Prop:= ∀(A:Nat→Prop) (w:World) (g off:Nat),NAt w A g off x→x.conj.length≤1000→Calls Try.prog 7 #[.pointer (some ⟨g,off,none⟩)] w fun e w'=>ConjR A x w w' e
set_option maxHeartbeats 8000000 in
set_option maxRecDepth 100000 in
theorem pconj_ (x:Nod):ConjC x:=by
 obtain ⟨m,hm⟩: ∃m,SizeOf.sizeOf x=m:=⟨_,rfl⟩
 induction m using Nat.strongRecOn generalizing x with
 |_ m ih0=>
  have ih: ∀z:Nod,SizeOf.sizeOf z<SizeOf.sizeOf x→ConjC z:=fun z hz=>ih0 _ (by omega) z rfl
  clear ih0 hm
  intro A w g off h hlen
  have h0:=h
  obtain ⟨a,c,c0,c1,c2,c3,c4,c5,hn,hA,hg⟩:=h
  obtain ⟨v,e,hf,hr⟩:=hn.open
  obtain rfl:v= .slice a x.l.length c:=by unfold nodV at e;simpa using e.symm
  have hlc:x.l.length≤c:=by obtain ⟨a',c',e,hc⟩:=hr.is;cases e;exact hc
  obtain ⟨n,hnn⟩: ∃n,x.l.length=n:=⟨_,rfl⟩
  have n0:(n:Int)≤140737488355328:=by have:=hf.2.2.2.2.2;omega
  have n1:(n:Int)≤c:=by omega
  by_cases htwo:x.two
  ·obtain ⟨q1,q2,q3⟩:=(Nod.six_tests x).1 htwo
   obtain ⟨y0,hy0⟩: ∃y,x.l[0]? =some y:=⟨_,List.getElem?_eq_getElem (by have:=htwo.2.2;omega)⟩
   obtain ⟨y1,hy1⟩: ∃y,x.l[1]? =some y:=⟨_,List.getElem?_eq_getElem (by have:=htwo.2.2;omega)⟩
   obtain ⟨g2,off2,rfl,hat0⟩:=NRows.nat hr hy0
   obtain ⟨g2',off2',e',hat1⟩:=NRows.nat hr hy1
   obtain ⟨rfl,rfl⟩:g2=g2'∧off2=off2':=by cases e';exact ⟨rfl,rfl⟩
   have hcj:=Nod.conj_two htwo hy0 hy1
   obtain rfl:n=2:=by have:=htwo.2.2;omega
   rw [hnn] at q3 c5
   have hl01:y0.conj.length≤1000∧y1.conj.length≤1000:=by rw [hcj,List.length_append] at hlen;omega
   have HC0:=Lib.hid fun W (T:Ux.Touch (fun _=>False) w W)=>ih y0 (Ux.Nod.lt_l (List.mem_of_getElem? hy0)) A W g2 off2 ((show NAt w A g2 off2 y0 from hat0).touch0 T) hl01.1
   have HC1:=Lib.hid fun W (T:Ux.Touch (fun _=>False) w W)=>ih y1 (Ux.Nod.lt_l (List.mem_of_getElem? hy1)) A W g2 (off2+6) ((show NAt w A g2 (off2+6) y1 from hat1).touch0 T) hl01.2
   have HK:=Lib.hid (And.intro hcj (And.intro hlen hl01))
   have HS:=Lib.hid fun W (T:Ux.Touch (fun _=>False) w W)=>T.cell c5 (fun f=>f)
   clear htwo hy0 hy1 hat0 hat1 e' hcj hlen hl01 hn hf hr e h0 ih hnn hlc n0 c2 c3 c4 hA hg
   go_enter Try.func7,Try.ntmps7
   go_upto_region 5 with (fail)
   obtain ⟨wk,hwk⟩: ∃W,w.drew=W:=⟨_,rfl⟩
   have Tk:=Lib.hid (show Ux.Touch (fun _=>False) w wk by rw [←hwk];exact (Ux.Touch.refl _ _).drew)
   refine Ux.wpr (fun _ w'=>w'.cell? ⟨g,off+5,none⟩=some (.slice (some ⟨g2,off2,none⟩) 2 c)) (.q [0,1,2,6,7,8] (.h false [3,9] (.q [4,10] (.e 5 true false (.e 11 true false (.e 12 true false (.e 13 true false (.e 14 true false (.line [15]))))))))) ?_;repeat ((with_reducible refine Ux.qg ?_);refine Ux.qu ?_)
   go_wp2_with (go_at_call 7;fail)
   refine (HC0.out wk Tk.out).mono ?_
   rintro e wn ⟨v0,rfl,hv0,Tn⟩
   obtain ⟨a0,k0,rfl,hk0⟩:=hv0.is
   have hsz:=Tk.out.size
   have HV0:=Lib.hid (hv0.mono (A':=fun b=>A b∨w.heap.size≤b) fun b _ hb=>hb.imp_right fun h=>by omega)
   have Tk:=Lib.hid (Tk.out.trans Tn fun _ _ f=>f.elim)
   clear hv0 hk0 Tn hsz
   go_wp2_with (fail)
   obtain ⟨wk,rfl⟩: ∃W,W=wn:=⟨_,rfl⟩
   refine ⟨HS.out _ Tk.out,?_⟩
   go_wp2_with (go_at_call 7;fail)
   refine (HC1.out wk Tk.out).mono ?_
   rintro e wn ⟨v1,rfl,hv1,Tn⟩
   obtain ⟨a1,k1,rfl,hk1⟩:=hv1.is
   have hsz:=Tk.out.size
   have HV1:=Lib.hid (hv1.mono (A':=fun b=>A b∨w.heap.size≤b) fun b _ hb=>hb.imp_right fun h=>by omega)
   have HV0:=Lib.hid (HV0.out.touch0 Tn)
   have Tk:=Lib.hid (Tk.out.trans Tn fun _ _ f=>f.elim)
   clear hv1 hk1 Tn hsz
   go_wp2_with (fail)
   obtain ⟨wk,rfl⟩: ∃W,W=wn:=⟨_,rfl⟩
   obtain ⟨m0,hm0⟩: ∃n,y0.conj.length=n:=⟨_,rfl⟩
   obtain ⟨m1,hm1⟩: ∃n,y1.conj.length=n:=⟨_,rfl⟩
   rw [hm0,hm1]
   have HM:=Lib.hid (And.intro hm0 hm1)
   have HV0:=HV0
   clear hm0 hm1
   refine ⟨HS.out _ Tk.out,?_⟩
   obtain ⟨g9,hg9⟩: ∃X,wk.heap.size=X:=⟨_,rfl⟩
   obtain ⟨wn,hwn⟩: ∃W,wk.alloc (.cells #[.slice a0 m0 k0,.slice a1 m1 k1] 22)=W:=⟨_,rfl⟩
   have r9:wn.heap[g9]? =some (.cells #[.slice a0 m0 k0,.slice a1 m1 k1] 22 (0,0)):=by rw [←hwn,←hg9];exact heap_alloc_new wk _
   have Tn:Ux.Touch (fun _=>False) wk wn:=by rw [←hwn];exact (Ux.Touch.refl _ _).alloc _
   have e0:wn.cell? ⟨g9,0,none⟩=some (.slice a0 y0.conj.length k0):=by rw [cell_of_row wn g9 0 _ _ (0,0) r9,HM.out.1];rfl
   have e1:wn.cell? ⟨g9,1,none⟩=some (.slice a1 y1.conj.length k1):=by rw [cell_of_row wn g9 1 _ _ (0,0) r9,HM.out.2];rfl
   have HCC:=Lib.hid fun W (T:Ux.Touch (fun _=>False) wn W)=>concatN_ g9 _ _ y0.conj y1.conj (fun b=>A b∨w.heap.size≤b) W (T.cell e0 (fun f=>f)) (T.cell e1 (fun f=>f)) ((HV0.out.touch0 Tn).touch0 T) ((HV1.out.touch0 Tn).touch0 T) HK.out.2.2.1 HK.out.2.2.2
   have Tk:=Lib.hid (Tk.out.trans Tn fun _ _ f=>f.elim)
   clear r9 Tn e0 e1
   go_wp2_with (fail)
   clear hg9 hwn
   have T9:=Lib.hid (Ux.Touch.refl (fun _=>False) wn)
   obtain ⟨wk,rfl⟩: ∃W,W=wn:=⟨_,rfl⟩
   refine ⟨HS.out _ Tk.out,?_⟩
   go_wp2_with (go_at_call 19;fail)
   refine (HCC.out wk T9.out).mono ?_
   rintro e wn ⟨v2,rfl,hv2,Tn⟩
   obtain ⟨a2,k2,rfl,hk2⟩:=hv2.is
   obtain ⟨m2,hm2⟩: ∃n,(y0.conj++y1.conj).length=n:=⟨_,rfl⟩
   rw [hm2] at hk2 hv2⊢
   have hsz:=Tk.out.size
   have hm2':m2≤1000:=by have:=HK.out.2.1;rw [HK.out.1] at this;omega
   have HV2:=Lib.hid (And.intro (hv2.rows.mono (A':=fun b=>A b∨w.heap.size≤b) fun b _ hb=>by rcases hb with hb|hb;exact hb;exact .inr (by omega)) (And.intro hm2 (And.intro hk2 hm2')))
   have Tk:=Lib.hid (Tk.out.trans Tn fun _ _ f=>f.elim)
   clear hv2 hk2 Tn hsz hm2 hm2'
   go_wp2_with (fail)
   obtain ⟨wk,rfl⟩: ∃W,W=wn:=⟨_,rfl⟩
   have T9:=Lib.hid (Ux.Touch.refl (fun _=>False) wk)
   refine ⟨HS.out _ Tk.out,?_⟩
   go_wp2_with (go_at_call 18;fail)
   refine (clipN_ a2 m2 k2 wk (by have:=HV2.out.2.2.2;omega) HV2.out.2.2.1).mono ?_
   rintro e wn ⟨rfl,hw⟩
   obtain rfl:wk=wn:=hw.symm
   clear hw
   go_wp2_with (fail)
   refine ⟨HS.out _ Tk.out,?_⟩
   go_wp2_with (fail)
   go_returns
   exact ⟨_,rfl,by rw [HK.out.1];have h:=HV2.out.1;rw [←HV2.out.2.1] at h⊢;exact NRows.clip h,Tk.out⟩
  ·have hcj:=Nod.conj_one htwo
   rw [hnn] at c5
   have HN:=Lib.hid (And.intro hn (And.intro hnn hcj))
   have HW:=Lib.hid htwo
   clear h0 e hf hr hlc hn hcj hA hg ih hlen htwo
   obtain ⟨z0,hz0⟩: ∃b,(x.kind !=6)=b:=⟨_,rfl⟩
   cases z0 with
   |true=>
    obtain ⟨g9,hg9⟩: ∃X,w.heap.size=X:=⟨_,rfl⟩
    obtain ⟨wn,hwn⟩: ∃W,w.alloc (.cells #[.int .i64 x.kind,.int .i64 x.op,.string x.s,.string x.t,.int .i64 x.n,.slice a n c] 24)=W:=⟨_,rfl⟩
    have Tn:Ux.Touch (fun _=>False) w wn:=by rw [←hwn];exact (Ux.Touch.refl _ _).alloc _
    have r9:wn.heap[g9]? =some (.cells #[.int .i64 x.kind,.int .i64 x.op,.string x.s,.string x.t,.int .i64 x.n,.slice a x.l.length c] 24 (0,0)):=by rw [←hwn,←hg9,HN.out.2.1];exact heap_alloc_new w _
    have HR:=Lib.hid (And.intro (NRows.single (NAt.row r9 ((HN.out.1.touch0 Tn).mono (A':=fun b=>A b∨w.heap.size≤b) fun _ _ h=> .inl h) (.inr (by omega))) (Nat.le_refl 1)) Tn)
    clear Tn r9
    go_enter Try.func7,Try.ntmps7
    go_wp2_with (fail)
    go_returns
    exact ⟨_,rfl,by rw [HN.out.2.2];exact HR.out.1,HR.out.2⟩
   |false=>
    obtain ⟨z1,hz1⟩: ∃b,(x.op !=18)=b:=⟨_,rfl⟩
    cases z1 with
    |true=>
     obtain ⟨g9,hg9⟩: ∃X,w.heap.size=X:=⟨_,rfl⟩
     obtain ⟨wn,hwn⟩: ∃W,w.alloc (.cells #[.int .i64 x.kind,.int .i64 x.op,.string x.s,.string x.t,.int .i64 x.n,.slice a n c] 24)=W:=⟨_,rfl⟩
     have Tn:Ux.Touch (fun _=>False) w wn:=by rw [←hwn];exact (Ux.Touch.refl _ _).alloc _
     have r9:wn.heap[g9]? =some (.cells #[.int .i64 x.kind,.int .i64 x.op,.string x.s,.string x.t,.int .i64 x.n,.slice a x.l.length c] 24 (0,0)):=by rw [←hwn,←hg9,HN.out.2.1];exact heap_alloc_new w _
     have HR:=Lib.hid (And.intro (NRows.single (NAt.row r9 ((HN.out.1.touch0 Tn).mono (A':=fun b=>A b∨w.heap.size≤b) fun _ _ h=> .inl h) (.inr (by omega))) (Nat.le_refl 1)) Tn)
     clear Tn r9
     go_enter Try.func7,Try.ntmps7
     go_wp2_with (fail)
     go_returns
     exact ⟨_,rfl,by rw [HN.out.2.2];exact HR.out.1,HR.out.2⟩
    |false=>
     have hz2:((n:Int) !=2)=true:=by
      cases hb:((n:Int) !=2) with
      |true=>rfl
      |false=>exact absurd ((Nod.six_tests x).2 ⟨hz0,hz1,by rw [HN.out.2.1];exact hb⟩) HW.out
     obtain ⟨g9,hg9⟩: ∃X,w.heap.size=X:=⟨_,rfl⟩
     obtain ⟨wn,hwn⟩: ∃W,w.alloc (.cells #[.int .i64 x.kind,.int .i64 x.op,.string x.s,.string x.t,.int .i64 x.n,.slice a n c] 24)=W:=⟨_,rfl⟩
     have Tn:Ux.Touch (fun _=>False) w wn:=by rw [←hwn];exact (Ux.Touch.refl _ _).alloc _
     have r9:wn.heap[g9]? =some (.cells #[.int .i64 x.kind,.int .i64 x.op,.string x.s,.string x.t,.int .i64 x.n,.slice a x.l.length c] 24 (0,0)):=by rw [←hwn,←hg9,HN.out.2.1];exact heap_alloc_new w _
     have HR:=Lib.hid (And.intro (NRows.single (NAt.row r9 ((HN.out.1.touch0 Tn).mono (A':=fun b=>A b∨w.heap.size≤b) fun _ _ h=> .inl h) (.inr (by omega))) (Nat.le_refl 1)) Tn)
     clear Tn r9
     go_enter Try.func7,Try.ntmps7
     go_wp2_with (fail)
     go_returns
     exact ⟨_,rfl,by rw [HN.out.2.2];exact HR.out.1,HR.out.2⟩
end Go.Proofs.Ytmonfaepfbpdpaa
