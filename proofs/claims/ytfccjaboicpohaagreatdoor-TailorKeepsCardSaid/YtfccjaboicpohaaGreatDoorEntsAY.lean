/- A part of the proof that the statement holds for every input that it names. No other condition. -/
import Derived.Test.YtfccjaboicpohaaGreatDoorUxTabAY
import Derived.Test.YtfccjaboicpohaaGreatDoorTableBY
import Derived.Test.YtfccjaboicpohaaGreatDoorUxEntAY
import Derived.Test.YtfccjaboicpohaaGreatDoorShelf3Y
import Derived.Test.YtfccjaboicpohaaGreatDoorRefAY
set_option linter.unusedVariables false
set_option linter.unusedSimpArgs false
namespace Go.Proofs.YtfccjaboicpohaaGreatDoor
open Go.RowKit
open Ux (Ent cmpI cmpL or3 sv)
set_option maxHeartbeats 2000000 in
theorem nan_ (x:Int) (w:World):Calls Tryz.prog 161 #[.int .i64 x] w fun e w'=>e= .returned (.bool false)∧w'=w:=by
 go_enter Tryz.func161,Tryz.ntmps161
 have h:(x !=x)=false:=by simp
 go_wp2
 go_ret
 refine ⟨?_,rfl⟩
 first|rfl|simp
set_option maxHeartbeats 2000000 in
theorem cmpInt_ (x y:Int) (w:World):Calls Tryz.prog 112 #[.int .i64 x,.int .i64 y] w fun e w'=>e= .returned (.int .i64 (cmpI x y))∧w'=w:=by
 have hx:x<y∨y<x∨x=y:=by omega
 rcases hx with h|h|rfl
 ·have hc:cmpI x y= -1:=by unfold cmpI;rw [if_pos h]
  rw [hc]
  clear hc
  go_enter Tryz.func112,Tryz.ntmps112
  go_wp2_with (go_at_call 161;refine (nan_ _ _).mono ?_;rintro e w' ⟨rfl,rfl⟩)
  go_ret
  exact ⟨rfl,rfl⟩
 ·have hc:cmpI x y=1:=by unfold cmpI;rw [if_neg (by omega),if_pos h]
  have h2: ¬x<y:=by omega
  rw [hc]
  clear hc
  go_enter Tryz.func112,Tryz.ntmps112
  go_wp2_with (go_at_call 161;refine (nan_ _ _).mono ?_;rintro e w' ⟨rfl,rfl⟩)
  go_ret
  exact ⟨rfl,rfl⟩
 ·have hc:cmpI x x=0:=by unfold cmpI;rw [if_neg (by omega),if_neg (by omega)]
  rw [hc]
  clear hc
  go_enter Tryz.func112,Tryz.ntmps112
  go_wp2_with (go_at_call 161;refine (nan_ _ _).mono ?_;rintro e w' ⟨rfl,rfl⟩)
  go_ret
  exact ⟨rfl,rfl⟩
set_option maxHeartbeats 4000000 in
theorem or3_ (x y z:Int) (g:Nat) (w:World) (h0:w.cell? ⟨g,0,none⟩=some (.int .i64 x)) (h1:w.cell? ⟨g,1,none⟩=some (.int .i64 y)) (h2:w.cell? ⟨g,2,none⟩=some (.int .i64 z)):
 Calls Tryz.prog 111 #[.slice (some ⟨g,0,none⟩) 3 3] w fun e w'=>e= .returned (.int .i64 (or3 x y z))∧w'=w:=by
 obtain ⟨R,hR⟩: ∃R,or3 x y z=R:=⟨_,rfl⟩
 have HR:=Lib.hid hR
 rw [hR]
 clear hR
 go_enter Tryz.func111,Tryz.ntmps111
 go_wp2
 by_cases hx:x=0
 ·by_cases hy:y=0
  ·by_cases hz:z=0
   ·have hr:R=0:=by rw [←HR.out];unfold or3;rw [if_neg (by simp [hx]),if_neg (by simp [hy]),hz]
    subst hx hy hz hr
    go_rounds 4
    all_goals first|(go_ret;exact ⟨rfl,rfl⟩)|skip
   ·have hr:R=z:=by rw [←HR.out];unfold or3;rw [if_neg (by simp [hx]),if_neg (by simp [hy])]
    have q:(z !=0)=true:=by simp;exact hz
    subst hx hy hr
    go_rounds 3
    all_goals first|(go_ret;exact ⟨rfl,rfl⟩)|skip
  ·have hr:R=y:=by rw [←HR.out];unfold or3;rw [if_neg (by simp [hx]),if_pos hy]
   have q:(y !=0)=true:=by simp;exact hy
   subst hx hr
   go_rounds 3
   all_goals first|(go_ret;exact ⟨rfl,rfl⟩)|skip
 ·have hr:R=x:=by rw [←HR.out];unfold or3;rw [if_pos hx]
  have q:(x !=0)=true:=by simp;exact hx
  subst hr
  go_rounds 3
  all_goals first|(go_ret;exact ⟨rfl,rfl⟩)|skip
set_option maxHeartbeats 8000000 in
set_option maxRecDepth 100000 in
theorem cmpS_ (va vb:Value) (la lb:List Int) (w:World) (ha:IView w va la) (hb:IView w vb lb) (h1:la.length≤1000000000) (h2:lb.length≤1000000000):
 Calls Tryz.prog 113 #[va,vb] w fun e w'=>e= .returned (.int .i64 (cmpL la lb))∧w'=w:=by
 obtain ⟨a,ca,rfl,hca⟩:=ha
 obtain ⟨b,cb,rfl,hcb⟩:=hb
 obtain ⟨n,hn⟩: ∃n,la.length=n:=⟨_,rfl⟩
 obtain ⟨m,hm⟩: ∃m,lb.length=m:=⟨_,rfl⟩
 obtain ⟨R,hR⟩: ∃R,cmpL la lb=R:=⟨_,rfl⟩
 rw [hn] at h1⊢
 rw [hm] at h2⊢
 rw [hR]
 have n0:(n:Int)≤1000000000:=by omega
 have m0:(m:Int)≤1000000000:=by omega
 have HH:=Lib.hid (And.intro hca (And.intro hcb (And.intro hn hm)))
 have HR:=Lib.hid hR
 clear hca hcb hn hm hR h1 h2
 go_enter Tryz.func113,Tryz.ntmps113
 go_wp2
 go_loopg [11] n (fun g s11 wr=> ∃i:Nat,s11= .int .i64 i∧i+g=n∧wr=w∧i≤m∧Hid (cmpL (la.drop i) (lb.drop i)=R))
 case atStart=>exact ⟨0,rfl,by omega,rfl,by omega,Lib.hid HR.out⟩
 case round=>
  obtain ⟨i,rfl,hig,rfl,him,HI⟩:=hrel
  have p0:(0:Int)≤i:=by omega
  by_cases hlt:i<n
  ·obtain ⟨g',rfl⟩: ∃g',gk=g'+1:=⟨gk-1,by omega⟩
   have i1:(i:Int)<n:=by omega
   obtain ⟨x,hx⟩: ∃x,la[i]? =some x:=⟨_,List.getElem?_eq_getElem (by have:=HH.out.2.2.1;omega)⟩
   obtain ⟨ga,oa,rfl,c0⟩:=HH.out.1 i x hx
   by_cases hm2:i<m
   ·obtain ⟨y,hy⟩: ∃y,lb[i]? =some y:=⟨_,List.getElem?_eq_getElem (by have:=HH.out.2.2.2;omega)⟩
    obtain ⟨gb,ob,rfl,c1⟩:=HH.out.2.1 i y hy
    have hd:=Ux.cmpL_drop hx hy
    have i2:(i:Int)<m:=by omega
    have HC:=Lib.hid fun W=>cmpInt_ x y W
    obtain ⟨c,hc⟩: ∃c,cmpI x y=c:=⟨_,rfl⟩
    rw [hc] at HC hd
    have HD:=Lib.hid hd
    clear hd hx hy hlt hm2 hc
    by_cases h0:c=0
    ·subst h0
     go_wp2_with (go_at_call 112;refine (HC.out _).mono ?_;rintro e w' ⟨rfl,hw⟩;obtain rfl:wr=w':=hw.symm)
     go_roundg g'
     case measure=>omega
     case rel=>exact ⟨i+1,by congr 1,by omega,rfl,by omega,Lib.hid (by rw [←HI.out,HD.out];simp)⟩
    ·have q:(c !=0)=true:=by simp;exact h0
     have hr:R=c:=by rw [←HI.out,HD.out,if_neg h0]
     subst hr
     clear h0
     go_wp2_with (go_at_call 112;refine (HC.out _).mono ?_;rintro e w' ⟨rfl,hw⟩;obtain rfl:wr=w':=hw.symm)
     go_ret
     exact ⟨rfl,rfl⟩
   ·have hr:R=1:=by rw [←HI.out];exact Ux.cmpL_over hx (by have:=HH.out.2.2.2;omega)
    have i2: ¬(i:Int)<m:=by omega
    subst hr
    clear hx hlt hm2
    go_wp2
    go_ret
    exact ⟨rfl,rfl⟩
  ·have q1: ¬(i:Int)<n:=by omega
   obtain rfl:i=n:=by omega
   have he:=Ux.cmpL_end (a:=la) (b:=lb) (i:=i) HH.out.2.2.1 (by have:=HH.out.2.2.2;omega)
   rw [HI.out,HH.out.2.2.2] at he
   by_cases hm2:i<m
   ·rw [if_pos hm2] at he
    have i2:(i:Int)<m:=by omega
    subst he
    clear hlt hm2 HI
    go_wp2
    go_ret
    exact ⟨rfl,rfl⟩
   ·rw [if_neg hm2] at he
    have i2: ¬(i:Int)<m:=by omega
    subst he
    clear hlt hm2 HI
    go_wp2
    go_ret
    exact ⟨rfl,rfl⟩
end Go.Proofs.YtfccjaboicpohaaGreatDoor
namespace Go.Proofs.YtfccjaboicpohaaGreatDoor
open Go.RowKit
open Go.RowKit Go.Sort
open Ux (Ent cmpI cmpL or3 cfE fst0 sv)
def Grew (w w':World):Prop:= ∃q os,w'=grow (w.drewN q) os
theorem Grew.refl (w:World):Grew w w:=⟨0,#[],by simp [grow];rfl⟩
theorem Grew.drew {w w':World} (h:Grew w w'):Grew w w'.drew:=by
 obtain ⟨q,os,rfl⟩:=h
 exact ⟨q+1,os,rfl⟩
theorem Grew.alloc {w w':World} (h:Grew w w') (o:Obj):Grew w (w'.alloc o):=by
 obtain ⟨q,os,rfl⟩:=h
 exact ⟨q,os++ #[o],by rw [alloc_eq_grow,grow_grow]⟩
theorem Grew.touch {w w':World} (h:Grew w w'):Ux.Touch (fun _=>False) w w':=by
 obtain ⟨q,os,rfl⟩:=h
 refine ⟨rfl,rfl,rfl,by simp [grow],fun k hk _=> ?_⟩
 show (w.heap++os)[k]? =w.heap[k]?
 rw [Array.getElem?_append_left hk]
set_option maxHeartbeats 8000000 in
set_option maxRecDepth 100000 in
theorem clos_ (a1 a2 b1 b2:Option Addr) (m1 c1 m2 c2 k1 d1 k2 d2:Nat) (a b:List Nat) (w:World) (ha:SView w (.slice a1 m1 c1) a) (hb:SView w (.slice b1 k1 d1) b) (h0:1≤a.length) (h0':1≤b.length) (h3:a.length≤3) (h3':b.length≤3):
 Calls Tryz.prog 110 #[.agg #[.slice a1 m1 c1,.slice a2 m2 c2],.agg #[.slice b1 k1 d1,.slice b2 k2 d2]] w fun e w'=>e= .returned (.int .i64 (cfE a b))∧Grew w w':=by
 have hav:=ha
 have hbv:=hb
 obtain ⟨_,_,ea,hca⟩:=ha
 obtain ⟨_,_,eb,hcb⟩:=hb
 cases ea
 cases eb
 obtain ⟨x0,hx0⟩: ∃x,a[0]? =some x:=⟨_,List.getElem?_eq_getElem (by omega)⟩
 obtain ⟨y0,hy0⟩: ∃x,b[0]? =some x:=⟨_,List.getElem?_eq_getElem (by omega)⟩
 have ex:fst0 a=x0:=by
  cases a with
  |nil=>cases hx0
  |cons z la=>exact Option.some.inj hx0
 have ey:fst0 b=y0:=by
  cases b with
  |nil=>cases hy0
  |cons z la=>exact Option.some.inj hy0
 obtain ⟨ga,oa,rfl,e0⟩:=hca 0 x0 hx0
 obtain ⟨gb,ob,rfl,f0⟩:=hcb 0 y0 hy0
 rw [Nat.add_zero] at e0 f0
 obtain ⟨n,hn⟩: ∃n,a.length=n:=⟨_,rfl⟩
 obtain ⟨m,hm⟩: ∃m,b.length=m:=⟨_,rfl⟩
 rw [hn] at hav h0 h3⊢
 rw [hm] at hbv h0' h3'⊢
 have hcf:cfE a b=or3 (cmpI x0 y0) (cmpI n m) (cmpL (sv a) (sv b)):=by unfold cfE;rw [ex,ey,hn,hm];rfl
 obtain ⟨X,hX⟩: ∃X,cmpI x0 y0=X:=⟨_,rfl⟩
 obtain ⟨Y,hY⟩: ∃Y,cmpI (n:Int) m=Y:=⟨_,rfl⟩
 obtain ⟨Z,hZ⟩: ∃Z,cmpL (sv a) (sv b)=Z:=⟨_,rfl⟩
 rw [hX,hY,hZ] at hcf
 rw [hcf]
 have n1:(1:Int)≤n:=by omega
 have m1:(1:Int)≤m:=by omega
 obtain ⟨q,hq⟩: ∃q,w.heap.size=q:=⟨_,rfl⟩
 have T2:Ux.Touch (fun _=>False) w ((w.alloc (.cells #[.slice (some ⟨ga,oa,none⟩) n c1,.slice a2 m2 c2] 131)).alloc (.cells #[.slice (some ⟨gb,ob,none⟩) m d1,.slice b2 k2 d2] 131)):=((Ux.Touch.refl _ _).alloc _).alloc _
 have hG:Grew w ((w.alloc (.cells #[.slice (some ⟨ga,oa,none⟩) n c1,.slice a2 m2 c2] 131)).alloc (.cells #[.slice (some ⟨gb,ob,none⟩) m d1,.slice b2 k2 d2] 131)):=((Grew.refl _).alloc _).alloc _
 have p0:((w.alloc (.cells #[.slice (some ⟨ga,oa,none⟩) n c1,.slice a2 m2 c2] 131)).alloc (.cells #[.slice (some ⟨gb,ob,none⟩) m d1,.slice b2 k2 d2] 131)).cell? ⟨q,0,none⟩=some (.slice (some ⟨ga,oa,none⟩) n c1):=by
  have T1:=(Ux.Touch.refl (fun _=>False) (w.alloc (.cells #[.slice (some ⟨ga,oa,none⟩) n c1,.slice a2 m2 c2] 131))).alloc (.cells #[.slice (some ⟨gb,ob,none⟩) m d1,.slice b2 k2 d2] 131)
  exact T1.cell (by rw [←hq,Ux.cell_newg];rfl) (fun f=>f)
 have p1:((w.alloc (.cells #[.slice (some ⟨ga,oa,none⟩) n c1,.slice a2 m2 c2] 131)).alloc (.cells #[.slice (some ⟨gb,ob,none⟩) m d1,.slice b2 k2 d2] 131)).cell? ⟨q+1,0,none⟩=some (.slice (some ⟨gb,ob,none⟩) m d1):=by
  have:=Ux.cell_newg (w.alloc (.cells #[.slice (some ⟨ga,oa,none⟩) n c1,.slice a2 m2 c2] 131)) #[.slice (some ⟨gb,ob,none⟩) m d1,.slice b2 k2 d2] 131 0
  rw [World.size_alloc,hq] at this
  rw [this]
  rfl
 have p2:=T2.cell e0 (fun f=>f)
 have p3:=T2.cell f0 (fun f=>f)
 have HV:=Lib.hid (And.intro hav (And.intro hbv (And.intro T2 hG)))
 have HZ:=Lib.hid (And.intro hX (And.intro hY hZ))
 have HL:=Lib.hid (And.intro hn (And.intro hm (And.intro h3 h3')))
 clear hcf ex ey e0 f0 hx0 hy0 hav hbv T2 hG hn hm hca hcb h0 h0' h3 h3' hX hY hZ
 go_enter Tryz.func110,Tryz.ntmps110
 go_upto_region 1 with (fail)
 generalize (w.alloc (Obj.cells #[Value.slice (some ⟨ga,oa,none⟩) n c1,Value.slice a2 m2 c2] 131)).alloc (Obj.cells #[Value.slice (some ⟨gb,ob,none⟩) m d1,Value.slice b2 k2 d2] 131)=W2 at p0 p1 p2 p3 HV⊢
 have HC:=Lib.hid fun W (T:Ux.Touch (fun _=>False) W2 W)=>And.intro (T.cell p0 (fun f=>f)) (And.intro (T.cell p1 (fun f=>f)) (And.intro (T.cell p2 (fun f=>f)) (T.cell p3 (fun f=>f))))
 refine Ux.wpr (fun _ w'=>w'.cell? ⟨q,0,none⟩=some (.slice (some ⟨ga,oa,none⟩) n c1)∧w'.cell? ⟨q+1,0,none⟩=some (.slice (some ⟨gb,ob,none⟩) m d1)∧w'.cell? ⟨ga,oa,none⟩=some (.int .i64 (x0:Int))∧w'.cell? ⟨gb,ob,none⟩=some (.int .i64 (y0:Int))) (.q [0,4,9,12,16,18] (.h false [1,5,10,13,17,19] (.q [2,6,11,14] (.h false [3,7] (.e 8 true false (.e 15 true false (.e 20 true false (.e 21 true false (.e 22 true false (.line [23])))))))))) ?_;repeat ((with_reducible refine Ux.qg ?_);refine Ux.qu ?_)
 clear p0 p1 p2 p3
 have T0:=Lib.hid (Ux.Touch.refl (fun _=>False) W2).drew
 have HA:=Lib.hid fun W=>cmpInt_ x0 y0 W
 have HB:=Lib.hid fun W=>cmpInt_ n m W
 have HS:=Lib.hid fun W (T:Ux.Touch (fun _=>False) w W)=>cmpS_ _ _ (sv a) (sv b) W (HV.out.1.i.touch0 T) (HV.out.2.1.i.touch0 T) (by rw [Ux.sv_length];have:=HL.out.2.2.1;have:=HL.out.1;omega) (by rw [Ux.sv_length];have:=HL.out.2.2.2;have:=HL.out.2.1;omega)
 rw [HZ.out.1] at HA
 rw [HZ.out.2.1] at HB
 rw [HZ.out.2.2] at HS
 go_wp2_with (go_at_call 112;fail)
 refine (HA.out _).mono ?_
 rintro e w' ⟨rfl,hw⟩
 obtain rfl:=hw
 go_wp2_with (fail)
 refine ⟨HC.out _ T0.out,?_⟩
 go_wp2_with (go_at_call 112;fail)
 refine (HB.out _).mono ?_
 rintro e w' ⟨rfl,hw⟩
 obtain rfl:=hw
 go_wp2_with (fail)
 refine ⟨HC.out _ T0.out,?_⟩
 go_wp2_with (go_at_call 113;fail)
 refine (HS.out _ (HV.out.2.2.1.trans T0.out fun _ _ f=>f)).mono ?_
 rintro e w' ⟨rfl,hw⟩
 obtain rfl:=hw
 go_wp2_with (fail)
 refine ⟨HC.out _ T0.out,?_⟩
 have T1:=Lib.hid ((Ux.Touch.refl (fun _=>False) W2).alloc (.cells #[.int .i64 X,.int .i64 Y,.int .i64 Z] 3)).drew
 have HO:=Lib.hid (or3_ X Y Z W2.heap.size (W2.alloc (.cells #[.int .i64 X,.int .i64 Y,.int .i64 Z] 3)).drew (by rw [World.cell?_drew,Ux.cell_newg];rfl) (by rw [World.cell?_drew,Ux.cell_newg];rfl) (by rw [World.cell?_drew,Ux.cell_newg];rfl))
 go_wp2_with (fail)
 refine ⟨HC.out _ T1.out,?_⟩
 go_wp2_with (go_at_call 111;fail)
 refine HO.out.mono ?_
 rintro e w' ⟨rfl,hw⟩
 obtain rfl:=hw
 go_wp2_with (fail)
 refine ⟨HC.out _ T1.out,?_⟩
 go_wp2
 go_ret
 exact ⟨rfl,(HV.out.2.2.2.alloc _).drew⟩
end Go.Proofs.YtfccjaboicpohaaGreatDoor
namespace Go.Proofs.YtfccjaboicpohaaGreatDoor
open Go.RowKit
open Go.RowKit Go.Sort Go.Shelf
open Ux (Row iv sv Ent k3 kl3 okS okE ev TabMap Tells okT RangeIs EP blkOf EntsAt OutAt EArr flatP SortedE befE)
open Ux.Sign (cp raw)
theorem infoN:(Tryz.prog.info? 131).map (fun i=>(i.zero,i.size,i.bytes))=some (some (.agg #[.slice none 0 0,.slice none 0 0]),2,48):=by kernel_rfl
theorem clipN_ (a:Option Addr) (n c:Nat) (w:World) (h:n≤c) (ha:(∃g,a=some ⟨g,0,none⟩)∨(a=none∧n=0∧c=0)):Calls Tryz.prog 114 #[.slice a n c] w fun e w'=>e= .returned (.slice a n n)∧w'=w:=by
 rcases ha with ⟨g,rfl⟩|⟨rfl,rfl,rfl⟩
 ·go_enter Tryz.func114,Tryz.ntmps114
  go_wp2
  go_ret
  exact ⟨rfl,rfl⟩
 ·go_enter Tryz.func114,Tryz.ntmps114
  go_wp2
  go_ret
  exact ⟨rfl,rfl⟩
theorem egC: ∀args w,(callFunc 110 args).run Tryz.prog w= .ok (.enter 110 args) w:=enters_of Tryz.func110 (by kernel_rfl) rfl
theorem EntsAt.mono {w:World} {lo lo':Nat} {tI tE:TypeId} {P:List EP} (h:EntsAt w lo tI tE P) (hl:lo'≤lo):EntsAt w lo' tI tE P:=⟨fun p hp=>⟨(h.1 p hp).1.mono hl,(h.1 p hp).2.1.mono hl,(h.1 p hp).2.2⟩,h.2⟩
set_option maxHeartbeats 4000000 in
theorem sortE_ (v:Value) (lo:Nat) (P:List EP) (w:World) (h:OutAt w lo 3 56 131 v P) (hk: ∀p∈P,1≤p.2.2.1.length∧p.2.2.1.length≤3) (hn:(P.map (·.2.2.1)).Nodup) (hl:P.length≤1000000):
 Calls Tryz.prog 109 #[v,.func (.func 110) #[] #[]] w fun e w'=>e= .returned (.tuple #[])∧∃a n c P',v= .slice a n c∧n=P.length∧n≤c∧((∃g,a=some ⟨g,0,none⟩)∨(a=none∧n=0∧c=0))∧P.Perm P'∧SortedE (P'.map (·.2.2))∧
  EArr w' lo 3 56 (.slice a n n) P'∧Ux.Touch (fun b=>lo≤b) w w':=by
 obtain ⟨hG,hE,hD⟩:=h
 rcases hG.1.2 with ⟨rfl,h0⟩|⟨blk,cap,cur,rfl,_,hh,hnc,hcm,hcs,htk⟩
 ·have hP:P= []:=List.eq_nil_of_length_eq_zero h0
  subst hP
  have hcon:=AnyF.slices_SortFunc_none Tryz.sortT none 0 (.func (.func 110) #[] #[]) w
  change Calls Tryz.prog 109 _ _ _ at hcon
  refine hcon.mono ?_
  rintro e w' ⟨rfl,rfl⟩
  refine ⟨rfl,none,0,0,[],rfl,rfl,Nat.le_refl _,.inr ⟨rfl,rfl,rfl⟩,List.Perm.refl _,List.Pairwise.nil,⟨EntsAt.nil _ _ _ _,none,rfl,fun i p hp=>by simp at hp,fun p hp=>by cases hp⟩,Ux.Touch.refl _ _⟩
 ·have hlo:lo≤blk:=hG.2 blk rfl
  have hbl:blk<w.heap.size:=Ux.lt_of_heap hh
  by_cases hP0:P= []
  ·subst hP0
   have hcon:=AnyF.slices_SortFunc_none Tryz.sortT (some ⟨blk,0,none⟩) cap (.func (.func 110) #[] #[]) w
   change Calls Tryz.prog 109 _ _ _ at hcon
   refine hcon.mono ?_
   rintro e w' ⟨rfl,rfl⟩
   refine ⟨rfl,_,0,cap,[],rfl,rfl,Nat.zero_le _,.inl ⟨_,rfl⟩,List.Perm.refl _,List.Pairwise.nil,⟨EntsAt.nil _ _ _ _,_,rfl,fun i p hp=>by simp at hp,fun p hp=>by cases hp⟩,Ux.Touch.refl _ _⟩
  ·have hgood: ∀p∈P,Ux.GoodP w blk 3 p:=fun p hp=>by
    obtain ⟨h1,h2,h3⟩:=hE.1 p hp
    exact ⟨h1.lit,h2.lit,(hk p hp).1,(hk p hp).2,fun W hW=>(h1.mono (Nat.zero_le _)).touch hW fun b _ hb e=>hD p hp b (.inl hb) (by rw [e];rfl)⟩
   obtain ⟨p0,hp0⟩: ∃p,p∈P:=List.exists_mem_of_ne_nil P hP0
   letI:Inhabited (Ux.SP w blk 3):=⟨⟨p0,hgood p0 hp0⟩⟩
   obtain ⟨d,hd⟩: ∃d:Array (Ux.SP w blk 3),d.toList.map (·.1)=P:=⟨(P.attachWith (Ux.GoodP w blk 3) hgood).toArray,by simp [List.attach_map_subtype_val]⟩
   have hds:d.size=P.length:=by rw [←hd];simp
   have hcell: ∀(i:Nat) (p:Ux.SP w blk 3),d.toList[i]? =some p→P[i]? =some p.1:=fun i p hp=>by rw [←hd,List.getElem?_map,hp];rfl
   have hH:HoldsK (Ux.encP w blk 3) 2 w blk 0 d:=by
    intro j hj
    rw [size_flatK] at hj
    have hfz:w.frozen? ⟨blk,0+j,none⟩=false:=Ux.frozen_row hh _
    refine ⟨?_,hfz⟩
    obtain ⟨p,hp⟩: ∃p,d.toList[j/2]? =some p:=⟨_,List.getElem?_eq_getElem (by simp;omega)⟩
    have h1:=Ux.flatP_flatK d (j/2) p hp
    have h2:=Ux.flatP_get (hcell _ _ hp)
    rcases Nat.mod_two_eq_zero_or_one j with h|h
    ·have e:j=j/2*2:=by omega
     rw [Nat.zero_add]
     conv=>rhs;rw [e,h1.1]
     exact Ux.row_cell hh htk j _ (by rw [e];exact h2.1)
    ·have e:j=j/2*2+1:=by omega
     rw [Nat.zero_add]
     conv=>rhs;rw [e,h1.2]
     exact Ux.row_cell hh htk j _ (by rw [e];exact h2.2)
   have hcmp:CmpLays Tryz.prog 110 #[] (Ux.encP w blk 3) 2 (Ux.cfP w blk 3) blk 0 d.size w:=by
    intro m os dk hs x y
    obtain ⟨⟨a1,m1,c1,e1⟩,⟨a2,m2,c2,e2⟩,hx1,hx3,hxr⟩:=x.2
    obtain ⟨⟨b1,n1,d1,f1⟩,⟨b2,n2,d2,f2⟩,hy1,hy3,hyr⟩:=y.2
    have hT:=Ux.touch_sortWorldK (Ux.encP w blk 3) 2 w blk 0 m dk os
    have h1:=(IView.row (hxr _ hT)).s
    have h2:=(IView.row (hyr _ hT)).s
    rw [e1] at h1
    rw [f1] at h2
    have h:=clos_ a1 a2 b1 b2 m1 c1 m2 c2 n1 d1 n2 d2 x.1.2.2.1 y.1.2.2.1 _ h1 h2 hx1 hy1 hx3 hy3
    show Calls Tryz.prog 110 #[.agg #[x.1.1,x.1.2.1],.agg #[y.1.1,y.1.2.1]] _ _
    rw [e1,e2,f1,f2]
    exact h
   have hcon:=AnyQ.slices_SortFunc Tryz.sortT 2 Tryz.isAgg131 Tryz.sizeOf131 (Ux.encP w blk 3) (fun _=>rfl) (fun x v hv=>by
    obtain ⟨a1,m1,c1,h1⟩:=x.2.1
    obtain ⟨a2,m2,c2,h2⟩:=x.2.2.1
    unfold Ux.encP at hv
    rcases List.mem_cons.1 hv with rfl|hv
    ·rw [h1];rfl
    ·rw [List.mem_singleton.1 hv,h2];rfl) (Ux.cfP w blk 3) (Ux.swoP w blk 3) 110 #[] blk 0 cap d w egC hcmp hH hbl (by omega)
   change Calls Tryz.prog 109 _ _ _ at hcon
   rw [hds] at hcon
   refine hcon.mono ?_
   rintro e w' ⟨rfl,d',n,os,hp,hs,rfl⟩
   have hsz:=hp.1
   have hperm:d'.toList.Perm d.toList:=by
    have:=hp.2.2
    rw [show (d'.extract 0 P.length)=d' by rw [←hds,←hsz];exact Array.extract_size,show (d.extract 0 P.length)=d by rw [←hds];exact Array.extract_size] at this
    exact this
   have hPP:P.Perm (d'.toList.map (·.1)):=by
    have:=(hperm.map (·.1)).symm
    rw [hd] at this
    exact this
   have hT:=Ux.touch_sortWorldK (Ux.encP w blk 3) 2 w blk 0 n d' os
   have hH':=holdsK_sortWorldK_c (Ux.encP w blk 3) 2 w blk 0 d d' n os hH hbl hsz
   have hE':=(hE.touch hT fun p hp b hb e=>hD p hp b hb (by rw [e];rfl)).perm hPP
   have hlen:(d'.toList.map (·.1)).length=P.length:=hPP.length_eq.symm
   refine ⟨rfl,_,_,cap,_,rfl,rfl,hnc,.inl ⟨_,rfl⟩,hPP,?_,⟨hE',_,by rw [hlen],fun i p hi=> ?_,fun p hp b hb=> ?_⟩,hT.mono fun b _ e=>by omega⟩
   ·unfold SortedE
    rw [List.pairwise_map,List.pairwise_map,List.pairwise_iff_getElem]
    intro i j hi hj hij
    have hi2:i<d'.size:=by simpa using hi
    have hj2:j<d'.size:=by simpa using hj
    have h1:=hs i j (Nat.zero_le _) hij (by omega)
    rw [Ux.cfP_lt,getElem!_pos d' j hj2,getElem!_pos d' i hi2] at h1
    have hne:(d'.toList[i]).1.2.2.1≠(d'.toList[j]).1.2.2.1:=fun e=>by
     have hnd:((d'.toList.map (·.1)).map (·.2.2.1)).Nodup:=(hPP.map (·.2.2.1)).nodup_iff.1 hn
     rw [List.map_map] at hnd
     unfold List.Nodup at hnd
     rw [List.pairwise_map,List.pairwise_iff_getElem] at hnd
     exact hnd i j hi hj hij e
    rcases Ux.befE_total hne with h2|h2
    ·exact h2
    ·have h3:befE d'[j].1.2.2.1 d'[i].1.2.2.1=true:=by simpa using h2
     rw [h3] at h1
     cases h1
   ·rw [List.getElem?_map] at hi
    obtain ⟨q,hq,rfl⟩:=Option.map_eq_some_iff.1 hi
    have hiq:i<d'.size:=by
     have:=(List.getElem?_eq_some_iff.1 hq).1
     simpa using this
    have h1:=Ux.flatP_flatK d' i q hq
    have c0:=(hH' (i*2) (by rw [size_flatK];omega)).1
    have c1:=(hH' (i*2+1) (by rw [size_flatK];omega)).1
    rw [h1.1,Nat.zero_add] at c0
    rw [h1.2,Nat.zero_add] at c1
    exact ⟨blk,rfl,hlo,c0,c1⟩
   ·exact hD p (hPP.mem_iff.2 hp) b hb
end Go.Proofs.YtfccjaboicpohaaGreatDoor
namespace Go.Proofs.YtfccjaboicpohaaGreatDoor
open Go.RowKit
open Go.RowKit Go.Sort Go.Shelf
open Ux (Row iv sv Ent k3 kl3 okS okE ev TabMap Tells okT RangeIs EP blkOf EntsAt OutAt EArr flatP SortedE befE)
open Ux.Sign (cp raw)
set_option maxHeartbeats 16000000 in
set_option maxRecDepth 100000 in
theorem entries_ (B mb:Nat) (E:List Ent) (w:World) (hT:TableAt w B mb E) (hE:E.length≤1000):
 Calls Tryz.prog 57 #[.pointer (some ⟨B,0,none⟩)] w fun e w'=> ∃u P,e= .returned u∧EArr w' w.heap.size 3 56 u P∧E.Perm (P.map (·.2.2))∧SortedE (P.map (·.2.2))∧Ux.Touch (fun _=>False) w w':=by
 obtain ⟨⟨h0,F,h1,h2⟩,t,ks,f,hB,hTr,hLI⟩:=hT
 have hB0:w.cell? ⟨B,0,none⟩=some (.map (some mb)):=by rw [cell_of_row w B 0 _ _ (0,0) hB];rfl
 obtain ⟨q,hq⟩: ∃q,w.heap.size=q:=⟨_,rfl⟩
 have HH:=Lib.hid (And.intro h0 (And.intro h1 (And.intro h2 hE)))
 have hmq: ¬mb=q:=by have:=h1.lt;omega
 clear h0 h1 h2 hB hTr hLI hE
 go_enter Tryz.func57,Tryz.ntmps57
 go_wp2_with (at_range;refine Ux.wpList_rangeM rfl _ 103 rfl 105 49 keyedS Tryz.underlying103 mb E.length F rfl HH.out.2.1 ?_;(try rw [hq]);intro w2 cnt hr ht hs;have HRA:=Lib.hid (And.intro hr (And.intro ht hs));clear hr ht hs)
 clear hB0
 go_frame
 go_loopg [3] cnt (fun g s3 wr=> ∃(left:Lit→Bool) (c2:Nat) (P:List EP),c2≤g∧P.length+c2≤E.length∧Hid (RangeIs Tryz.prog 105 wr mb q E.length F left c2∧OutAt wr (q+1) 3 56 131 s3 P∧(∀e,e∈P.map (·.2.2)↔(e∈E∧left (kl3 e.1)=false))∧(P.map (·.2.2.1)).Nodup∧Ux.Touch (fun _=>False) w wr∧q+1≤wr.heap.size))
 case atStart=>
  refine ⟨_,cnt,[],Nat.le_refl _,by have:=HRA.out.1.cnt_le;simp;exact this,Lib.hid ⟨HRA.out.1,Ux.OutAt.nil _ _ _ _ _,fun e=> ?_,List.nodup_nil,HRA.out.2.1,by have:=HRA.out.2.2;omega⟩⟩
  constructor
  ·intro h;cases h
  ·rintro ⟨he,h⟩
   obtain ⟨v,hv,_⟩:=HH.out.2.2.1.1 e he
   simp only [hv,Option.isSome_some] at h
   cases h
 case round=>
  obtain ⟨left,c2,P,hc1,hc3,HI⟩:=hrel
  by_cases hc0:c2=0
  ·subst hc0
   go_wp2_with (at_next;refine Ux.wpList_nextM rfl _ rfl 105 keyedS mb q E.length F left 0 rfl HI.out.1 ?_ ?_;rotate_left;(intro _ _ _ _ c4 _ _ _ _ h4;exact absurd h4 (Nat.not_lt_zero _));intro _ hleft;have HL:=Lib.hid hleft;clear hleft)
   have hP:E.Perm (P.map (·.2.2)):=by
    refine (List.perm_ext_iff_of_nodup (Ux.nodup_of_keys HH.out.1.1) (Ux.nodup_of_keys (by rw [List.map_map];exact HI.out.2.2.2.1))).2 fun e=> ?_
    rw [HI.out.2.2.1]
    exact ⟨fun h=>⟨h,HL.out _⟩,fun h=>h.1⟩
   have hk: ∀p∈P,1≤p.2.2.1.length∧p.2.2.1.length≤3:=fun p hp=>by
    have he:=HH.out.1.2 _ (hP.mem_iff.2 (List.mem_map.2 ⟨p,hp,rfl⟩))
    exact ⟨he.1.1,he.1.2.1⟩
   have HS:=Lib.hid (sortE_ u3 (q+1) P wr HI.out.2.1 hk HI.out.2.2.2.1 (by have:=HH.out.2.2.2;omega))
   have HPP:=Lib.hid hP
   clear hP hk
   refine HS.out.mono ?_
   rintro e w5 ⟨rfl,a,n,c,P',rfl,rfl,hnc,ha,hPP,hso,hEA,hT5⟩
   have HC:=Lib.hid (clipN_ a P.length c w5 hnc ha)
   have H5:=Lib.hid (And.intro hPP (And.intro hso (And.intro hEA hT5)))
   clear hPP hso hEA hT5 ha hnc HS
   go_wp2_with (go_at_call 114;refine HC.out.mono ?_;rintro e w' ⟨rfl,rfl⟩)
   go_ret
   obtain ⟨hPP,hso,hEA,hT5⟩:=H5.out
   refine ⟨_,P',rfl,?_,HPP.out.trans (hPP.map _),hso,HI.out.2.2.2.2.1.trans hT5 fun i hi h=>by omega⟩
   obtain ⟨h1,a',h2,h3,h4⟩:=hEA
   exact ⟨EntsAt.mono h1 (by omega),a',h2,fun i p hi=>by
    obtain ⟨g,e1,e2,e3⟩:=h3 i p hi
    exact ⟨g,e1,by omega,e3⟩,h4⟩
  ·obtain ⟨g',rfl⟩: ∃g',gk=g'+1:=⟨gk-1,by omega⟩
   go_upto_region 4 with (at_next;refine Ux.wpList_nextM rfl _ rfl 105 keyedS mb q E.length F left c2 rfl HI.out.1 (fun h _=>absurd h hc0) ?_;intro key v kl w3 c3 hkey hlk hf hrg hlt ht hsz hen;have HN:=Lib.hid (And.intro hkey (And.intro hlk (And.intro hf (And.intro hrg (And.intro hlt (And.intro ht hsz))))));obtain ⟨e,he,hke⟩:=HH.out.2.2.1.2 kl v hf;subst hke;have hok:=(HH.out.1.2 e he).1;obtain ⟨x,y,z,hk3⟩:=k3_is hok;have hkv:=keyedS.inj hkey (keyS hok);rw [hk3] at hkv;have hkv:key= .agg #[.int .i64 x,.int .i64 y,.int .i64 z]:=hkv;subst hkv;have HE:=Lib.hid (And.intro he (And.intro hok hk3));clear hkey hlk hf hrg hlt ht hsz he hok hk3)
   obtain ⟨v',hv',hrow⟩:=HH.out.2.2.1.1 e HE.out.1
   have hvv:v'=v:=Option.some.inj (hv'.symm.trans HN.out.2.2.1)
   subst hvv
   have HV:=Lib.hid hrow
   clear hv' hrow
   go_wp2_with (go_at_call 66;fail)
   have TA:Ux.Touch (fun _=>False) w3 (w3.alloc (Obj.cells #[Value.int IntKind.i64 x,Value.int IntKind.i64 y,Value.int IntKind.i64 z] 105)):=(Ux.Touch.refl _ _).alloc _
   have TW3:Ux.Touch (fun _=>False) w w3:=HI.out.2.2.2.2.1.trans HN.out.2.2.2.2.2.1 fun i hi h=>by omega
   have hO4:=(HI.out.2.1.touch HN.out.2.2.2.2.2.1 fun b hb e=>by omega).touch TA fun _ _ f=>f
   have hs3:q+1≤w3.heap.size:=by rw [HN.out.2.2.2.2.2.2];exact HI.out.2.2.2.2.2
   have hsg:=ssigns3 e.1 HE.out.2.1 x y z HE.out.2.2 (w3.alloc (Obj.cells #[Value.int IntKind.i64 x,Value.int IntKind.i64 y,Value.int IntKind.i64 z] 105))
   have HM:=Lib.hid (And.intro hO4 (And.intro (TW3.trans TA fun _ _ f=>f) (And.intro (Nat.le_trans hs3 TA.size) TA)))
   clear TA TW3 hO4 hs3
   generalize w3.alloc (Obj.cells #[Value.int IntKind.i64 x,Value.int IntKind.i64 y,Value.int IntKind.i64 z] 105)=W4 at hsg HM⊢
   refine hsg.mono ?_
   rintro e2 w5 ⟨v5,rfl,hR5,T5⟩
   have T05:=HM.out.2.1.trans T5 fun _ _ f=>f
   have HCE:=Lib.hid (cloneE e.2 (HV.out.touch0 T05) (by have:=(HH.out.1.2 e HE.out.1).2.1;omega))
   have H5:=Lib.hid (And.intro hR5 T5)
   clear hR5 T5 T05 hsg
   go_wp2_with (go_at_call 63;fail)
   refine HCE.out.mono ?_
   rintro e2 w6 ⟨v6,rfl,hR6,T6⟩
   obtain ⟨v7,hR7,hc7⟩:=clipE hR6
   have HC7:=Lib.hid hc7
   have hEL:=HH.out.2.2.2
   obtain ⟨r,w8,hrun,hO8,hT8⟩:=Ux.OutAt.app (Pr:=Tryz.prog) HM.out.1 HM.out.2.2.1 H5.out.2 H5.out.1 T6 hR7 (e:=e) 127 48 _ Tryz.underlying127 infoN rfl (by simp only [maxLen];omega) (by omega)
   obtain ⟨a5,n5,c5,rfl⟩:=H5.out.1.lit
   obtain ⟨a7,n7,c7,rfl⟩:=hR7.lit
   have T48:Ux.Touch (fun b=>q+1≤b) W4 w8:=((H5.out.2.trans T6 fun _ _ f=>f).mono (R':=fun b=>q+1≤b) fun _ _ f=>f.elim).trans (hT8.mono (R':=fun b=>q+1≤b) fun b _ h=>h.1) fun _ _ h=>h
   have H8:=Lib.hid (And.intro hrun (And.intro hO8 T48))
   clear hrun hO8 hT8 T48 hR6 hR7 hc7 T6 hEL
   go_wp2_with (first
    |(go_at_call 65;refine HC7.out.mono ?_;rintro e2 w' ⟨rfl,hw⟩;obtain rfl:w6=w':=hw.symm)
    |(at_builtin;refine Ux.wpList_app (v1:=u3) (x1:= .slice (some ⟨w6.heap.size,0,none⟩) 1 1) rfl _ _ _ _ rfl rfl rfl (H8.out.1 _) ?_))
   go_roundg g'
   case measure=>omega
   case rel=>
    refine ⟨fun z=>left z&& !z.sameKey (kl3 e.1),c3,P++ [(_,_,e)],by have:=HN.out.2.2.2.2.1;omega,by have:=HN.out.2.2.2.2.1;simp;omega,Lib.hid ⟨?_,H8.out.2.1,fun d=> ?_,?_,?_,?_⟩⟩
    ·have hmb:=HH.out.2.1.lt
     exact (HN.out.2.2.2.1.touch HM.out.2.2.2 (fun f=>f) (fun f=>f)).touch H8.out.2.2 (fun h=>by omega) (fun h=>by omega)
    ·rw [List.map_append,List.mem_append,HI.out.2.2.1]
     constructor
     ·rintro (⟨h1,h2⟩|h)
      ·exact ⟨h1,by simp only [h2,Bool.false_and]⟩
      ·have h:d=e:=by simpa using h
       subst h
       exact ⟨HE.out.1,by simp only [Ux.kl3_self,Bool.not_true,Bool.and_false]⟩
     ·rintro ⟨h1,h2⟩
      cases hl:left (kl3 d.1) with
      |false=>exact .inl ⟨h1,rfl⟩
      |true=>
       right
       have h3:(kl3 d.1).sameKey (kl3 e.1)=true:=by simpa [hl] using h2
       have h4:=Ux.kl3_inj (HH.out.1.2 d h1).1 HE.out.2.1 (WideAt.sameKey_eq h3)
       have h5:=Ux.findE_mem HH.out.1.1 h1
       have h6:=Ux.findE_mem HH.out.1.1 HE.out.1
       rw [h4,h6] at h5
       have h7:=Option.some.inj h5
       have:d=e:=Prod.ext h4 h7.symm
       simp [this]
    ·rw [List.map_append,List.nodup_append]
     refine ⟨HI.out.2.2.2.1,by simp,fun a ha b hb hab=> ?_⟩
     have hb:b=e.1:=by simpa using hb
     subst hb
     obtain ⟨p,hp,rfl⟩:=List.mem_map.1 ha
     have h1:=(HI.out.2.2.1 p.2.2).1 (List.mem_map.2 ⟨p,hp,rfl⟩)
     rw [hab,HN.out.2.1] at h1
     cases h1.2
    ·exact HM.out.2.1.trans H8.out.2.2 fun i hi h=>by omega
    ·exact Nat.le_trans HM.out.2.2.1 H8.out.2.2.size
end Go.Proofs.YtfccjaboicpohaaGreatDoor
namespace Go.Proofs.YtfccjaboicpohaaGreatDoor
open Go.RowKit
open Ux (Row iv sv Ent ev okT SameE SortedE EArr EP)
set_option maxHeartbeats 8000000 in
set_option maxRecDepth 100000 in
theorem like_ (B mb:Nat) (E T:List Ent) (v:Value) (A:Nat→Prop) (w:World) (hT:TableAt w B mb E) (hE:E.length≤1000) (hS:SameE E T) (hR:RRows w A v T):
 Calls Tryz.prog 15 #[.pointer (some ⟨B,0,none⟩),.agg #[v]] w fun e w'=>e= .returned (.bool true)∧Ux.Touch (fun _=>False) w w':=by
 have hok:=hT.1.1
 have hRR:=hR
 obtain ⟨_,a,ca,rfl,_,hca⟩:=hR
 obtain ⟨n,hn⟩: ∃n,T.length=n:=⟨_,rfl⟩
 rw [hn] at hRR⊢
 have n0:(n:Int)≤1000:=by have:=hS.1.length_eq;omega
 have HH:=Lib.hid (And.intro hca (And.intro hn (And.intro hok (And.intro hS hRR))))
 have HT:=Lib.hid (And.intro hT hE)
 clear hT hE hS hRR hca hn hok
 go_enter Tryz.func15,Tryz.ntmps15
 have hbox:(w.alloc (Obj.cells #[Value.slice a n ca] 36)).cell? ⟨w.heap.size,0,none⟩=some (.slice a n ca):=by rw [Ux.cell_newg];rfl
 have hT1:Ux.Touch (fun _=>False) w (w.alloc (Obj.cells #[Value.slice a n ca] 36)):=(Ux.Touch.refl _ _).alloc _
 have HEN:=Lib.hid (entries_ B mb E (w.alloc (Obj.cells #[Value.slice a n ca] 36)) (HT.out.1.touch0 hT1) HT.out.2)
 have HT1:=Lib.hid hT1
 clear hT1
 go_wp2_with (go_at_call 57;fail)
 refine HEN.out.mono ?_
 rintro e w2 ⟨u,P,rfl,hEA,hP,hso,T2⟩
 have hPT:P.map (·.2.2)=T:=Ux.sorted_unique (hP.symm.trans HH.out.2.2.2.1.1) hso HH.out.2.2.2.1.2
 obtain ⟨hE1,a2,rfl,hE2,_⟩:=hEA
 have hPn:P.length=n:=by rw [←HH.out.2.1,←hPT];simp
 rw [hPn]
 have hbox2:=T2.cell hbox (fun f=>f)
 have HX:=Lib.hid (And.intro hE1 (And.intro hE2 (And.intro hPT (And.intro hPn (HT1.out.trans T2 fun _ _ f=>f)))))
 clear hE1 hE2 hPT hPn T2 hP hso hbox
 go_wp2_with (fail)
 go_loopg [6] n (fun g s6 wr=> ∃i:Nat,s6= .int .i64 i∧i+g=n∧wr.cell? ⟨w.heap.size,0,none⟩=some (.slice a n ca)∧Hid (Ux.Touch (fun _=>False) w2 wr))
 case atStart=>exact ⟨0,rfl,by omega,hbox2,Lib.hid (Ux.Touch.refl _ _)⟩
 case round=>
  clear hbox2
  obtain ⟨i,rfl,hig,hbox,HI⟩:=hrel
  have i0:(0:Int)≤i:=by omega
  by_cases hlt:i<n
  ·obtain ⟨g',rfl⟩: ∃g',gk=g'+1:=⟨gk-1,by omega⟩
   have i1:(i:Int)<n:=by omega
   obtain ⟨e,he⟩: ∃e,T[i]? =some e:=⟨_,List.getElem?_eq_getElem (by have:=HH.out.2.1;omega)⟩
   obtain ⟨p,hp⟩: ∃p,P[i]? =some p:=⟨_,List.getElem?_eq_getElem (by have:=HX.out.2.2.2.1;omega)⟩
   have hpe:p.2.2=e:=by
    have h1:=HX.out.2.2.1
    rw [←h1,List.getElem?_map,hp] at he
    exact Option.some.inj he
   obtain ⟨g1,rfl,_,c1,c2⟩:=HX.out.2.1 i p hp
   obtain ⟨g2,o2,x,y,rfl,d1,d2,hxy⟩:=HH.out.1 i e he
   obtain ⟨r1,r2,_⟩:=HX.out.1.1 p (List.mem_of_getElem? hp)
   have Tw:=HX.out.2.2.2.2.trans HI.out fun _ _ f=>f
   have c1:=HI.out.cell c1 (fun f=>f)
   have c2:=HI.out.cell c2 (fun f=>f)
   have d1:=Tw.cell d1 (fun f=>f)
   have d2:=Tw.cell d2 (fun f=>f)
   have hok:=HH.out.2.2.1.2 e (HH.out.2.2.2.1.1.mem_iff.2 (List.mem_of_getElem? he))
   rw [hpe] at r1 r2
   have HS1:=Lib.hid fun W (T1:Ux.Touch (fun _=>False) wr W)=>sameInts_ p.1 x (sv e.1) (sv e.1) W (IView.row ((r1.touch0 HI.out).touch0 T1)) (((hxy.touch0 Tw).touch0 T1).1.1.i) (by rw [Ux.sv_length];have:=hok.1.2.1;omega) (by rw [Ux.sv_length];have:=hok.1.2.1;omega)
   have HS2:=Lib.hid fun W (T1:Ux.Touch (fun _=>False) wr W)=>same_ p.2.1 y e.2 e.2 W (((r2.touch0 HI.out).touch0 T1).mono (Nat.zero_le _)) (((hxy.touch0 Tw).touch0 T1).1.2) hok.2.2 (by have:=hok.2.1;omega) (by have:=hok.2.1;omega)
   simp only [beq_self_eq_true] at HS1 HS2
   obtain ⟨p1,p2,p3⟩:=p
   obtain ⟨b1,m1,k1,rfl⟩:=r1.lit
   obtain ⟨b2,m2,k2,rfl⟩:=r2.lit
   have hxy1:=hxy.1
   obtain ⟨⟨a3,k3,rfl,_⟩,⟨a4,k4,rfl,_⟩⟩:=hxy1
   obtain ⟨m3,hm3⟩: ∃m,e.1.length=m:=⟨_,rfl⟩
   obtain ⟨m4,hm4⟩: ∃m,e.2.length=m:=⟨_,rfl⟩
   have HS1:=HS1.out
   have HS2:=HS2.out
   rw [hm3] at HS1 d1
   rw [hm4] at HS2 d2
   have HS1:=Lib.hid HS1
   have HS2:=Lib.hid HS2
   have HQ:=Lib.hid fun W (T1:Ux.Touch (fun _=>False) wr W)=>And.intro (T1.cell hbox (fun f=>f)) (And.intro (T1.cell c1 (fun f=>f)) (And.intro (T1.cell c2 (fun f=>f)) (And.intro (T1.cell d1 (fun f=>f)) (T1.cell d2 (fun f=>f)))))
   clear hm3 hm4 r1 r2 hxy hpe hp he Tw hok hlt
   go_upto_region 9 with (fail)
   refine Ux.wpr (fun _ w'=>w'.cell? ⟨w.heap.size,0,none⟩=some (.slice (some ⟨g2,o2,none⟩) n ca)∧w'.cell? ⟨g1,i*2,none⟩=some (.slice b1 m1 k1)∧w'.cell? ⟨g1,i*2+1,none⟩=some (.slice b2 m2 k2)∧w'.cell? ⟨g2,o2+i*2,none⟩=some (.slice a3 m3 k3)∧w'.cell? ⟨g2,o2+i*2+1,none⟩=some (.slice a4 m4 k4)) (.q [0,1,2,3,5,7] (.h false [4,6] (.q [8,9] (.h false [10] (.e 11 true false (.q [12,13,14,15,16,17,19,21] (.h false [18,20] (.q [22,23] (.h false [24] (.e 25 true false (.q [26,27] (.line [])))))))))))) ?_;repeat ((with_reducible refine Ux.qg ?_);refine Ux.qu ?_)
   clear hbox c1 c2 d1 d2
   have T0:=Lib.hid (Ux.Touch.refl (fun _=>False) wr).drew
   go_wp2_with (go_at_call 58;fail)
   refine (HS1.out _ T0.out).mono ?_
   rintro e3 w3 ⟨rfl,T3⟩
   have T3:=Lib.hid (T0.out.trans T3 fun _ _ f=>f)
   go_wp2_with (fail)
   refine ⟨HQ.out _ T3.out,?_⟩
   repeat ((with_reducible refine Ux.qg ?_);refine Ux.qu ?_)
   go_wp2_with (go_at_call 25;fail)
   refine (HS2.out _ T3.out).mono ?_
   rintro e4 w4 ⟨rfl,T4⟩
   have T4:=Lib.hid (T3.out.trans T4 fun _ _ f=>f)
   go_wp2_with (fail)
   refine ⟨HQ.out _ T4.out,?_⟩
   repeat ((with_reducible refine Ux.qg ?_);refine Ux.qu ?_)
   go_wp2
   go_roundg g'
   case measure=>omega
   case rel=>exact ⟨i+1,by congr 1,by omega,(HQ.out _ T4.out).1,Lib.hid (HI.out.trans T4.out fun _ _ f=>f)⟩
  ·have q1: ¬(i:Int)<n:=by omega
   clear hlt
   go_wp2
   go_ret
   exact ⟨rfl,HX.out.2.2.2.2.trans HI.out fun _ _ f=>f⟩
end Go.Proofs.YtfccjaboicpohaaGreatDoor
