/- A part of the proof that the statement holds for every input that it names. No other condition. -/
import Derived.Test.YtmnkinaaoifpeaaGreatDoorUxMemAZ
import Derived.Test.YtmnkinaaoifpeaaGreatDoorUxNumAZ
import Derived.Lib.ValidAsc
import Derived.Test.YtmnkinaaoifpeaaGreatDoorShelfZ
import Derived.Test.YtmnkinaaoifpeaaGreatDoorRows
import Derived.Handy
import Derived.Laws.EntriesVeiled
import Derived.WalkSpells
import Derived.WalkLawsBesides
import Derived.Deep.DeepCutAuto
import Derived.Lib.Overlaps
import Derived.Lib.Hide
import Derived.Test.YtmnkinaaoifpeaaGreatDoorUxCollAZ
import Derived.Test.YtmnkinaaoifpeaaGreatDoorElemAZ
set_option linter.unusedVariables false
set_option linter.unusedSimpArgs false
namespace Go.Proofs.YtmnkinaaoifpeaaGreatDoor
open Go.RowKit
open Ux (Row iv sv)
open Ux.Sign (sg signs signs_cons)
def Tabs (w:World):Prop:=Lib.Utf8Tabs 0 1 w
theorem Tabs.touch {w w':World} (h:Tabs w) (ht:Ux.Touch (fun _=>False) w w'):Tabs w':=
 ⟨fun c hc=>ht.cell (h.1 c hc) (fun f=>f),fun i hi=>⟨ht.cell (h.2 i hi).1 (fun f=>f),ht.cell (h.2 i hi).2 (fun f=>f)⟩⟩
theorem sg_lt (l:List UInt8):(sg l).1<1114368∧(sg l).2≤4:=by
 refine ⟨?_,?_⟩
 ·have:=Ux.Sign.sgN_is (Ux.Sign.bt l 0) (Ux.Sign.bt l 1) (Ux.Sign.bt l 2) (Ux.Sign.bt l 3) (Ux.Sign.bt_lt l 0)
  have h0:=Ux.Sign.bt_lt l 0
  unfold sg
  rcases this with h|⟨h,_⟩
  ·unfold Ux.Sign.cp at h;omega
  ·unfold Ux.Sign.raw at h;omega
 ·unfold sg Ux.Sign.sgN
  repeat' split
  all_goals (simp only;omega)
set_option maxHeartbeats 2000000 in
set_option maxRecDepth 100000 in
theorem sign_ (s:ByteArray) (w:World) (hs:0<s.size) (hT:Tabs w):
 Calls Tryz.prog 184 #[.string s] w fun e w'=>e= .returned (.tuple #[.int .i64 ((sg s.data.toList).1:Int),.int .i64 ((sg s.data.toList).2:Int)])∧Ux.Touch (fun _=>False) w w':=by
 have c:=Tryz.utf8_DecodeRuneInString s w hT
 have e:=Ux.Sign.decode_sg s
 have hd:Lib.decodeGo s=Utf8.decode s 0:=by unfold Lib.decodeGo;rw [if_neg (by omega)]
 rw [hd] at c
 obtain ⟨d,hdd⟩: ∃d,Utf8.decode s 0=d:=⟨_,rfl⟩
 obtain ⟨d1,d2⟩:=d
 rw [hdd] at c e
 simp only at c e
 have hgl:=sg_lt s.data.toList
 obtain ⟨r,hr⟩: ∃r,sg s.data.toList=r:=⟨_,rfl⟩
 rw [hr] at e hgl⊢
 obtain ⟨x,hx⟩: ∃x:UInt8,s[0]'hs=x:=⟨_,rfl⟩
 have hx0:s.get! 0=x:=by rw [←hx];exact Utf8W.get!_of_lt s 0 hs
 rw [hx0] at e
 have hx256:=x.toNat_lt
 have C:=Lib.hid c
 by_cases h1:d1=65533∧d2=1
 ·rw [if_pos h1] at e
  obtain ⟨rfl,rfl⟩:=h1
  subst e
  clear c hdd hd hx0 hr hT
  go_enter Tryz.func184,Tryz.ntmps184
  go_wp2_with (go_at_call 221;fail)
  refine C.out.mono ?_
  rintro e w1 ⟨rfl,hb⟩
  have HB:=Lib.hid (Ux.Touch.of_below (R:=fun _=>False) hb)
  clear hb
  go_wp2
  go_returns
  exact ⟨rfl,HB.out⟩
 ·rw [if_neg h1] at e
  subst e
  have b1:(d1:Int)<1114368:=by have:=hgl.1;simp only at this;omega
  have b2:(d2:Int)≤4:=by have:=hgl.2;simp only at this;omega
  have b3:(0:Int)≤d1:=by omega
  have hc:((d1:Int)==65533)=false∨((d1:Int)==65533)=true∧((d2:Int)==1)=false:=by
   by_cases h:d1=65533
   ·exact .inr ⟨by simp [h],by simp;omega⟩
   ·exact .inl (by simp;omega)
  clear c hdd hd hx0 hr hT h1 hgl
  rcases hc with hc|⟨hc,hc2⟩
  all_goals
   go_enter Tryz.func184,Tryz.ntmps184
   go_wp2_with (go_at_call 221;fail)
   refine C.out.mono ?_
   rintro e w1 ⟨rfl,hb⟩
   have HB:=Lib.hid (Ux.Touch.of_below (R:=fun _=>False) hb)
   clear hb
   go_wp2
   go_returns
   exact ⟨rfl,HB.out⟩
theorem infoI:(Tryz.prog.info? 3).map (fun i=>(i.zero,i.size,i.bytes))=some (some (.int .i64 0),1,8):=by kernel_rfl
theorem appI {w:World} {lo:Nat} {v:Value} {xs:List Value} (h:Ux.Grow w lo 3 v xs) (m:Nat) (ys:List Value) (hl:ys.length=m) (h1: ∀u∈ys,u.oneCell'=true) (hlo:lo≤w.heap.size) (hb:xs.length+m≤17592186044416):
 ∃r w',(∀ty,(Builtin.append_ #[22,22] ty #[v,.slice (some ⟨w.heap.size,0,none⟩) m m]).run Tryz.prog (w.alloc (.cells ys.toArray 3))= .ok r w')∧Ux.Grow w' lo 3 r (xs++ys)∧Ux.Touch (fun b=>lo≤b∧v.ownBlock=some b) w w':=
 h.app 22 8 (.int .i64 0) Tryz.underlying22 infoI rfl m ys hl h1 hlo (by simp only [maxLen];omega) (by omega)
theorem clip_none (w:World):Calls Tryz.prog 30 #[.slice none 0 0] w fun e w'=>e= .returned (.slice none 0 0)∧w'=w:=by
 go_enter Tryz.func30,Tryz.ntmps30
 go_wp2
 go_ret
 exact ⟨rfl,rfl⟩
theorem clip_some (g n c:Nat) (w:World) (h:n≤c):Calls Tryz.prog 30 #[.slice (some ⟨g,0,none⟩) n c] w fun e w'=>e= .returned (.slice (some ⟨g,0,none⟩) n n)∧w'=w:=by
 go_enter Tryz.func30,Tryz.ntmps30
 go_wp2
 go_ret
 exact ⟨rfl,rfl⟩
theorem clip_row {w:World} {lo:Nat} {v:Value} {xs:List Value} (h:Row w lo 3 v xs): ∃v',Row w lo 3 v' xs∧(∀b,v'.ownBlock=some b→v.ownBlock=some b)∧Calls Tryz.prog 30 #[v] w fun e w'=>e= .returned v'∧w'=w:=by
 rcases h with ⟨rfl,rfl⟩|⟨g,c,cur,rfl,hg,hh,h1,h2,h3⟩
 ·exact ⟨_,Row.nil _ _ _,fun _ h=>h,clip_none w⟩
 ·exact ⟨_,.inr ⟨g,_,cur,rfl,hg,hh,Nat.le_refl _,by omega,h3⟩,fun _ h=>h,clip_some g _ c w h1⟩
set_option maxHeartbeats 2000000 in
set_option maxRecDepth 100000 in
theorem signs_ (s:ByteArray) (w:World) (hs:s.size≤1000000000) (hT:Tabs w):
 Calls Tryz.prog 142 #[.string s] w fun e w'=> ∃v,e= .returned v∧Row w' w.heap.size 3 v (iv (sv (signs s.data.toList)))∧Ux.Touch (fun _=>False) w w':=by
 obtain ⟨n,hn⟩: ∃n,s.size=n:=⟨_,rfl⟩
 obtain ⟨l,hl⟩: ∃l,s.data.toList=l:=⟨_,rfl⟩
 rw [hl]
 have HH:=Lib.hid (And.intro hn (And.intro hl (And.intro hT hs)))
 clear hn hl hT hs
 go_enter Tryz.func142,Tryz.ntmps142
 go_wp2
 go_loopg [0,3] n (fun g s0 s3 wr=> ∃(t:ByteArray) (acc:List Nat),s0= .string t∧t.size≤g∧Hid (acc++signs t.data.toList=signs l∧acc.length+t.size≤n∧Ux.Grow wr w.heap.size 3 s3 (iv (sv acc))∧Ux.Touch (fun _=>False) w wr))
 case atStart=>
  exact ⟨s,[],rfl,by have:=HH.out.1;omega,Lib.hid ⟨by rw [HH.out.2.1];rfl,by have:=HH.out.1;simp;omega,Ux.Grow.nil _ _ _,Ux.Touch.refl _ _⟩⟩
 case round=>
  obtain ⟨t,acc,rfl,htg,HI⟩:=hrel
  by_cases h0:t.size=0
  ·have z0: ¬((t.size:Int)>0):=by omega
   obtain ⟨v',hr,hb,hc⟩:=clip_row HI.out.2.2.1.row
   have HC:=Lib.hid hc
   have HR:=Lib.hid hr
   obtain ⟨a,m,c,rfl,hm⟩:=HI.out.2.2.1.is
   clear hc hr hb hm
   go_wp2_with (go_at_call 30;refine HC.out.mono ?_;rintro e w' ⟨rfl,rfl⟩)
   go_ret
   refine ⟨_,rfl,?_,HI.out.2.2.2⟩
   have e:signs t.data.toList= []:=by
    have:t.data.toList= []:=List.eq_nil_of_length_eq_zero (by simpa using h0)
    rw [this];unfold signs;rfl
   have e2:=HI.out.1
   rw [e,List.append_nil] at e2
   rw [←e2]
   exact HR.out
  ·obtain ⟨g',rfl⟩: ∃g',gk=g'+1:=⟨gk-1,by omega⟩
   have z0:(t.size:Int)>0:=by omega
   have C:=Lib.hid (sign_ t wr (by omega) (HH.out.2.2.1.touch HI.out.2.2.2))
   obtain ⟨d,hd⟩: ∃d:Nat×Nat,sg t.data.toList=d:=⟨_,rfl⟩
   obtain ⟨x,k⟩:=d
   rw [hd] at C
   have hne:t.data.toList≠[]:=fun e=>h0 (by have:=congrArg List.length e;simpa using this)
   have hk1:1≤k:=by have:=Ux.Sign.sgN_one (Ux.Sign.bt t.data.toList 0) (Ux.Sign.bt t.data.toList 1) (Ux.Sign.bt t.data.toList 2) (Ux.Sign.bt t.data.toList 3);unfold sg at hd;rw [hd] at this;exact this
   have hk2:k≤t.size:=by have:=Ux.Sign.sg_le hne;rw [hd] at this;simpa using this
   have hsz:(t.extract k t.size).size=t.size-k:=Lib.ext_size t k
   have hsg:signs t.data.toList=x::signs (t.extract k t.size).data.toList:=by rw [signs_cons hne,hd,Lib.ext_list]
   have HK:=Lib.hid (And.intro hsg hsz)
   have hk3:(k:Int)≤t.size:=by omega
   obtain ⟨a,m,c,rfl,hm⟩:=HI.out.2.2.1.is
   clear hd hne hsg hsz
   go_wp2_with (go_at_call 184;fail)
   refine C.out.mono ?_
   rintro e w1 ⟨rfl,T1⟩
   obtain ⟨r2,w3,run2,hG2,t2⟩:=appI (HI.out.2.2.1.touch0 T1) 1 [.int .i64 (x:Int)] rfl (by simp [Value.oneCell']) (by have:=HI.out.2.2.2.size;have:=T1.size;omega) (by have:=HI.out.2.1;have:=HH.out.2.2.2;have:=HH.out.1;rw [Ux.iv_length,Ux.sv_length];omega)
   obtain ⟨a2,m2,c2,rfl,hm2⟩:=hG2.is
   have R2:=Lib.hid run2
   have HG2:=Lib.hid (And.intro hG2 (Ux.Touch.own (HI.out.2.2.2.trans T1 fun _ _ f=>f) (Nat.le_refl _) t2))
   clear run2 hG2 t2 T1 hm hm2 C
   go_wp2_with (at_builtin;refine Ux.wpList_app (v1:= .slice a m c) (x1:= .slice (some ⟨w1.heap.size,0,none⟩) 1 1) rfl _ _ _ _ rfl rfl rfl (R2.out _) ?_)
   go_roundg g'
   case measure=>omega
   case rel=>
    obtain ⟨h1,h2,_,_⟩:=HI.out
    refine ⟨_,acc++ [x],rfl,by have:=HK.out.2;omega,Lib.hid ⟨?_,?_,?_,HG2.out.2⟩⟩
    ·rw [←h1,HK.out.1];simp
    ·have:=HK.out.2;rw [List.length_append,this];simp;omega
    ·rw [Ux.sv_append,Ux.iv_append];exact HG2.out.1
end Go.Proofs.YtmnkinaaoifpeaaGreatDoor
namespace Go.Proofs.YtmnkinaaoifpeaaGreatDoor
open Go.RowKit
open Ux (Row iv sv k3 okS)
theorem k3_is {s:List Nat} (h:okS s): ∃x y z:Int,k3 s= [x,y,z]:=by
 have:=Ux.k3_len h.2.1
 match hk:k3 s,this with
 | [x,y,z],_=>exact ⟨x,y,z,rfl⟩
theorem k3_get {s:List Nat} (h:okS s) (i:Nat) (hi:i<3):(k3 s)[i]? =some (match s[i]? with|some c=>(c:Int)+1|none=>0):=by
 unfold k3
 by_cases hl:i<s.length
 ·rw [List.getElem?_append_left (by simpa using hl),List.getElem?_map,List.getElem?_eq_getElem hl];rfl
 ·rw [List.getElem?_append_right (by simp;omega),List.getElem?_eq_none (by omega:s.length≤i),List.length_map,List.getElem?_replicate]
  simp
  omega
set_option maxHeartbeats 2000000 in
set_option maxRecDepth 100000 in
theorem ssigns_ (s:List Nat) (hs:okS s) (w:World):
 Calls Tryz.prog 158 #[.agg (iv (k3 s)).toArray] w fun e w'=> ∃v,e= .returned v∧Row w' w.heap.size 3 v (iv (sv s))∧Ux.Touch (fun _=>False) w w':=by
 obtain ⟨x,y,z,hk⟩:=k3_is hs
 have HH:=Lib.hid hs
 have HK:=Lib.hid hk
 rw [hk]
 have e:(iv [x,y,z]).toArray= #[.int .i64 x,.int .i64 y,.int .i64 z]:=rfl
 rw [e]
 clear hk hs e
 go_enter Tryz.func158,Tryz.ntmps158
 go_wp2
 go_loopg [7,3] 3 (fun g s7 s3 wr=> ∃i:Nat,s7= .int .i64 i∧i+g=3∧Hid (Ux.Grow wr w.heap.size 3 s3 (iv (sv (s.take i)))∧Ux.Touch (fun _=>False) w wr))
 case atStart=>exact ⟨0,rfl,rfl,Lib.hid ⟨Ux.Grow.nil _ _ _,(Ux.Touch.refl _ _).alloc _⟩⟩
 case round=>
  obtain ⟨i,rfl,hi,HI⟩:=hrel
  by_cases h3:i=3
  ·subst h3
   go_wp2
   go_ret
   refine ⟨_,rfl,?_,HI.out.2⟩
   have:=HI.out.1
   rw [List.take_of_length_le HH.out.2.1] at this
   exact this.row
  ·obtain ⟨g',rfl⟩: ∃g',gk=g'+1:=⟨gk-1,by omega⟩
   have hi3:i<3:=by omega
   have i3:(i:Int)<3:=by omega
   have hg:=k3_get HH.out i hi3
   rw [HK.out] at hg
   obtain ⟨c,hc⟩: ∃c:Int,(match s[i]? with|some c=>(c:Int)+1|none=>0)=c:=⟨_,rfl⟩
   rw [hc] at hg
   have hX:(#[Value.int .i64 x,.int .i64 y,.int .i64 z])[i]? =some (.int .i64 c):=by
    rw [show #[Value.int .i64 x,.int .i64 y,.int .i64 z]=(iv [x,y,z]).toArray from rfl,List.getElem?_toArray]
    exact Ux.iv_get (l:= [x,y,z]) hg
   have HX:=Lib.hid hX
   clear hX hg
   cases hs:s[i]? with
   |none=>
    rw [hs] at hc
    have hc:(0:Int)=c:=hc
    subst hc
    have HT:Hid (s.take (i+1)=s.take i):=Lib.hid (by have:=List.getElem?_eq_none_iff.1 hs;rw [List.take_of_length_le this,List.take_of_length_le (by omega)])
    clear hs
    go_wp2_with (refine Ux.is_index 199 rfl ?_;refine Ux.wpList_index rfl 199 3 3 i _ _ rfl #[.int .i64 x,.int .i64 y,.int .i64 z] (.int .i64 0) Tryz.underlying199 (Tryz.sizeOf3 _) (Tryz.isAgg3 _) rfl rfl (by omega) HX.out ?_)
    go_roundg g'
    case measure=>omega
    case rel=>exact ⟨i+1,by congr 1,by omega,Lib.hid ⟨by rw [HT.out];exact HI.out.1,HI.out.2⟩⟩
   |some d=>
    rw [hs] at hc
    have hc:(d:Int)+1=c:=hc
    subst hc
    have hd:=HH.out.2.2 d (List.mem_of_getElem? hs)
    have hd2:(d:Int)<1114368:=by omega
    have hd0:(0:Int)<(d:Int)+1:=by omega
    have HT:Hid (s.take (i+1)=s.take i++ [d]):=Lib.hid (by rw [List.take_add_one,hs];rfl)
    clear hs hd
    obtain ⟨r2,w3,run2,hG2,t2⟩:=appI HI.out.1 1 [.int .i64 (d:Int)] rfl (by simp [Value.oneCell']) (by have:=HI.out.2.size;omega) (by rw [Ux.iv_length,Ux.sv_length,List.length_take];simp;omega)
    obtain ⟨a,m,cc,rfl,hm⟩:=HI.out.1.is
    obtain ⟨a2,m2,c2,rfl,hm2⟩:=hG2.is
    have R2:=Lib.hid run2
    have HG2:=Lib.hid (And.intro hG2 (Ux.Touch.own HI.out.2 (Nat.le_refl _) t2))
    clear run2 hG2 t2 hm hm2
    go_wp2_with (first|(refine Ux.is_index 199 rfl ?_;refine Ux.wpList_index rfl 199 3 3 i _ _ rfl #[.int .i64 x,.int .i64 y,.int .i64 z] (.int .i64 ((d:Int)+1)) Tryz.underlying199 (Tryz.sizeOf3 _) (Tryz.isAgg3 _) rfl rfl (by omega) HX.out ?_)|(at_builtin;refine Ux.wpList_app (v1:= .slice a m cc) (x1:= .slice (some ⟨wr.heap.size,0,none⟩) 1 1) rfl _ _ _ _ rfl rfl rfl (R2.out _) ?_))
    go_roundg g'
    case measure=>omega
    case rel=>exact ⟨i+1,by congr 1,by omega,Lib.hid ⟨by rw [HT.out,Ux.sv_append,Ux.iv_append];exact HG2.out.1,HG2.out.2⟩⟩
theorem ssigns3 (s:List Nat) (hs:okS s) (x y z:Int) (hk:k3 s= [x,y,z]) (w:World):
 Calls Tryz.prog 158 #[.agg #[.int .i64 x,.int .i64 y,.int .i64 z]] w fun e w'=> ∃v,e= .returned v∧Row w' w.heap.size 3 v (iv (sv s))∧Ux.Touch (fun _=>False) w w':=by
 have:=ssigns_ s hs w
 rw [hk] at this
 exact this
end Go.Proofs.YtmnkinaaoifpeaaGreatDoor
