/- A part of the proof that the statement holds for every input that it names. No other condition. -/
import Derived.Test.YtfccjaboicpohaaGreatDoorUxMemAY
import Derived.Test.YtfccjaboicpohaaGreatDoorUxNumAY
import Derived.Lib.ValidAsc
import Derived.Test.YtfccjaboicpohaaGreatDoorShelfY
import Derived.Test.YtfccjaboicpohaaGreatDoorRows
import Derived.Handy
import Derived.Laws.EntriesVeiled
import Derived.WalkSpells
import Derived.WalkLawsBesides
import Derived.Lib.Overlaps
import Derived.Test.YtfccjaboicpohaaGreatDoorUxCollAY
import Derived.Test.YtfccjaboicpohaaGreatDoorElemAY
set_option linter.unusedVariables false
set_option linter.unusedSimpArgs false
namespace Go.Proofs.YtfccjaboicpohaaGreatDoor
open Go.RowKit
open Ux (Row iv sv bv)
open Ux.Sign (sg signs signs_cons)
def Tabs (w:World):Prop:=Lib.Utf8Tabs 0 1 w
theorem Tabs.touch {w w':World} (h:Tabs w) (ht:Ux.Touch (fun _=>False) w w'):Tabs w':=
 ⟨fun c hc=>ht.cell (h.1 c hc) (fun f=>f),fun i hi=>⟨ht.cell (h.2 i hi).1 (fun f=>f),ht.cell (h.2 i hi).2 (fun f=>f)⟩⟩
theorem sg_lt (l:List UInt8):(sg l).1<1114368∧(sg l).2≤4:=by
 refine ⟨?_,?_⟩
 ·have:=Ux.Sign.sgN_is (Ux.Sign.bt l 0) (Ux.Sign.bt l 1) (Ux.Sign.bt l 2) (Ux.Sign.bt l 3) (Ux.Sign.bt_lt l 0)
  have h0:=Ux.Sign.bt_lt l 0
  unfold sg
  rcases this with h|⟨h,_⟩
  ·unfold Ux.Sign.cp at h;omega
  ·unfold Ux.Sign.raw at h;omega
 ·unfold sg Ux.Sign.sgN
  repeat' split
  all_goals (simp only;omega)
set_option maxHeartbeats 2000000 in
set_option maxRecDepth 100000 in
theorem sign_ (s:ByteArray) (w:World) (hs:0<s.size) (hT:Tabs w):
 Calls Tryz.prog 143 #[.string s] w fun e w'=>e= .returned (.tuple #[.int .i64 ((sg s.data.toList).1:Int),.int .i64 ((sg s.data.toList).2:Int)])∧Ux.Touch (fun _=>False) w w':=by
 have c:=Tryz.utf8_DecodeRuneInString s w hT
 have e:=Ux.Sign.decode_sg s
 have hd:Lib.decodeGo s=Utf8.decode s 0:=by unfold Lib.decodeGo;rw [if_neg (by omega)]
 rw [hd] at c
 obtain ⟨d,hdd⟩: ∃d,Utf8.decode s 0=d:=⟨_,rfl⟩
 obtain ⟨d1,d2⟩:=d
 rw [hdd] at c e
 simp only at c e
 have hgl:=sg_lt s.data.toList
 obtain ⟨r,hr⟩: ∃r,sg s.data.toList=r:=⟨_,rfl⟩
 rw [hr] at e hgl⊢
 obtain ⟨x,hx⟩: ∃x:UInt8,s[0]'hs=x:=⟨_,rfl⟩
 have hx0:s.get! 0=x:=by rw [←hx];exact Utf8W.get!_of_lt s 0 hs
 rw [hx0] at e
 have hx256:=x.toNat_lt
 have C:=Lib.hid c
 by_cases h1:d1=65533∧d2=1
 ·rw [if_pos h1] at e
  obtain ⟨rfl,rfl⟩:=h1
  subst e
  clear c hdd hd hx0 hr hT
  go_enter Tryz.func143,Tryz.ntmps143
  go_wp2_with (go_at_call 185;fail)
  refine C.out.mono ?_
  rintro e w1 ⟨rfl,hb⟩
  have HB:=Lib.hid (Ux.Touch.of_below (R:=fun _=>False) hb)
  clear hb
  go_wp2
  go_returns
  exact ⟨rfl,HB.out⟩
 ·rw [if_neg h1] at e
  subst e
  have b1:(d1:Int)<1114368:=by have:=hgl.1;simp only at this;omega
  have b2:(d2:Int)≤4:=by have:=hgl.2;simp only at this;omega
  have b3:(0:Int)≤d1:=by omega
  have hc:((d1:Int)==65533)=false∨((d1:Int)==65533)=true∧((d2:Int)==1)=false:=by
   by_cases h:d1=65533
   ·exact .inr ⟨by simp [h],by simp;omega⟩
   ·exact .inl (by simp;omega)
  clear c hdd hd hx0 hr hT h1 hgl
  rcases hc with hc|⟨hc,hc2⟩
  all_goals
   go_enter Tryz.func143,Tryz.ntmps143
   go_wp2_with (go_at_call 185;fail)
   refine C.out.mono ?_
   rintro e w1 ⟨rfl,hb⟩
   have HB:=Lib.hid (Ux.Touch.of_below (R:=fun _=>False) hb)
   clear hb
   go_wp2
   go_returns
   exact ⟨rfl,HB.out⟩
theorem infoI:(Tryz.prog.info? 3).map (fun i=>(i.zero,i.size,i.bytes))=some (some (.int .i64 0),1,8):=by kernel_rfl
theorem appI {w:World} {lo:Nat} {v:Value} {xs:List Value} (h:Ux.Grow w lo 3 v xs) (m:Nat) (ys:List Value) (hl:ys.length=m) (h1: ∀u∈ys,u.oneCell'=true) (hlo:lo≤w.heap.size) (hb:xs.length+m≤17592186044416):
 ∃r w',(∀ty,(Builtin.append_ #[23,23] ty #[v,.slice (some ⟨w.heap.size,0,none⟩) m m]).run Tryz.prog (w.alloc (.cells ys.toArray 3))= .ok r w')∧Ux.Grow w' lo 3 r (xs++ys)∧Ux.Touch (fun b=>lo≤b∧v.ownBlock=some b) w w':=
 h.app 23 8 (.int .i64 0) Tryz.underlying23 infoI rfl m ys hl h1 hlo (by simp only [maxLen];omega) (by omega)
theorem clip_none (w:World):Calls Tryz.prog 144 #[.slice none 0 0] w fun e w'=>e= .returned (.slice none 0 0)∧w'=w:=by
 go_enter Tryz.func144,Tryz.ntmps144
 go_wp2
 go_ret
 exact ⟨rfl,rfl⟩
theorem clip_some (g n c:Nat) (w:World) (h:n≤c):Calls Tryz.prog 144 #[.slice (some ⟨g,0,none⟩) n c] w fun e w'=>e= .returned (.slice (some ⟨g,0,none⟩) n n)∧w'=w:=by
 go_enter Tryz.func144,Tryz.ntmps144
 go_wp2
 go_ret
 exact ⟨rfl,rfl⟩
theorem clip_row {w:World} {lo:Nat} {v:Value} {xs:List Value} (h:Row w lo 3 v xs): ∃v',Row w lo 3 v' xs∧(∀b,v'.ownBlock=some b→v.ownBlock=some b)∧Calls Tryz.prog 144 #[v] w fun e w'=>e= .returned v'∧w'=w:=by
 rcases h with ⟨rfl,rfl⟩|⟨g,c,cur,rfl,hg,hh,h1,h2,h3⟩
 ·exact ⟨_,Row.nil _ _ _,fun _ h=>h,clip_none w⟩
 ·exact ⟨_,.inr ⟨g,_,cur,rfl,hg,hh,Nat.le_refl _,by omega,h3⟩,fun _ h=>h,clip_some g _ c w h1⟩
set_option maxHeartbeats 2000000 in
set_option maxRecDepth 100000 in
theorem signs_ (s:ByteArray) (w:World) (hs:s.size≤1000000000) (hT:Tabs w):
 Calls Tryz.prog 97 #[.string s] w fun e w'=> ∃v,e= .returned v∧Row w' w.heap.size 3 v (iv (sv (signs s.data.toList)))∧Ux.Touch (fun _=>False) w w':=by
 obtain ⟨n,hn⟩: ∃n,s.size=n:=⟨_,rfl⟩
 obtain ⟨l,hl⟩: ∃l,s.data.toList=l:=⟨_,rfl⟩
 rw [hl]
 have HH:=Lib.hid (And.intro hn (And.intro hl (And.intro hT hs)))
 clear hn hl hT hs
 go_enter Tryz.func97,Tryz.ntmps97
 go_wp2
 go_loopg [0,3] n (fun g s0 s3 wr=> ∃(t:ByteArray) (acc:List Nat),s0= .string t∧t.size≤g∧Hid (acc++signs t.data.toList=signs l∧acc.length+t.size≤n∧Ux.Grow wr w.heap.size 3 s3 (iv (sv acc))∧Ux.Touch (fun _=>False) w wr))
 case atStart=>
  exact ⟨s,[],rfl,by have:=HH.out.1;omega,Lib.hid ⟨by rw [HH.out.2.1];rfl,by have:=HH.out.1;simp;omega,Ux.Grow.nil _ _ _,Ux.Touch.refl _ _⟩⟩
 case round=>
  obtain ⟨t,acc,rfl,htg,HI⟩:=hrel
  by_cases h0:t.size=0
  ·have z0: ¬((t.size:Int)>0):=by omega
   obtain ⟨v',hr,hb,hc⟩:=clip_row HI.out.2.2.1.row
   have HC:=Lib.hid hc
   have HR:=Lib.hid hr
   obtain ⟨a,m,c,rfl,hm⟩:=HI.out.2.2.1.is
   clear hc hr hb hm
   go_wp2_with (go_at_call 144;refine HC.out.mono ?_;rintro e w' ⟨rfl,rfl⟩)
   go_ret
   refine ⟨_,rfl,?_,HI.out.2.2.2⟩
   have e:signs t.data.toList= []:=by
    have:t.data.toList= []:=List.eq_nil_of_length_eq_zero (by simpa using h0)
    rw [this];unfold signs;rfl
   have e2:=HI.out.1
   rw [e,List.append_nil] at e2
   rw [←e2]
   exact HR.out
  ·obtain ⟨g',rfl⟩: ∃g',gk=g'+1:=⟨gk-1,by omega⟩
   have z0:(t.size:Int)>0:=by omega
   have C:=Lib.hid (sign_ t wr (by omega) (HH.out.2.2.1.touch HI.out.2.2.2))
   obtain ⟨d,hd⟩: ∃d:Nat×Nat,sg t.data.toList=d:=⟨_,rfl⟩
   obtain ⟨x,k⟩:=d
   rw [hd] at C
   have hne:t.data.toList≠[]:=fun e=>h0 (by have:=congrArg List.length e;simpa using this)
   have hk1:1≤k:=by have:=Ux.Sign.sgN_one (Ux.Sign.bt t.data.toList 0) (Ux.Sign.bt t.data.toList 1) (Ux.Sign.bt t.data.toList 2) (Ux.Sign.bt t.data.toList 3);unfold sg at hd;rw [hd] at this;exact this
   have hk2:k≤t.size:=by have:=Ux.Sign.sg_le hne;rw [hd] at this;simpa using this
   have hsz:(t.extract k t.size).size=t.size-k:=Lib.ext_size t k
   have hsg:signs t.data.toList=x::signs (t.extract k t.size).data.toList:=by rw [signs_cons hne,hd,Lib.ext_list]
   have HK:=Lib.hid (And.intro hsg hsz)
   have hk3:(k:Int)≤t.size:=by omega
   obtain ⟨a,m,c,rfl,hm⟩:=HI.out.2.2.1.is
   clear hd hne hsg hsz
   go_wp2_with (go_at_call 143;fail)
   refine C.out.mono ?_
   rintro e w1 ⟨rfl,T1⟩
   obtain ⟨r2,w3,run2,hG2,t2⟩:=appI (HI.out.2.2.1.touch0 T1) 1 [.int .i64 (x:Int)] rfl (by simp [Value.oneCell']) (by have:=HI.out.2.2.2.size;have:=T1.size;omega) (by have:=HI.out.2.1;have:=HH.out.2.2.2;have:=HH.out.1;rw [Ux.iv_length,Ux.sv_length];omega)
   obtain ⟨a2,m2,c2,rfl,hm2⟩:=hG2.is
   have R2:=Lib.hid run2
   have HG2:=Lib.hid (And.intro hG2 (Ux.Touch.own (HI.out.2.2.2.trans T1 fun _ _ f=>f) (Nat.le_refl _) t2))
   clear run2 hG2 t2 T1 hm hm2 C
   go_wp2_with (at_builtin;refine Ux.wpList_app (v1:= .slice a m c) (x1:= .slice (some ⟨w1.heap.size,0,none⟩) 1 1) rfl _ _ _ _ rfl rfl rfl (R2.out _) ?_)
   go_roundg g'
   case measure=>omega
   case rel=>
    obtain ⟨h1,h2,_,_⟩:=HI.out
    refine ⟨_,acc++ [x],rfl,by have:=HK.out.2;omega,Lib.hid ⟨?_,?_,?_,HG2.out.2⟩⟩
    ·rw [←h1,HK.out.1];simp
    ·have:=HK.out.2;rw [List.length_append,this];simp;omega
    ·rw [Ux.sv_append,Ux.iv_append];exact HG2.out.1
end Go.Proofs.YtfccjaboicpohaaGreatDoor
namespace Go.Proofs.YtfccjaboicpohaaGreatDoor
open Go.RowKit
open Ux (Row iv sv k3 okS)
theorem k3_is {s:List Nat} (h:okS s): ∃x y z:Int,k3 s= [x,y,z]:=by
 have:=Ux.k3_len h.2.1
 match hk:k3 s,this with
 | [x,y,z],_=>exact ⟨x,y,z,rfl⟩
theorem k3_get {s:List Nat} (h:okS s) (i:Nat) (hi:i<3):(k3 s)[i]? =some (match s[i]? with|some c=>(c:Int)+1|none=>0):=by
 unfold k3
 by_cases hl:i<s.length
 ·rw [List.getElem?_append_left (by simpa using hl),List.getElem?_map,List.getElem?_eq_getElem hl];rfl
 ·rw [List.getElem?_append_right (by simp;omega),List.getElem?_eq_none (by omega:s.length≤i),List.length_map,List.getElem?_replicate]
  simp
  omega
set_option maxHeartbeats 2000000 in
set_option maxRecDepth 100000 in
theorem ssigns_ (s:List Nat) (hs:okS s) (w:World):
 Calls Tryz.prog 66 #[.agg (iv (k3 s)).toArray] w fun e w'=> ∃v,e= .returned v∧Row w' w.heap.size 3 v (iv (sv s))∧Ux.Touch (fun _=>False) w w':=by
 obtain ⟨x,y,z,hk⟩:=k3_is hs
 have HH:=Lib.hid hs
 have HK:=Lib.hid hk
 rw [hk]
 have e:(iv [x,y,z]).toArray= #[.int .i64 x,.int .i64 y,.int .i64 z]:=rfl
 rw [e]
 clear hk hs e
 go_enter Tryz.func66,Tryz.ntmps66
 go_wp2
 go_loopg [7,3] 3 (fun g s7 s3 wr=> ∃i:Nat,s7= .int .i64 i∧i+g=3∧Hid (Ux.Grow wr w.heap.size 3 s3 (iv (sv (s.take i)))∧Ux.Touch (fun _=>False) w wr))
 case atStart=>exact ⟨0,rfl,rfl,Lib.hid ⟨Ux.Grow.nil _ _ _,(Ux.Touch.refl _ _).alloc _⟩⟩
 case round=>
  obtain ⟨i,rfl,hi,HI⟩:=hrel
  by_cases h3:i=3
  ·subst h3
   go_wp2
   go_ret
   refine ⟨_,rfl,?_,HI.out.2⟩
   have:=HI.out.1
   rw [List.take_of_length_le HH.out.2.1] at this
   exact this.row
  ·obtain ⟨g',rfl⟩: ∃g',gk=g'+1:=⟨gk-1,by omega⟩
   have hi3:i<3:=by omega
   have i3:(i:Int)<3:=by omega
   have hg:=k3_get HH.out i hi3
   rw [HK.out] at hg
   obtain ⟨c,hc⟩: ∃c:Int,(match s[i]? with|some c=>(c:Int)+1|none=>0)=c:=⟨_,rfl⟩
   rw [hc] at hg
   have hX:(#[Value.int .i64 x,.int .i64 y,.int .i64 z])[i]? =some (.int .i64 c):=by
    rw [show #[Value.int .i64 x,.int .i64 y,.int .i64 z]=(iv [x,y,z]).toArray from rfl,List.getElem?_toArray]
    exact Ux.iv_get (l:= [x,y,z]) hg
   have HX:=Lib.hid hX
   clear hX hg
   cases hs:s[i]? with
   |none=>
    rw [hs] at hc
    have hc:(0:Int)=c:=hc
    subst hc
    have HT:Hid (s.take (i+1)=s.take i):=Lib.hid (by have:=List.getElem?_eq_none_iff.1 hs;rw [List.take_of_length_le this,List.take_of_length_le (by omega)])
    clear hs
    go_wp2_with (refine Ux.is_index 105 rfl ?_;refine Ux.wpList_index rfl 105 3 3 i _ _ rfl #[.int .i64 x,.int .i64 y,.int .i64 z] (.int .i64 0) Tryz.underlying105 (Tryz.sizeOf3 _) (Tryz.isAgg3 _) rfl rfl (by omega) HX.out ?_)
    go_roundg g'
    case measure=>omega
    case rel=>exact ⟨i+1,by congr 1,by omega,Lib.hid ⟨by rw [HT.out];exact HI.out.1,HI.out.2⟩⟩
   |some d=>
    rw [hs] at hc
    have hc:(d:Int)+1=c:=hc
    subst hc
    have hd:=HH.out.2.2 d (List.mem_of_getElem? hs)
    have hd2:(d:Int)<1114368:=by omega
    have hd0:(0:Int)<(d:Int)+1:=by omega
    have HT:Hid (s.take (i+1)=s.take i++ [d]):=Lib.hid (by rw [List.take_add_one,hs];rfl)
    clear hs hd
    obtain ⟨r2,w3,run2,hG2,t2⟩:=appI HI.out.1 1 [.int .i64 (d:Int)] rfl (by simp [Value.oneCell']) (by have:=HI.out.2.size;omega) (by rw [Ux.iv_length,Ux.sv_length,List.length_take];simp;omega)
    obtain ⟨a,m,cc,rfl,hm⟩:=HI.out.1.is
    obtain ⟨a2,m2,c2,rfl,hm2⟩:=hG2.is
    have R2:=Lib.hid run2
    have HG2:=Lib.hid (And.intro hG2 (Ux.Touch.own HI.out.2 (Nat.le_refl _) t2))
    clear run2 hG2 t2 hm hm2
    go_wp2_with (first|(refine Ux.is_index 105 rfl ?_;refine Ux.wpList_index rfl 105 3 3 i _ _ rfl #[.int .i64 x,.int .i64 y,.int .i64 z] (.int .i64 ((d:Int)+1)) Tryz.underlying105 (Tryz.sizeOf3 _) (Tryz.isAgg3 _) rfl rfl (by omega) HX.out ?_)|(at_builtin;refine Ux.wpList_app (v1:= .slice a m cc) (x1:= .slice (some ⟨wr.heap.size,0,none⟩) 1 1) rfl _ _ _ _ rfl rfl rfl (R2.out _) ?_))
    go_roundg g'
    case measure=>omega
    case rel=>exact ⟨i+1,by congr 1,by omega,Lib.hid ⟨by rw [HT.out,Ux.sv_append,Ux.iv_append];exact HG2.out.1,HG2.out.2⟩⟩
theorem ssigns3 (s:List Nat) (hs:okS s) (x y z:Int) (hk:k3 s= [x,y,z]) (w:World):
 Calls Tryz.prog 66 #[.agg #[.int .i64 x,.int .i64 y,.int .i64 z]] w fun e w'=> ∃v,e= .returned v∧Row w' w.heap.size 3 v (iv (sv s))∧Ux.Touch (fun _=>False) w w':=by
 have:=ssigns_ s hs w
 rw [hk] at this
 exact this
end Go.Proofs.YtfccjaboicpohaaGreatDoor
namespace Go.Proofs.YtfccjaboicpohaaGreatDoor
open Go.RowKit
open Ux (Row iv sv bv)
open Ux.Sign (enc encN put)
theorem infoB:(Tryz.prog.info? 5).map (fun i=>(i.zero,i.size,i.bytes))=some (some (.int .u8 0),1,1):=by kernel_rfl
theorem appB {w:World} {lo:Nat} {v:Value} {xs:List Value} (h:Ux.Grow w lo 5 v xs) (m:Nat) (ys:List Value) (hl:ys.length=m) (h1: ∀u∈ys,u.oneCell'=true) (hlo:lo≤w.heap.size) (hb:xs.length+m≤140737488355328):
 ∃r w',(∀ty,(Builtin.append_ #[160,160] ty #[v,.slice (some ⟨w.heap.size,0,none⟩) m m]).run Tryz.prog (w.alloc (.cells ys.toArray 5))= .ok r w')∧Ux.Grow w' lo 5 r (xs++ys)∧Ux.Touch (fun b=>lo≤b∧v.ownBlock=some b) w w':=
 h.app 160 1 (.int .u8 0) Tryz.underlying160 infoB rfl m ys hl h1 hlo (by simp only [maxLen];omega) (by omega)
theorem enc_len (c:Nat):(enc c).length≤4:=by
 unfold enc encN
 rw [List.length_map]
 repeat' split
 all_goals simp
theorem enc_a (c:Nat) (hc:1114112≤c) (h2:c<1114368):bv (enc c)= [.int .u8 ((c:Int) % 256)]:=by
 have e:encN c= [c-1114112]:=by unfold encN;rw [if_pos (by omega)]
 unfold enc bv
 rw [e]
 simp only [List.map_cons,List.map_nil]
 repeat rw [Ux.Sign.toNat_of (by omega)]
 all_goals (simp only [List.cons.injEq,Value.int.injEq,true_and,and_true];omega)
set_option maxHeartbeats 4000000 in
set_option maxRecDepth 100000 in
theorem put_a (c:Nat) (hc:1114112≤c) (h2:c<1114368) (v:Value) (xs:List UInt8) (lo:Nat) (w:World) (hG:Ux.Grow w lo 5 v (bv xs)) (hlo:lo≤w.heap.size) (hx:xs.length≤100000000000):
 Calls Tryz.prog 180 #[v,.int .i64 (c:Int)] w fun e w'=> ∃r,e= .returned r∧Ux.Grow w' lo 5 r (bv (xs++enc c))∧Ux.Touch (fun b=>lo≤b∧v.ownBlock=some b) w w':=by
 obtain ⟨r2,w3,run2,hG2,t2⟩:=appB hG 1 [.int .u8 ((c:Int) % 256)] rfl (by simp [Value.oneCell']) hlo (by rw [Ux.bv_length];omega)
 rw [←enc_a c hc h2,←Ux.bv_append] at hG2
 obtain ⟨a,m,k,rfl,_⟩:=hG.is
 obtain ⟨a2,m2,k2,rfl,_⟩:=hG2.is
 have R2:=Lib.hid run2
 have HG:=Lib.hid (And.intro hG2 t2)
 have j0:((c:Int)≥1114112):=by omega
 clear run2 hG2 t2 hG hx hlo
 go_enter Tryz.func180,Tryz.ntmps180
 go_wp2_with (at_builtin;refine Ux.wpList_app (v1:= .slice a m k) (x1:= .slice (some ⟨w.heap.size,0,none⟩) 1 1) rfl _ _ _ _ rfl rfl rfl (R2.out _) ?_)
 go_ret
 exact ⟨_,rfl,HG.out⟩
theorem enc_b (c:Nat) (hc:c<128) (h2:c<1114368):bv (enc c)= [.int .u8 ((c:Int))]:=by
 have e:encN c= [c]:=by unfold encN;rw [if_neg (by omega),if_pos (by omega)]
 unfold enc bv
 rw [e]
 simp only [List.map_cons,List.map_nil]
 repeat rw [Ux.Sign.toNat_of (by omega)]
 all_goals (simp only [List.cons.injEq,Value.int.injEq,true_and,and_true];omega)
set_option maxHeartbeats 4000000 in
set_option maxRecDepth 100000 in
theorem put_b (c:Nat) (hc:c<128) (h2:c<1114368) (v:Value) (xs:List UInt8) (lo:Nat) (w:World) (hG:Ux.Grow w lo 5 v (bv xs)) (hlo:lo≤w.heap.size) (hx:xs.length≤100000000000):
 Calls Tryz.prog 180 #[v,.int .i64 (c:Int)] w fun e w'=> ∃r,e= .returned r∧Ux.Grow w' lo 5 r (bv (xs++enc c))∧Ux.Touch (fun b=>lo≤b∧v.ownBlock=some b) w w':=by
 obtain ⟨r2,w3,run2,hG2,t2⟩:=appB hG 1 [.int .u8 ((c:Int))] rfl (by simp [Value.oneCell']) hlo (by rw [Ux.bv_length];omega)
 rw [←enc_b c hc h2,←Ux.bv_append] at hG2
 obtain ⟨a,m,k,rfl,_⟩:=hG.is
 obtain ⟨a2,m2,k2,rfl,_⟩:=hG2.is
 have R2:=Lib.hid run2
 have HG:=Lib.hid (And.intro hG2 t2)
 have j0: ¬((c:Int)≥1114112):=by omega
 have j1:(c:Int)<128:=by omega
 clear run2 hG2 t2 hG hx hlo
 go_enter Tryz.func180,Tryz.ntmps180
 go_wp2_with (at_builtin;refine Ux.wpList_app (v1:= .slice a m k) (x1:= .slice (some ⟨w.heap.size,0,none⟩) 1 1) rfl _ _ _ _ rfl rfl rfl (R2.out _) ?_)
 go_ret
 exact ⟨_,rfl,HG.out⟩
theorem enc_c (c:Nat) (hc:128≤c∧c<2048) (h2:c<1114368):bv (enc c)= [.int .u8 (192+(c:Int)/64),.int .u8 (128+(c:Int) % 64)]:=by
 have e:encN c= [192+c/64,128+c % 64]:=by unfold encN;rw [if_neg (by omega),if_neg (by omega),if_pos (by omega)]
 unfold enc bv
 rw [e]
 simp only [List.map_cons,List.map_nil]
 repeat rw [Ux.Sign.toNat_of (by omega)]
 all_goals (simp only [List.cons.injEq,Value.int.injEq,true_and,and_true];omega)
set_option maxHeartbeats 4000000 in
set_option maxRecDepth 100000 in
theorem put_c (c:Nat) (hc:128≤c∧c<2048) (h2:c<1114368) (v:Value) (xs:List UInt8) (lo:Nat) (w:World) (hG:Ux.Grow w lo 5 v (bv xs)) (hlo:lo≤w.heap.size) (hx:xs.length≤100000000000):
 Calls Tryz.prog 180 #[v,.int .i64 (c:Int)] w fun e w'=> ∃r,e= .returned r∧Ux.Grow w' lo 5 r (bv (xs++enc c))∧Ux.Touch (fun b=>lo≤b∧v.ownBlock=some b) w w':=by
 obtain ⟨r2,w3,run2,hG2,t2⟩:=appB hG 2 [.int .u8 (192+(c:Int)/64),.int .u8 (128+(c:Int) % 64)] rfl (by simp [Value.oneCell']) hlo (by rw [Ux.bv_length];omega)
 rw [←enc_c c hc h2,←Ux.bv_append] at hG2
 obtain ⟨a,m,k,rfl,_⟩:=hG.is
 obtain ⟨a2,m2,k2,rfl,_⟩:=hG2.is
 have R2:=Lib.hid run2
 have HG:=Lib.hid (And.intro hG2 t2)
 have j0: ¬((c:Int)≥1114112):=by omega
 have j1: ¬((c:Int)<128):=by omega
 have j2:(c:Int)<2048:=by omega
 clear run2 hG2 t2 hG hx hlo
 go_enter Tryz.func180,Tryz.ntmps180
 go_wp2_with (at_builtin;refine Ux.wpList_app (v1:= .slice a m k) (x1:= .slice (some ⟨w.heap.size,0,none⟩) 2 2) rfl _ _ _ _ rfl rfl rfl (R2.out _) ?_)
 go_ret
 exact ⟨_,rfl,HG.out⟩
theorem enc_d (c:Nat) (hc:2048≤c∧c<65536) (h2:c<1114368):bv (enc c)= [.int .u8 (224+(c:Int)/4096),.int .u8 (128+(c:Int)/64 % 64),.int .u8 (128+(c:Int) % 64)]:=by
 have e:encN c= [224+c/4096,128+c/64 % 64,128+c % 64]:=by unfold encN;rw [if_neg (by omega),if_neg (by omega),if_neg (by omega),if_pos (by omega)]
 unfold enc bv
 rw [e]
 simp only [List.map_cons,List.map_nil]
 repeat rw [Ux.Sign.toNat_of (by omega)]
 all_goals (simp only [List.cons.injEq,Value.int.injEq,true_and,and_true];omega)
set_option maxHeartbeats 4000000 in
set_option maxRecDepth 100000 in
theorem put_d (c:Nat) (hc:2048≤c∧c<65536) (h2:c<1114368) (v:Value) (xs:List UInt8) (lo:Nat) (w:World) (hG:Ux.Grow w lo 5 v (bv xs)) (hlo:lo≤w.heap.size) (hx:xs.length≤100000000000):
 Calls Tryz.prog 180 #[v,.int .i64 (c:Int)] w fun e w'=> ∃r,e= .returned r∧Ux.Grow w' lo 5 r (bv (xs++enc c))∧Ux.Touch (fun b=>lo≤b∧v.ownBlock=some b) w w':=by
 obtain ⟨r2,w3,run2,hG2,t2⟩:=appB hG 3 [.int .u8 (224+(c:Int)/4096),.int .u8 (128+(c:Int)/64 % 64),.int .u8 (128+(c:Int) % 64)] rfl (by simp [Value.oneCell']) hlo (by rw [Ux.bv_length];omega)
 rw [←enc_d c hc h2,←Ux.bv_append] at hG2
 obtain ⟨a,m,k,rfl,_⟩:=hG.is
 obtain ⟨a2,m2,k2,rfl,_⟩:=hG2.is
 have R2:=Lib.hid run2
 have HG:=Lib.hid (And.intro hG2 t2)
 have j0: ¬((c:Int)≥1114112):=by omega
 have j1: ¬((c:Int)<128):=by omega
 have j2: ¬((c:Int)<2048):=by omega
 have j3:(c:Int)<65536:=by omega
 clear run2 hG2 t2 hG hx hlo
 go_enter Tryz.func180,Tryz.ntmps180
 go_wp2_with (at_builtin;refine Ux.wpList_app (v1:= .slice a m k) (x1:= .slice (some ⟨w.heap.size,0,none⟩) 3 3) rfl _ _ _ _ rfl rfl rfl (R2.out _) ?_)
 go_ret
 exact ⟨_,rfl,HG.out⟩
theorem enc_e (c:Nat) (hc:65536≤c∧c<1114112) (h2:c<1114368):bv (enc c)= [.int .u8 (240+(c:Int)/262144),.int .u8 (128+(c:Int)/4096 % 64),.int .u8 (128+(c:Int)/64 % 64),.int .u8 (128+(c:Int) % 64)]:=by
 have e:encN c= [240+c/262144,128+c/4096 % 64,128+c/64 % 64,128+c % 64]:=by unfold encN;rw [if_neg (by omega),if_neg (by omega),if_neg (by omega),if_neg (by omega)]
 unfold enc bv
 rw [e]
 simp only [List.map_cons,List.map_nil]
 repeat rw [Ux.Sign.toNat_of (by omega)]
 all_goals (simp only [List.cons.injEq,Value.int.injEq,true_and,and_true];omega)
set_option maxHeartbeats 4000000 in
set_option maxRecDepth 100000 in
theorem put_e (c:Nat) (hc:65536≤c∧c<1114112) (h2:c<1114368) (v:Value) (xs:List UInt8) (lo:Nat) (w:World) (hG:Ux.Grow w lo 5 v (bv xs)) (hlo:lo≤w.heap.size) (hx:xs.length≤100000000000):
 Calls Tryz.prog 180 #[v,.int .i64 (c:Int)] w fun e w'=> ∃r,e= .returned r∧Ux.Grow w' lo 5 r (bv (xs++enc c))∧Ux.Touch (fun b=>lo≤b∧v.ownBlock=some b) w w':=by
 obtain ⟨r2,w3,run2,hG2,t2⟩:=appB hG 4 [.int .u8 (240+(c:Int)/262144),.int .u8 (128+(c:Int)/4096 % 64),.int .u8 (128+(c:Int)/64 % 64),.int .u8 (128+(c:Int) % 64)] rfl (by simp [Value.oneCell']) hlo (by rw [Ux.bv_length];omega)
 rw [←enc_e c hc h2,←Ux.bv_append] at hG2
 obtain ⟨a,m,k,rfl,_⟩:=hG.is
 obtain ⟨a2,m2,k2,rfl,_⟩:=hG2.is
 have R2:=Lib.hid run2
 have HG:=Lib.hid (And.intro hG2 t2)
 have j0: ¬((c:Int)≥1114112):=by omega
 have j1: ¬((c:Int)<128):=by omega
 have j2: ¬((c:Int)<2048):=by omega
 have j3: ¬((c:Int)<65536):=by omega
 clear run2 hG2 t2 hG hx hlo
 go_enter Tryz.func180,Tryz.ntmps180
 go_wp2_with (at_builtin;refine Ux.wpList_app (v1:= .slice a m k) (x1:= .slice (some ⟨w.heap.size,0,none⟩) 4 4) rfl _ _ _ _ rfl rfl rfl (R2.out _) ?_)
 go_ret
 exact ⟨_,rfl,HG.out⟩
theorem put_ (c:Nat) (h2:c<1114368) (v:Value) (xs:List UInt8) (lo:Nat) (w:World) (hG:Ux.Grow w lo 5 v (bv xs)) (hlo:lo≤w.heap.size) (hx:xs.length≤100000000000):
 Calls Tryz.prog 180 #[v,.int .i64 (c:Int)] w fun e w'=> ∃r,e= .returned r∧Ux.Grow w' lo 5 r (bv (xs++enc c))∧Ux.Touch (fun b=>lo≤b∧v.ownBlock=some b) w w':=by
 by_cases a:1114112≤c
 ·exact put_a c a h2 v xs lo w hG hlo hx
 by_cases b:c<128
 ·exact put_b c b h2 v xs lo w hG hlo hx
 by_cases d:c<2048
 ·exact put_c c ⟨by omega,d⟩ h2 v xs lo w hG hlo hx
 by_cases f:c<65536
 ·exact put_d c ⟨by omega,f⟩ h2 v xs lo w hG hlo hx
 ·exact put_e c ⟨by omega,by omega⟩ h2 v xs lo w hG hlo hx
theorem convB {w:World} {lo:Nat} {v:Value} {xs:List UInt8} (h:Row w lo 5 v (bv xs)):(convert 160 9 v).run Tryz.prog w= .ok (.string ⟨xs.toArray⟩) w:=by
 rcases h with ⟨rfl,h0⟩|⟨g,c,cur,rfl,_,hh,_,_,ht⟩
 ·have:xs= []:=List.eq_nil_of_length_eq_zero (by have:=congrArg List.length h0;simpa [bv] using this)
  subst this
  have:=run_convert_bytes_string (P:=Tryz.prog) w 160 9 5 none 0 0 Tryz.underlying160 Tryz.underlying5 Tryz.underlying9
  rw [this]
  rfl
 ·rw [Ux.bv_length]
  refine run_convert_bytes_back (P:=Tryz.prog) w 160 9 5 ⟨g,0,none⟩ c xs Tryz.underlying160 Tryz.underlying5 Tryz.underlying9 fun j hj=> ?_
  have e:(⟨g,0,none⟩:Addr).add j=⟨g,j,none⟩:=by rw [Addr.add_mid];simp
  rw [e]
  exact Ux.row_cell (xs:=bv xs) hh ht j _ (by unfold bv;rw [List.getElem?_map,List.getElem?_eq_getElem hj];rfl)
set_option maxHeartbeats 2000000 in
set_option maxRecDepth 100000 in
theorem putAll_ (v:Value) (l:List Nat) (lo:Nat) (w:World) (hR:Row w lo 3 v (iv (sv l))) (hl: ∀c∈l,c<1114368) (hn:l.length≤1000000000):
 Calls Tryz.prog 137 #[v] w fun e w'=>e= .returned (.string ⟨(put l).toArray⟩)∧Ux.Touch (fun _=>False) w w':=by
 obtain ⟨a,c,rfl,hcell⟩:=hR.is
 obtain ⟨n,hnn⟩: ∃n,(iv (sv l)).length=n:=⟨_,rfl⟩
 rw [hnn]
 have hnl:l.length=n:=by rw [←hnn,Ux.iv_length,Ux.sv_length]
 have HH:=Lib.hid (And.intro hnl (And.intro hl (And.intro hcell hn)))
 have g0:(n:Int)≤1000000000:=by omega
 clear hnl hl hcell hR hnn hn
 go_enter Tryz.func137,Tryz.ntmps137
 go_wp2
 go_loopg [3,8] n (fun g s3 s8 wr=> ∃i:Nat,s8= .int .i64 i∧i+g=n∧Hid (Ux.Grow wr w.heap.size 5 s3 (bv (put (l.take i)))∧Ux.Touch (fun _=>False) w wr))
 case atStart=>
  exact ⟨0,rfl,by omega,Lib.hid ⟨Ux.Grow.nil _ _ _,Ux.Touch.refl _ _⟩⟩
 case round=>
  obtain ⟨i,rfl,hig,HI⟩:=hrel
  have p0:(0:Int)≤i:=by omega
  by_cases hlt:i<n
  ·obtain ⟨g',rfl⟩: ∃g',gk=g'+1:=⟨gk-1,by omega⟩
   have j1:(i:Int)<n:=by omega
   have hil:i<l.length:=by have:=HH.out.1;omega
   obtain ⟨x,hx⟩: ∃x,l[i]? =some x:=⟨l[i],List.getElem?_eq_getElem hil⟩
   obtain ⟨g0',rfl,hg0,hc0⟩:=HH.out.2.2.1 i _ (Ux.iv_get (Ux.sv_get hx))
   have hlen:(put (l.take i)).length≤4*i:=by
    have: ∀l:List Nat,(put l).length≤4*l.length:=fun l=>by
     induction l with
     |nil=>simp [put]
     |cons d l ih=>rw [Ux.Sign.put_cons,List.length_append,List.length_cons];have:=enc_len d;omega
    refine Nat.le_trans (this _) ?_
    rw [List.length_take]
    omega
   have CP:=Lib.hid (put_ x (HH.out.2.1 x (List.mem_of_getElem? hx)) _ (put (l.take i)) w.heap.size wr HI.out.1 HI.out.2.size (by have:=HH.out.2.2.2;have:=HH.out.1;omega))
   have hc1:=HI.out.2.cell hc0 (fun f=>f)
   have htk:put (l.take (i+1))=put (l.take i)++enc x:=by
    rw [List.take_add_one,hx]
    simp [put]
   have HT:=Lib.hid htk
   obtain ⟨a3,m3,c3,rfl,_⟩:=HI.out.1.is
   clear hc0 hlen hx htk hlt
   go_wp2_with (go_at_call 180;fail)
   refine CP.out.mono ?_
   rintro e w2 ⟨r,rfl,hG,ht⟩
   have HG:=Lib.hid (And.intro hG (Ux.Touch.own HI.out.2 (Nat.le_refl _) ht))
   clear hG ht
   go_wp2
   go_roundg g'
   case measure=>omega
   case rel=>exact ⟨i+1,rfl,by omega,Lib.hid ⟨by rw [HT.out];exact HG.out.1,HG.out.2⟩⟩
  ·obtain rfl:i=n:=by omega
   have q1: ¬(i:Int)<i:=by omega
   have hfull:l.take i=l:=List.take_of_length_le (by have:=HH.out.1;omega)
   have hcv:=convB HI.out.1.row
   rw [hfull] at hcv
   have HC:=Lib.hid hcv
   obtain ⟨a3,m3,c3,rfl,_⟩:=HI.out.1.is
   clear hfull hcv hlt
   go_wp2_with (fail)
   rw [HC.out]
   go_wp2
   go_ret
   exact ⟨rfl,HI.out.2⟩
end Go.Proofs.YtfccjaboicpohaaGreatDoor
namespace Go.Proofs.YtfccjaboicpohaaGreatDoor
open Go.RowKit
open Ux (Row iv sv bv)
open Ux.Sign (sg sgN bt tl isT v3 v4 signs signs_cons)
def RS (s:ByteArray) (w:World):Prop:=Calls Tryz.prog 207 #[.string s] w fun e w'=>e= .returned (.tuple #[.int .i64 ((sg s.data.toList).1:Int),.int .i64 ((sg s.data.toList).2:Int)])∧Ux.Touch (fun _=>False) w w'
end Go.Proofs.YtfccjaboicpohaaGreatDoor
namespace Go.Proofs.YtfccjaboicpohaaGreatDoor
open Go.RowKit
open Ux (Row iv sv bv)
open Ux.Sign (enc encN put signs)
theorem signs_lt (l:List UInt8): ∀c∈signs l,c<1114368:=fun c hc=>by
 rcases Ux.Sign.good_all (Ux.Sign.good_signs l) c hc with h|h
 ·unfold Ux.Sign.cp at h;omega
 ·unfold Ux.Sign.raw at h;omega
theorem signs_len (l:List UInt8):(signs l).length≤l.length:=by
 obtain ⟨n,hn⟩: ∃n,l.length=n:=⟨_,rfl⟩
 induction n using Nat.strongRecOn generalizing l with
 |_ n ih=>
  by_cases h:l= []
  ·subst h;unfold signs;simp
  ·rw [Ux.Sign.signs_cons h,List.length_cons]
   have h1:1≤(Ux.Sign.sg l).2:=Ux.Sign.sgN_one _ _ _ _
   have h2:=Ux.Sign.sg_le h
   have h3:(l.drop (Ux.Sign.sg l).2).length=l.length-(Ux.Sign.sg l).2:=List.length_drop
   have:=ih (l.drop (Ux.Sign.sg l).2).length (by omega) _ rfl
   omega
theorem put_len (l:List Nat):(put l).length≤4*l.length:=by
 induction l with
 |nil=>simp [put]
 |cons d l ih=>rw [Ux.Sign.put_cons,List.length_append,List.length_cons];have:=enc_len d;omega
end Go.Proofs.YtfccjaboicpohaaGreatDoor
