/- A part of the proof that the statement holds for every input that it names. No other condition. -/
import Derived.Carry
import Derived.Test.YtmnkinaaoifpeaaGreatDoorUxMapAZ
import Derived.Test.YtmnkinaaoifpeaaGreatDoorElemAZ
import Derived.Test.YtmnkinaaoifpeaaGreatDoorUxFewZ
set_option linter.unusedVariables false
set_option linter.unusedSimpArgs false
namespace Go.Proofs.YtmnkinaaoifpeaaGreatDoor
open Go.RowKit
open Ux (Row iv Ent k3 kl3 okS okE ev TabMap Tells okT)
theorem laidS:laidOutB Tryz.prog=true:=by kernel_rfl
theorem rowS:199<Tryz.prog.types.size:=of_decide_eq_true (by kernel_rfl)
theorem wideS:(match Tryz.prog.underlying 199 with|some (.array _ _)|some (.struct _)=>true|_=>false)=true:=by rw [Tryz.underlying199]
set_option maxRecDepth 1000000 in
theorem keyedS:Go.Maps.Keyed Tryz.prog 199:=Go.Maps.Keyed.of_law (deep_law_laid laidS (m:=3) (by omega) rowS (by kernel_rfl) wideS)
theorem keyS {s:List Nat} (h:okS s):Go.keyOf Tryz.prog 199 (.agg (iv (k3 s)).toArray)=some (kl3 s):=
 Ux.keyOf_ints (P:=Tryz.prog) (ar:=3) (e:=3) (q:= .i64) Tryz.underlying199 Tryz.underlying3 (by kernel_rfl) (by kernel_rfl) (by kernel_rfl) (m:=Tryz.prog.types.size-1) (by kernel_rfl) (Ux.k3_len h.2.1) (Ux.k3_wf h)
theorem okS1 {c:Nat} (h:c<1114368):okS [c]:=⟨by simp,by simp,fun d hd=>by simp at hd;omega⟩
theorem iv_k3_1 (c:Nat):iv (k3 [c])= [.int .i64 ((c:Int)+1),.int .i64 0,.int .i64 0]:=by unfold iv k3;simp [List.replicate]
theorem keyS1 {c:Nat} (h:c<1114368):Go.keyOf Tryz.prog 199 (.agg #[.int .i64 ((c:Int)+1),.int .i64 0,.int .i64 0])=some (kl3 [c]):=by
 have:=keyS (okS1 h)
 rw [iv_k3_1] at this
 exact this
abbrev TM (w:World) (b:Nat) (E:List Ent):Prop:=TabMap Tryz.prog 199 202 w b E
set_option maxHeartbeats 2000000 in
set_option maxRecDepth 100000 in
theorem rput_ (tb mb c:Nat) (C:Int) (hC:C=c) (l:List Nat) (v:Value) (E:List Ent) (w:World) (hc:w.cell? ⟨tb,0,none⟩=some (.map (some mb))) (hT:TM w mb E) (hn: [c]∉E.map (·.1)) (hok:okE ([c],l)) (hv:Row w 0 202 v (ev l)) (hl:E.length≤1000000):
 Calls Tryz.prog 113 #[.int .i64 C,v,.pointer (some ⟨tb,0,none⟩)] w fun e w'=>e= .returned (.tuple #[])∧TM w' mb (E++ [([c],l)])∧Ux.Touch (fun i=>i=mb) w w':=by
 subst hC
 obtain ⟨h0,f,h1,h2⟩:=hT
 have hk:=keyS1 (c:=c) (hok.1.2.2 c (by simp))
 have hc1:(c:Int)<1114368:=by have:=hok.1.2.2 c (by simp);omega
 have HH:=Lib.hid (And.intro h1 (And.intro hk hl))
 have HE:Hid (∀w',Ux.MapIs Tryz.prog 199 w' mb (E.length+1) (Ux.upd f (kl3 [c]) v)→Ux.Touch (fun i=>i=mb) w w'→TM w' mb (E++ [([c],l)])):=Lib.hid fun w' hm ht=>TabMap.put h0 h1 h2 hok hn hv hm ht
 clear h0 h1 h2 hn hok hv hl hk
 go_enter Tryz.func113,Tryz.ntmps113
 go_wp2_with (at_mapUpdate;refine Ux.wpList_put (key:= .agg #[.int .i64 ((c:Int)+1),.int .i64 0,.int .i64 0]) (val:=v) rfl _ _ _ 196 rfl rfl rfl rfl HH.out.1 keyedS Tryz.underlying196 (by have:=HH.out.2.2;unfold maxLen;omega) HH.out.2.1 ?_;intro w3 hm3 ht3;have H3:=Lib.hid (And.intro hm3 ht3);clear hm3 ht3)
 go_returns
 exact ⟨rfl,HE.out _ H3.out.1 H3.out.2,H3.out.2⟩
end Go.Proofs.YtmnkinaaoifpeaaGreatDoor
namespace Go.Proofs.YtmnkinaaoifpeaaGreatDoor
open Go.RowKit
open Ux (Row iv Ent k3 kl3 okS okE ev TabMap Tells okT eMk eLetter eMark sv rootE rootSp rootMk rootGr rootAt)
def RootAt (wr w:World) (tb mb n:Nat):Prop:=TM wr mb (rootE.take n)∧wr.heap[tb]? =some (.cells #[.map (some mb)] 196 (0,0))∧Ux.Touch (fun _=>False) w wr∧w.heap.size≤mb∧w.heap.size≤tb∧tb≠mb
theorem RootAt.touch0 {wr w w':World} {tb mb n:Nat} (h:RootAt wr w tb mb n) (ht:Ux.Touch (fun _=>False) wr w'):RootAt w' w tb mb n:=
 ⟨h.1.touch0 ht,ht.heap h.2.1 (fun f=>f),h.2.2.1.trans ht (fun _ _ f=>f),h.2.2.2⟩
theorem RootAt.turn {wr w w':World} {tb mb n r:Nat} {s:ByteArray} {pos:Nat} (h:RootAt wr w tb mb n) (hr:wr.heap[r]? =some (.stringIter s pos)) (hlo:w.heap.size≤r) (ht:Ux.Touch (fun i=>i=r) wr w'):RootAt w' w tb mb n:=by
 obtain ⟨h1,h2,h3,h4,h5,h6⟩:=h
 have n1: ¬mb=r:=fun e=>by
  obtain ⟨_,f,⟨D,⟨es,clock,hh,_⟩,_⟩,_⟩:=h1
  rw [e,hr] at hh
  cases hh
 have n2: ¬tb=r:=fun e=>by rw [e,hr] at h2;cases h2
 exact ⟨h1.touch ht n1 (fun g cs hh e=>by rw [e,hr] at hh;cases hh),ht.heap h2 n2,h3.trans ht (fun i hi e=>by omega),h4,h5,h6⟩
theorem ev_row (w:World) (l:List Nat) (n:Nat) (hn:l.length=n):Row (w.alloc (.cells (ev l).toArray 202)) 0 202 (.slice (some ⟨w.heap.size,0,none⟩) n n) (ev l):=by
 subst hn
 exact .inr ⟨w.heap.size,_,_,by rw [Ux.ev_length],Nat.zero_le _,heap_alloc_new w _,by rw [Ux.ev_length];exact Nat.le_refl _,by simp [Ux.ev_length],by exact List.take_of_length_le (by rw [Ux.ev_length];exact Nat.le_refl _)⟩
theorem rstepV {wr w:World} {tb mb n:Nat} (h:RootAt wr w tb mb n) (c:Nat) (C:Int) (hC:C=c) (l:List Nat) (hn:rootE[n]? =some ([c],l)) (v:Value) (hv:Row wr 0 202 v (ev l)):
 Calls Tryz.prog 113 #[.int .i64 C,v,.pointer (some ⟨tb,0,none⟩)] wr fun e w'=>e= .returned (.tuple #[])∧RootAt w' w tb mb (n+1)∧Ux.Touch (fun i=>i=mb) wr w':=by
 obtain ⟨h1,h2,h3,h4,h5,h6⟩:=h
 obtain ⟨n1,n2,n3⟩:=Ux.root_new hn
 have c0:wr.cell? ⟨tb,0,none⟩=some (.map (some mb)):=by rw [cell_of_row wr tb 0 _ _ (0,0) h2];rfl
 refine (rput_ tb mb c C hC l v (rootE.take n) wr c0 h1 n1 n3 hv (by rw [List.length_take];have:=Ux.rootE_len;omega)).mono ?_
 rintro e w' ⟨rfl,hm,ht⟩
 exact ⟨rfl,⟨by rw [n2];exact hm,ht.heap h2 (fun e=>h6 e),h3.trans ht (fun i hi e=>by omega),h4,h5,h6⟩,ht⟩
theorem rstep1 {wr w:World} {tb mb n:Nat} (h:RootAt wr w tb mb n) (c:Nat) (C:Int) (hC:C=c) (x:Nat) (hn:rootE[n]? =some ([c],[x])):
 Calls Tryz.prog 113 #[.int .i64 C,.slice (some ⟨wr.heap.size,0,none⟩) 1 1,.pointer (some ⟨tb,0,none⟩)] (wr.alloc (.cells #[.int .u32 (x:Int)] 202)) fun e w'=>e= .returned (.tuple #[])∧RootAt w' w tb mb (n+1)∧Ux.Touch (fun i=>i=mb) wr w':=by
 have T:=(Ux.Touch.refl (fun _=>False) wr).alloc (.cells #[.int .u32 (x:Int)] 202)
 refine (rstepV (h.touch0 T) c C hC [x] hn _ (ev_row wr [x] 1 rfl)).mono ?_
 rintro e w' ⟨rfl,h1,h2⟩
 exact ⟨rfl,h1,(T.mono (R':=fun i=>i=mb) fun _ _ f=>f.elim).trans h2 fun _ _ h=>h⟩
theorem rstep2 {wr w:World} {tb mb n:Nat} (h:RootAt wr w tb mb n) (c:Nat) (C:Int) (hC:C=c) (x y:Nat) (hn:rootE[n]? =some ([c],[x,y])):
 Calls Tryz.prog 113 #[.int .i64 C,.slice (some ⟨wr.heap.size,0,none⟩) 2 2,.pointer (some ⟨tb,0,none⟩)] (wr.alloc (.cells #[.int .u32 (x:Int),.int .u32 (y:Int)] 202)) fun e w'=>e= .returned (.tuple #[])∧RootAt w' w tb mb (n+1)∧Ux.Touch (fun i=>i=mb) wr w':=by
 have T:=(Ux.Touch.refl (fun _=>False) wr).alloc (.cells #[.int .u32 (x:Int),.int .u32 (y:Int)] 202)
 refine (rstepV (h.touch0 T) c C hC [x,y] hn _ (ev_row wr [x,y] 2 rfl)).mono ?_
 rintro e w' ⟨rfl,h1,h2⟩
 exact ⟨rfl,h1,(T.mono (R':=fun i=>i=mb) fun _ _ f=>f.elim).trans h2 fun _ _ h=>h⟩
theorem rstep2d {wr w:World} {tb mb n:Nat} (h:RootAt wr w tb mb n) (c:Nat) (C:Int) (hC:C=c) (x y:Nat) (hn:rootE[n]? =some ([c],[x,y])):
 Calls Tryz.prog 113 #[.int .i64 C,.slice (some ⟨wr.heap.size,0,none⟩) 2 2,.pointer (some ⟨tb,0,none⟩)] (wr.alloc (.cells #[.int .u32 (x:Int),.int .u32 (y:Int)] 202)).drew fun e w'=>e= .returned (.tuple #[])∧RootAt w' w tb mb (n+1)∧Ux.Touch (fun i=>i=mb) wr w':=by
 have T:=((Ux.Touch.refl (fun _=>False) wr).alloc (.cells #[.int .u32 (x:Int),.int .u32 (y:Int)] 202)).drew
 refine (rstepV (h.touch0 T) c C hC [x,y] hn _ ((ev_row wr [x,y] 2 rfl).touch0 (Ux.Touch.refl _ _).drew)).mono ?_
 rintro e w' ⟨rfl,h1,h2⟩
 exact ⟨rfl,h1,(T.mono (R':=fun i=>i=mb) fun _ _ f=>f.elim).trans h2 fun _ _ h=>h⟩
def spT:ByteArray:=⟨#[32,95,45,44,46,39]⟩
theorem spT_size:spT.size=6:=rfl
theorem spT_at (i:Nat) (h:i<spT.size):((spT[i]'h).toNat:Int)=rootSp.getD i 0∧(spT[i]'h).toNat<128:=by
 have h0: ∀j:Fin 6,((spT[j.1]'j.2).toNat:Int)=rootSp.getD j.1 0∧(spT[j.1]'j.2).toNat<128:=by decide+kernel
 exact h0 ⟨i,h⟩
theorem mk_at: ∀i,i<8→(#[Value.int .i64 768,.int .i64 769,.int .i64 770,.int .i64 771,.int .i64 772,.int .i64 776,.int .i64 778,.int .i64 807])[i]? =some (.int .i64 (rootMk.getD i 0:Nat))∧rootMk.getD i 0∈[768,769,770,771,772,776,778,807]
 |0,_=>⟨rfl,by decide⟩
 |1,_=>⟨rfl,by decide⟩
 |2,_=>⟨rfl,by decide⟩
 |3,_=>⟨rfl,by decide⟩
 |4,_=>⟨rfl,by decide⟩
 |5,_=>⟨rfl,by decide⟩
 |6,_=>⟨rfl,by decide⟩
 |7,_=>⟨rfl,by decide⟩
theorem mk_lt (c:Nat) (h:c∈[768,769,770,771,772,776,778,807]):(c:Int)<808:=by
 simp only [List.mem_cons,List.mem_nil_iff,or_false] at h
 omega
def grA (g:Nat):Array Value:= #[.int .i64 192,.int .i32 97,.slice (some ⟨g,0,none⟩) 6 6,.int .i64 199,.int .i32 99,.slice (some ⟨g+1,0,none⟩) 1 1,.int .i64 200,.int .i32 101,.slice (some ⟨g+1+1,0,none⟩) 4 4,
 .int .i64 204,.int .i32 105,.slice (some ⟨g+1+1+1,0,none⟩) 4 4,.int .i64 209,.int .i32 110,.slice (some ⟨g+1+1+1+1,0,none⟩) 1 1,.int .i64 210,.int .i32 111,.slice (some ⟨g+1+1+1+1+1,0,none⟩) 5 5,
 .int .i64 217,.int .i32 117,.slice (some ⟨g+1+1+1+1+1+1,0,none⟩) 4 4,.int .i64 221,.int .i32 121,.slice (some ⟨g+1+1+1+1+1+1+1,0,none⟩) 1 1]
def grF (j:Nat):Nat:=(rootGr.getD j (0,0,[])).1
def grL (j:Nat):Nat:=(rootGr.getD j (0,0,[])).2.1
def grM (j:Nat):List Nat:=(rootGr.getD j (0,0,[])).2.2
theorem grA_at (g:Nat): ∀j,j<8→Value.agg ((grA g).extract (j*3) (j*3+3))= .agg #[.int .i64 (grF j:Nat),.int .i32 (97+(grL j:Nat)),.slice (some ⟨g+j,0,none⟩) (grM j).length (grM j).length]
 |0,_=>rfl
 |1,_=>rfl
 |2,_=>rfl
 |3,_=>rfl
 |4,_=>rfl
 |5,_=>rfl
 |6,_=>rfl
 |7,_=>rfl
def grW (w:World):World:=(((((((w.alloc (.cells #[.int .i64 768,.int .i64 769,.int .i64 770,.int .i64 771,.int .i64 776,.int .i64 778] 3)).alloc (.cells #[.int .i64 807] 3)).alloc
 (.cells #[.int .i64 768,.int .i64 769,.int .i64 770,.int .i64 776] 3)).alloc (.cells #[.int .i64 768,.int .i64 769,.int .i64 770,.int .i64 776] 3)).alloc (.cells #[.int .i64 771] 3)).alloc
 (.cells #[.int .i64 768,.int .i64 769,.int .i64 770,.int .i64 771,.int .i64 776] 3)).alloc (.cells #[.int .i64 768,.int .i64 769,.int .i64 770,.int .i64 776] 3)).alloc (.cells #[.int .i64 769] 3)
theorem grW_touch (w:World):Ux.Touch (fun _=>False) w (grW w):=((((((((Ux.Touch.refl _ w).alloc _).alloc _).alloc _).alloc _).alloc _).alloc _).alloc _).alloc _
theorem grW_at (w:World) (j:Nat) (h:j<8):(grW w).heap[w.heap.size+j]? =some (.cells (iv (sv (grM j))).toArray 3 (0,0)):=by
 unfold grW
 simp only [Ux.alloc_at,World.size_alloc]
 match j,h with
 |0,_=>(repeat first|rw [if_pos (by omega)]|rw [if_neg (by omega)])<;>rfl
 |1,_=>(repeat first|rw [if_pos (by omega)]|rw [if_neg (by omega)])<;>rfl
 |2,_=>(repeat first|rw [if_pos (by omega)]|rw [if_neg (by omega)])<;>rfl
 |3,_=>(repeat first|rw [if_pos (by omega)]|rw [if_neg (by omega)])<;>rfl
 |4,_=>(repeat first|rw [if_pos (by omega)]|rw [if_neg (by omega)])<;>rfl
 |5,_=>(repeat first|rw [if_pos (by omega)]|rw [if_neg (by omega)])<;>rfl
 |6,_=>(repeat first|rw [if_pos (by omega)]|rw [if_neg (by omega)])<;>rfl
 |7,_=>(repeat first|rw [if_pos (by omega)]|rw [if_neg (by omega)])<;>rfl
theorem gr_lt: ∀j,j<8→grF j<1000∧grL j<26∧(grM j).length≤6∧∀c∈grM j,c∈[768,769,770,771,772,776,778,807]:=by decide+kernel
def gat (j:Nat):Nat:=rootAt.getD j 128
theorem gat_1: ∀j,j<8→rootAt.getD j 0=gat j∧gat (j+1)=gat j+2*(grM j).length:=by decide+kernel
theorem gr_5 (j:Nat) (h:j<8) (k c:Nat) (hk:(grM j)[k]? =some c):rootE[gat j+2*k]? =some ([grF j+k],[eLetter (grL j) 8,eMark c])∧rootE[gat j+2*k+1]? =some ([grF j+k+32],[eLetter (grL j) 2,eMark c]):=by
 obtain ⟨h1,h2⟩:=List.getElem?_eq_some_iff.1 hk
 have h3:=Ux.rootE_5 j h k h1
 unfold Ux.rootG5 at h3
 have h4:(rootGr.getD j (0,0,[])).2.2.getD k 0=c:=by
  have:(grM j).getD k 0=c:=by rw [List.getD_eq_getElem?_getD,hk];rfl
  exact this
 rw [h4,(gat_1 j h).1] at h3
 exact h3
theorem RootAt.ne {wr w:World} {tb mb n g:Nat} {cs:Array Value} {t:TypeId} (h:RootAt wr w tb mb n) (hh:wr.heap[g]? =some (.cells cs t (0,0))): ¬g=mb:=by
 obtain ⟨_,f,h1,_⟩:=h.1
 exact h1.notCells (t:=t) g cs hh
set_option maxHeartbeats 8000000 in
set_option maxRecDepth 100000 in
theorem root_ (w:World) (Q:Value→World→Prop) (hB: ∀wr,RootAt wr w (w.heap.size+1) w.heap.size 132→Calls Tryz.prog 117 #[.map (some w.heap.size)] wr fun e w'=> ∃v,e= .returned v∧Q v w'):Calls Tryz.prog 82 #[] w fun e w'=> ∃v,e= .returned v∧Q v w':=by
 have hmm:= @run_makeMap Tryz.prog
 obtain ⟨mb,hmb⟩: ∃b,w.heap.size=b:=⟨_,rfl⟩
 rw [hmb] at hB
 have HB0:=Lib.hid hB
 clear hB
 have R0:RootAt ((w.alloc (.map #[] 0)).alloc (.cells #[.map (some mb)] 196)) w (mb+1) mb 0:=by
  refine ⟨?_,?_,((Ux.Touch.refl _ w).alloc _).alloc _,by omega,by omega,by omega⟩
  ·rw [←hmb]
   exact (TabMap.made w Tryz.prog 199 202).touch0 ((Ux.Touch.refl _ _).alloc _)
  ·have:=heap_alloc_new (w.alloc (.map #[] 0)) (.cells #[.map (some mb)] 196)
   rwa [World.size_alloc,hmb] at this
 have HR0:=Lib.hid R0
 clear R0
 go_enter Tryz.func82,Tryz.ntmps82
 go_wp2
 go_loopg [] 6 (fun g wr=> ∃i:Nat,i+g=6∧Hid (RootAt wr w (mb+1) mb i∧wr.heap[mb+1+1]? =some (.stringIter spT i)))
 case atStart=>
  refine ⟨0,rfl,Lib.hid ⟨HR0.out.touch0 ((Ux.Touch.refl _ _).alloc _),?_⟩⟩
  have:=heap_alloc_new ((w.alloc (.map #[] 0)).alloc (.cells #[.map (some mb)] 196)) (.stringIter spT 0)
  rwa [World.size_alloc,World.size_alloc,hmb] at this
 case round=>
  obtain ⟨i,hi,HI⟩:=hrel
  by_cases h6:i=6
  ·subst h6
   go_wp2_with (at_next;refine Ux.wpList_nextS_end rfl _ rfl spT (mb+1+1) 6 rfl HI.out.2 (by rw [spT_size];omega) ?_)
   have HR1:=Lib.hid HI.out.1
   clear HI HR0
   go_loopg [29] 10 (fun g s29 wr=> ∃i:Nat,s29= .int .i64 i∧i+g=10∧Hid (RootAt wr w (mb+1) mb (6+i)))
   case atStart=>exact ⟨0,rfl,rfl,HR1⟩
   case round=>
    clear HR1
    obtain ⟨i,rfl,hi,HI⟩:=hrel
    by_cases h10:i=10
    ·subst h10
     go_wp2
     go_loopg [6] 26 (fun g s6 wr=> ∃i:Nat,s6= .int .i32 (97+i)∧i+g=26∧Hid (RootAt wr w (mb+1) mb (16+2*i)))
     case atStart=>exact ⟨0,rfl,rfl,HI⟩
     case round=>
      clear HI
      obtain ⟨i,rfl,hi,HI⟩:=hrel
      by_cases h26:i=26
      ·subst h26
       go_wp2
       go_loopg [62] 8 (fun g s62 wr=> ∃i:Nat,s62= .int .i64 i∧i+g=8∧Hid (RootAt wr w (mb+1) mb (68+i)))
       case atStart=>exact ⟨0,rfl,rfl,HI⟩
       case round=>
        clear HI
        obtain ⟨i,rfl,hi,HI⟩:=hrel
        by_cases h8:i=8
        ·subst h8
         go_wp2
         obtain ⟨gb,hgb⟩: ∃gb,wr.heap.size=gb:=⟨_,rfl⟩
         have HG0:Hid (RootAt (grW wr) w (mb+1) mb 76∧∀j,j<8→(grW wr).heap[gb+j]? =some (.cells (iv (sv (grM j))).toArray 3 (0,0))):=Lib.hid ⟨HI.out.touch0 (grW_touch wr),fun j hj=>hgb▸grW_at wr j hj⟩
         clear HI
         rw [hgb]
         go_loopg [89] 8 (fun g s89 wr=> ∃i:Nat,s89= .int .i64 i∧i+g=8∧Hid (RootAt wr w (mb+1) mb (gat i)∧∀j,j<8→wr.heap[gb+j]? =some (.cells (iv (sv (grM j))).toArray 3 (0,0))))
         case atStart=>exact ⟨0,rfl,rfl,HG0⟩
         case round=>
          clear HG0
          obtain ⟨i,rfl,hi,HI⟩:=hrel
          by_cases h8:i=8
          ·subst h8
           have HR:=Lib.hid HI.out.1
           clear HI
           go_wp2_with (go_at_call 115;refine (letter_ 18 4 115 4 rfl rfl (by omega) (by omega) _).mono ?_;rintro e w' ⟨rfl,rfl⟩)
           refine (rstep2 HR.out 223 _ rfl _ _ Ux.rootE_6.1).mono ?_
           rintro e w1 ⟨rfl,h1,t1⟩
           have HR1:=Lib.hid h1
           clear h1 t1 HR
           go_wp2_with (go_at_call 115;fail)
           refine (letter_ 0 10 97 10 rfl rfl (by omega) (by omega) _).mono ?_
           rintro e w' ⟨rfl,rfl⟩
           go_wp2_with (go_at_call 115;fail)
           refine (letter_ 4 10 101 10 rfl rfl (by omega) (by omega) _).mono ?_
           rintro e w' ⟨rfl,rfl⟩
           go_wp2_with (fail)
           refine (rstep2 HR1.out 198 _ rfl _ _ Ux.rootE_6.2.1).mono ?_
           rintro e w2 ⟨rfl,h1,t1⟩
           have HR2:=Lib.hid h1
           clear h1 t1 HR1
           go_wp2_with (go_at_call 115;fail)
           refine (letter_ 0 4 97 4 rfl rfl (by omega) (by omega) _).mono ?_
           rintro e w' ⟨rfl,rfl⟩
           go_wp2_with (go_at_call 115;fail)
           refine (letter_ 4 4 101 4 rfl rfl (by omega) (by omega) _).mono ?_
           rintro e w' ⟨rfl,rfl⟩
           go_wp2_with (fail)
           refine (rstep2 HR2.out 230 _ rfl _ _ Ux.rootE_6.2.2.1).mono ?_
           rintro e w3 ⟨rfl,h1,t1⟩
           have HR3:=Lib.hid h1
           clear h1 t1 HR2
           go_wp2_with (fail)
           refine (rstepV HR3.out 173 _ rfl [] Ux.rootE_6.2.2.2 _ (.inl ⟨rfl,rfl⟩)).mono ?_
           rintro e w4 ⟨rfl,h1,t1⟩
           have cE:w4.cell? ⟨mb+1,0,none⟩=some (.map (some mb)):=by rw [cell_of_row w4 (mb+1) 0 _ _ (0,0) h1.2.1];rfl
           have HR4:=Lib.hid h1
           clear h1 t1 HR3
           go_wp2_with (go_at_call 117;fail)
           refine (HB0.out _ HR4.out).mono ?_
           rintro e w5 ⟨v,rfl,hv⟩
           have HV:=Lib.hid hv
           clear hv
           go_wp2
           go_ret
           exact ⟨v,rfl,HV.out⟩
          ·obtain ⟨g',rfl⟩: ∃g',gk=g'+1:=⟨gk-1,by omega⟩
           have hi8:i<8:=by omega
           have i8:(i:Int)<8:=by omega
           have HX:=grA_at gb i hi8
           have HB:=gr_lt i hi8
           have HE:=gr_5 i hi8
           have HN:=(gat_1 i hi8).2
           have hcg:=HI.out.2 i hi8
           have HR:=HI.out.1
           obtain ⟨F,hF⟩: ∃F,grF i=F:=⟨_,rfl⟩
           obtain ⟨L,hL⟩: ∃L,grL i=L:=⟨_,rfl⟩
           obtain ⟨M,hM⟩: ∃M,grM i=M:=⟨_,rfl⟩
           obtain ⟨nM,hnM⟩: ∃n,M.length=n:=⟨_,rfl⟩
           obtain ⟨n0,hn0⟩: ∃n,gat i=n:=⟨_,rfl⟩
           obtain ⟨q,hq⟩: ∃q,wr.heap.size=q:=⟨_,rfl⟩
           rw [hF,hL,hM] at HX HB HE
           rw [hM] at hcg HN
           rw [hn0] at HE HN HR
           rw [hnM] at HX HB HN
           have hqm: ¬q=mb:=by have:=HR.1.lt;omega
           have F0:(F:Int)<1000:=by have:=HB.1;omega
           have L0:(L:Int)<26:=by have:=HB.2.1;omega
           have nM0:(nM:Int)≤6:=by have:=HB.2.2.1;omega
           have HA:=Lib.hid HI.out.2
           have HX:=Lib.hid HX
           have HB:=Lib.hid HB
           have HE:=Lib.hid (And.intro HE (And.intro HN hnM))
           have HS:Hid (RootAt (wr.alloc (.cells #[.int .i64 (F:Int),.int .i32 (97+(L:Int)),.slice (some ⟨gb+i,0,none⟩) nM nM] 207)) w (mb+1) mb (n0+2*0)∧
            (∀j,j<8→(wr.alloc (.cells #[.int .i64 (F:Int),.int .i32 (97+(L:Int)),.slice (some ⟨gb+i,0,none⟩) nM nM] 207)).heap[gb+j]? =some (.cells (iv (sv (grM j))).toArray 3 (0,0)))∧
            (wr.alloc (.cells #[.int .i64 (F:Int),.int .i32 (97+(L:Int)),.slice (some ⟨gb+i,0,none⟩) nM nM] 207)).heap[q]? =some (.cells #[.int .i64 (F:Int),.int .i32 (97+(L:Int)),.slice (some ⟨gb+i,0,none⟩) nM nM] 207 (0,0))):=by
            have T:=(Ux.Touch.refl (fun _=>False) wr).alloc (.cells #[.int .i64 (F:Int),.int .i32 (97+(L:Int)),.slice (some ⟨gb+i,0,none⟩) nM nM] 207)
            exact Lib.hid ⟨HR.touch0 T,fun j hj=>T.heap (HA.out j hj) (fun f=>f),hq▸heap_alloc_new wr _⟩
           clear HI HR hcg HN hF hL hnM hn0
           go_wp2_with (first|(refine Ux.is_index 208 rfl ?_;refine Ux.wpList_indexAgg rfl 208 207 8 i 3 _ _ rfl (grA gb) _ Tryz.underlying208 (Tryz.sizeOf207 _) (Tryz.isAgg207 _) rfl rfl (by omega) HX.out ?_))
           clear hq HA
           go_loopg [95] nM (fun g s95 w2=> ∃k:Nat,s95= .int .i64 k∧k+g=nM∧Hid (RootAt w2 w (mb+1) mb (n0+2*k)∧(∀j,j<8→w2.heap[gb+j]? =some (.cells (iv (sv (grM j))).toArray 3 (0,0)))∧
            w2.heap[q]? =some (.cells #[.int .i64 (F:Int),.int .i32 (97+(L:Int)),.slice (some ⟨gb+i,0,none⟩) nM nM] 207 (0,0))))
           case atStart=>exact ⟨0,rfl,by omega,HS⟩
           case round=>
            clear HS
            obtain ⟨k,rfl,hk,HI⟩:=hrel
            by_cases hkn:k=nM
            ·subst hkn
             have HN:Hid (RootAt wr w (mb+1) mb (gat (i+1))∧∀j,j<8→wr.heap[gb+j]? =some (.cells (iv (sv (grM j))).toArray 3 (0,0))):=Lib.hid ⟨HE.out.2.1▸HI.out.1,HI.out.2.1⟩
             go_wp2
             go_roundg g'
             case measure=>omega
             case rel=>exact ⟨i+1,by congr 1,by omega,HN⟩
            ·obtain ⟨g2,rfl⟩: ∃g2,gk=g2+1:=⟨gk-1,by omega⟩
             have hkl:k<M.length:=by have:=HE.out.2.2;omega
             have hkn2:(k:Int)<nM:=by have:=HE.out.2.2;omega
             obtain ⟨c,hc⟩: ∃c,M[k]? =some c:=⟨_,List.getElem?_eq_getElem hkl⟩
             have hcm:=HB.out.2.2.2 c (List.mem_of_getElem? hc)
             have hP:=HE.out.1 k c hc
             have HO:=Lib.hid fun W=>letter_ L 8 (97+(L:Int)) 8 rfl rfl HB.out.2.1 (by omega) W
             have HO2:=Lib.hid fun W=>letter_ L 2 (97+(L:Int)) 2 rfl rfl HB.out.2.1 (by omega) W
             have HM:=Lib.hid fun W=>mark_ c (c:Int) rfl hcm W
             have c808:=mk_lt c hcm
             obtain ⟨x,hx⟩: ∃x,eLetter L 8=x:=⟨_,rfl⟩
             obtain ⟨y,hy⟩: ∃y,eLetter L 2=y:=⟨_,rfl⟩
             obtain ⟨z,hz⟩: ∃z,eMark c=z:=⟨_,rfl⟩
             rw [hx,hy,hz] at hP
             rw [hx] at HO
             rw [hy] at HO2
             rw [hz] at HM
             have HP:=Lib.hid hP
             have hmc:wr.cell? ⟨gb+i,k,none⟩=some (.int .i64 (c:Int)):=by
              have h:=HI.out.2.1 i hi8
              rw [hM] at h
              rw [cell_of_row wr (gb+i) k _ _ (0,0) h,List.getElem?_toArray]
              exact Ux.iv_get (Ux.sv_get hc)
             have hq0:wr.cell? ⟨q,0,none⟩=some (.int .i64 (F:Int)):=by rw [cell_of_row wr q 0 _ _ (0,0) HI.out.2.2];rfl
             have hq1:wr.cell? ⟨q,1,none⟩=some (.int .i32 (97+(L:Int))):=by rw [cell_of_row wr q 1 _ _ (0,0) HI.out.2.2];rfl
             have HQ:Hid (∀w',Ux.Touch (fun _=>False) wr w'→w'.cell? ⟨q,0,none⟩=some (.int .i64 (F:Int))∧w'.cell? ⟨q,1,none⟩=some (.int .i32 (97+(L:Int)))):=Lib.hid fun w' T=>⟨T.cell hq0 (fun f=>f),T.cell hq1 (fun f=>f)⟩
             clear hP hx hy hz hc hkl hcm
             go_upto_region 28 with (fail)
             clear hmc
             refine Ux.wpr (fun _ w'=>w'.cell? ⟨q,0,none⟩=some (.int .i64 (F:Int))∧w'.cell? ⟨q,1,none⟩=some (.int .i32 (97+(L:Int)))) (.q [0,1,3,5,8] (.h false [2,6] (.q [4] (.e 7 true false (.e 9 true false (.e 10 true false (.e 11 true false (.line [])))))))) ?_;repeat ((with_reducible refine Ux.qg ?_);refine Ux.qu ?_)
             clear hq0 hq1
             have S1:=Lib.hid ((Ux.Touch.refl (fun _=>False) wr).drew)
             go_wp2_with (go_at_call 115;refine (HO.out _).mono ?_;rintro e w3 ⟨rfl,rfl⟩)
             refine ⟨HQ.out _ S1.out,?_⟩
             repeat ((with_reducible refine Ux.qg ?_);refine Ux.qu ?_)
             go_wp2_with (go_at_call 116;refine (HM.out _).mono ?_;rintro e w3 ⟨rfl,rfl⟩)
             refine ⟨HQ.out _ S1.out,?_⟩
             repeat ((with_reducible refine Ux.qg ?_);refine Ux.qu ?_)
             go_wp2
             refine ⟨HQ.out _ ((Ux.Touch.refl (fun _=>False) wr).alloc _).drew,?_⟩
             repeat ((with_reducible refine Ux.qg ?_);refine Ux.qu ?_)
             go_wp2_with (fail)
             refine (rstep2d HI.out.1 (F+k) ((F:Int)+k) (by omega) x z HP.out.1).mono ?_
             rintro e w3 ⟨rfl,h3,t3⟩
             have H3:=Lib.hid (And.intro h3 (And.intro (fun j (hj:j<8)=>t3.heap (HI.out.2.1 j hj) (HI.out.1.ne (HI.out.2.1 j hj))) (t3.heap HI.out.2.2 hqm)))
             clear h3 t3 HQ S1 HI
             have hq0:w3.cell? ⟨q,0,none⟩=some (.int .i64 (F:Int)):=by rw [cell_of_row w3 q 0 _ _ (0,0) H3.out.2.2];rfl
             have hq1:w3.cell? ⟨q,1,none⟩=some (.int .i32 (97+(L:Int))):=by rw [cell_of_row w3 q 1 _ _ (0,0) H3.out.2.2];rfl
             have HQ:Hid (∀w',Ux.Touch (fun _=>False) w3 w'→w'.cell? ⟨q,0,none⟩=some (.int .i64 (F:Int))∧w'.cell? ⟨q,1,none⟩=some (.int .i32 (97+(L:Int)))):=Lib.hid fun w' T=>⟨T.cell hq0 (fun f=>f),T.cell hq1 (fun f=>f)⟩
             have S1:=Lib.hid ((Ux.Touch.refl (fun _=>False) w3).drew)
             clear hq0 hq1
             go_wp2_with (fail)
             refine ⟨HQ.out _ (Ux.Touch.refl (fun _=>False) w3),?_⟩
             repeat ((with_reducible refine Ux.qg ?_);refine Ux.qu ?_)
             go_upto_region 29 with (fail)
             obtain ⟨hq0,hq1⟩:=HQ.out w3 (Ux.Touch.refl _ _)
             refine Ux.wpr (fun _ w'=>w'.cell? ⟨q,0,none⟩=some (.int .i64 (F:Int))∧w'.cell? ⟨q,1,none⟩=some (.int .i32 (97+(L:Int)))) (.q [0,1,3,6,9] (.h false [2,7] (.q [4,5] (.e 8 true false (.e 10 true false (.e 11 true false (.e 12 true false (.line [])))))))) ?_;repeat ((with_reducible refine Ux.qg ?_);refine Ux.qu ?_)
             clear hq0 hq1
             go_wp2_with (go_at_call 115;refine (HO2.out _).mono ?_;rintro e w' ⟨rfl,rfl⟩)
             refine ⟨HQ.out _ S1.out,?_⟩
             repeat ((with_reducible refine Ux.qg ?_);refine Ux.qu ?_)
             go_wp2_with (go_at_call 116;refine (HM.out _).mono ?_;rintro e w' ⟨rfl,rfl⟩)
             refine ⟨HQ.out _ S1.out,?_⟩
             repeat ((with_reducible refine Ux.qg ?_);refine Ux.qu ?_)
             go_wp2_with (fail)
             refine ⟨HQ.out _ ((Ux.Touch.refl (fun _=>False) w3).alloc _).drew,?_⟩
             repeat ((with_reducible refine Ux.qg ?_);refine Ux.qu ?_)
             go_wp2_with (fail)
             refine (rstep2d H3.out.1 (F+k+32) ((F:Int)+k+32) (by omega) y z HP.out.2).mono ?_
             rintro e w4 ⟨rfl,h3,t3⟩
             have e4:n0+2*k+1+1=n0+2*(k+1):=by omega
             rw [e4] at h3
             have H4:=Lib.hid (And.intro h3 (And.intro (fun j (hj:j<8)=>t3.heap (H3.out.2.1 j hj) (H3.out.1.ne (H3.out.2.1 j hj))) (t3.heap H3.out.2.2 hqm)))
             have HQ4:Hid (∀w',Ux.Touch (fun _=>False) w4 w'→w'.cell? ⟨q,0,none⟩=some (.int .i64 (F:Int))∧w'.cell? ⟨q,1,none⟩=some (.int .i32 (97+(L:Int)))):=Lib.hid fun w' T=>by
              have h:=T.heap H4.out.2.2 (fun f=>f)
              exact ⟨by rw [cell_of_row w' q 0 _ _ (0,0) h];rfl,by rw [cell_of_row w' q 1 _ _ (0,0) h];rfl⟩
             clear h3 t3 HQ S1 H3 e4
             go_wp2_with (fail)
             refine ⟨HQ4.out _ (Ux.Touch.refl (fun _=>False) w4),?_⟩
             repeat ((with_reducible refine Ux.qg ?_);refine Ux.qu ?_)
             go_wp2
             go_roundg g2
             case measure=>omega
             case rel=>exact ⟨k+1,by congr 1,by omega,H4⟩
        ·obtain ⟨g',rfl⟩: ∃g',gk=g'+1:=⟨gk-1,by omega⟩
         have hi8:i<8:=by omega
         have i8:(i:Int)<8:=by omega
         have HP:=Ux.rootE_4 i hi8
         obtain ⟨HX,hmem⟩:=mk_at i hi8
         obtain ⟨c,hc⟩: ∃c,rootMk.getD i 0=c:=⟨_,rfl⟩
         rw [hc] at HP HX hmem
         have HO:=Lib.hid fun W=>mark_ c (c:Int) rfl hmem W
         have c808:=mk_lt c hmem
         obtain ⟨x,hx⟩: ∃x,eMark c=x:=⟨_,rfl⟩
         rw [hx] at HO HP
         have HP:=Lib.hid HP
         have HX:=Lib.hid HX
         clear hx hc hmem
         go_wp2_with (first|(refine Ux.is_index 205 rfl ?_;refine Ux.wpList_index rfl 205 3 8 i _ _ rfl #[.int .i64 768,.int .i64 769,.int .i64 770,.int .i64 771,.int .i64 772,.int .i64 776,.int .i64 778,.int .i64 807] (.int .i64 (c:Int)) Tryz.underlying205 (Tryz.sizeOf3 _) (Tryz.isAgg3 _) rfl rfl (by omega) HX.out ?_)|(go_at_call 116;refine (HO.out _).mono ?_;rintro e w' ⟨rfl,rfl⟩))
         refine (rstep1 HI.out c _ rfl x HP.out).mono ?_
         rintro e w3 ⟨rfl,h3,t3⟩
         have H3:=Lib.hid h3
         clear h3 t3
         go_wp2
         go_roundg g'
         case measure=>omega
         case rel=>exact ⟨i+1,by congr 1,by omega,H3⟩
      ·obtain ⟨g',rfl⟩: ∃g',gk=g'+1:=⟨gk-1,by omega⟩
       have hi26:i<26:=by omega
       have i26:(i:Int)<26:=by omega
       have z1:decide ((97:Int)+i≤122)=true:=by simp;omega
       have HP:=Ux.rootE_3 i hi26
       have HO:=Lib.hid fun W=>letter_ i 2 (97+(i:Int)) 2 rfl rfl hi26 (by omega) W
       have HO2:=Lib.hid fun W=>letter_ i 8 (97+(i:Int)) 8 rfl rfl hi26 (by omega) W
       obtain ⟨x,hx⟩: ∃x,eLetter i 2=x:=⟨_,rfl⟩
       obtain ⟨y,hy⟩: ∃y,eLetter i 8=y:=⟨_,rfl⟩
       rw [hx] at HO HP
       rw [hy] at HO2 HP
       have HP:=Lib.hid HP
       clear hx hy
       go_wp2_with (go_at_call 115;refine (HO.out _).mono ?_;rintro e w' ⟨rfl,rfl⟩)
       refine (rstep1 HI.out (97+i) _ (by omega) x HP.out.1).mono ?_
       rintro e w3 ⟨rfl,h3,t3⟩
       have H3:=Lib.hid h3
       clear h3 t3 HI
       go_wp2_with (go_at_call 115;refine (HO2.out _).mono ?_;rintro e w' ⟨rfl,rfl⟩)
       refine (rstep1 H3.out (65+i) _ (by omega) y HP.out.2).mono ?_
       rintro e w4 ⟨rfl,h3,t3⟩
       have H4:=Lib.hid h3
       clear h3 t3
       go_wp2
       go_roundg g'
       case measure=>omega
       case rel=>exact ⟨i+1,by congr 1,by omega,H4⟩
    ·obtain ⟨g',rfl⟩: ∃g',gk=g'+1:=⟨gk-1,by omega⟩
     have hi10:i<10:=by omega
     have i10:(i:Int)<10:=by omega
     have HP:=Ux.rootE_2 i hi10
     have HO:=Lib.hid fun W=>of_ (128+4*i) 32 2 (128+4*(i:Int)) 32 2 (by omega) rfl rfl false (by omega) (by omega) (by omega) W
     obtain ⟨x,hx⟩: ∃x,eMk (128+4*i) 32 2 false=x:=⟨_,rfl⟩
     rw [hx] at HO HP
     have HP:=Lib.hid HP
     clear hx
     go_wp2_with (go_at_call 114;refine (HO.out _).mono ?_;rintro e w' ⟨rfl,rfl⟩)
     refine (rstep1 HI.out (48+i) _ (by omega) x HP.out).mono ?_
     rintro e w3 ⟨rfl,h3,t3⟩
     have H3:=Lib.hid h3
     clear h3 t3
     go_wp2
     go_roundg g'
     case measure=>omega
     case rel=>exact ⟨i+1,by congr 1,by omega,H3⟩
  ·obtain ⟨g',rfl⟩: ∃g',gk=g'+1:=⟨gk-1,by omega⟩
   have hi6:i<spT.size:=by rw [spT_size];omega
   obtain ⟨c,hc⟩: ∃c,rootSp.getD i 0=c:=⟨_,rfl⟩
   have hs:=spT_at i hi6
   rw [hc] at hs
   have HS:=Lib.hid hs
   have c128:(c:Int)<128:=by have:=hs.1;have:=hs.2;omega
   have i6:(i:Int)<6:=by omega
   have HP:=Ux.rootE_1 i (by omega)
   have HO:=Lib.hid fun W=>of_ (16+4*i) 32 2 (16+4*(i:Int)) 32 2 (by omega) rfl rfl true (by omega) (by omega) (by omega) W
   obtain ⟨x,hx⟩: ∃x,eMk (16+4*i) 32 2 true=x:=⟨_,rfl⟩
   rw [hx] at HO HP
   rw [hc] at HP
   have HP:=Lib.hid HP
   clear hs hc hx
   go_wp2_with (first|(at_next;refine Ux.wpList_nextS rfl _ rfl spT (mb+1+1) i c rfl HI.out.2 hi6 HS.out.2 HS.out.1 ?_;intro w2 hr2 ht2;have H2:=Lib.hid (And.intro hr2 (HI.out.1.turn HI.out.2 (by have:=HI.out.1.2.2.2.1;omega) ht2));clear hr2 ht2)|(go_at_call 114;refine (HO.out _).mono ?_;rintro e w' ⟨rfl,rfl⟩))
   refine (rstep1 H2.out.2 c _ rfl x HP.out).mono ?_
   rintro e w3 ⟨rfl,h3,t3⟩
   have H3:=Lib.hid (And.intro h3 (t3.heap H2.out.1 (by omega)))
   clear h3 t3
   go_wp2
   go_roundg g'
   case measure=>omega
   case rel=>exact ⟨i+1,by omega,H3⟩
end Go.Proofs.YtmnkinaaoifpeaaGreatDoor
