/- A part of the proof that the statement holds for every input that it names. No other condition. -/
import Derived.Test.YtmnkinaaoifpeaaGreatDoorRefAZ
set_option linter.unusedVariables false
set_option linter.unusedSimpArgs false
namespace Go.Proofs.YtmnkinaaoifpeaaGreatDoor
open Go.RowKit
open Ux (Ent befE sv iv findE KGrow Ents putE eP eS eT eV eLetter eMark eMk markW rootT rseq rootSp rootMk six four isMkd)
def RAtA (A:Nat→Prop) (w0 wr:World) (a:Option Addr) (k c n:Nat):Prop:=RRows wr A (.slice a k c) (rootT n)∧wr.heap[w0.heap.size+1]? =some (.cells #[.slice a k c] 103 (0,0))∧
 wr.heap[w0.heap.size]? =some (.cells #[.slice none 0 0] 103 (0,0))∧Ux.Touch (fun _=>False) w0 wr∧w0.heap.size+2≤wr.heap.size
abbrev RAt (w0 wr:World) (a:Option Addr) (k c n:Nat):Prop:=RAtA (fun b=>w0.heap.size+2≤b) w0 wr a k c n
theorem RAtA.cell {A:Nat→Prop} {w0 wr:World} {a:Option Addr} {k c n:Nat} (h:RAtA A w0 wr a k c n):wr.cell? ⟨w0.heap.size+1,0,none⟩=some (.slice a k c):=by rw [cell_of_row _ _ 0 _ _ (0,0) h.2.1];rfl
theorem RAtA.touch {A:Nat→Prop} {w0 wr W:World} {a:Option Addr} {k c n:Nat} (h:RAtA A w0 wr a k c n) (T:Ux.Touch (fun _=>False) wr W):RAtA A w0 W a k c n:=
 ⟨h.1.touch0 T,T.heap h.2.1 (fun f=>f),T.heap h.2.2.1 (fun f=>f),h.2.2.2.1.trans T fun _ _ f=>f,Nat.le_trans h.2.2.2.2 T.size⟩
theorem RAtA.mono {A A':Nat→Prop} {w0 wr:World} {a:Option Addr} {k c n:Nat} (h:RAtA A w0 wr a k c n) (hA: ∀g,g<wr.heap.size→A g→A' g):RAtA A' w0 wr a k c n:=⟨h.1.mono hA,h.2⟩
theorem RAtA.store {A:Nat→Prop} {w0:World} (hA: ∀g,A g→g≠w0.heap.size+1) {wr W:World} {a a':Option Addr} {k c n k' c' n':Nat} (h:RAtA A w0 wr a k c n) (T:Ux.Touch (fun _=>False) wr W) (hR:RRows W A (.slice a' k' c') (rootT n')):
 W.cell? ⟨w0.heap.size+1,0,none⟩=some (.slice a k c)∧W.frozen? ⟨w0.heap.size+1,0,none⟩=false∧Hid (RAtA A w0 (W.setCell ⟨w0.heap.size+1,0,none⟩ (.slice a' k' c')) a' k' c' n')∧Ux.Touch (fun b=>b=w0.heap.size+1) W (W.setCell ⟨w0.heap.size+1,0,none⟩ (.slice a' k' c')):=by
 have h2:=h.touch T
 have T56:Ux.Touch (fun b=>b=w0.heap.size+1) W (W.setCell ⟨w0.heap.size+1,0,none⟩ (.slice a' k' c')):=(Ux.Touch.refl (fun b=>b=w0.heap.size+1) W).setCell (p:=⟨w0.heap.size+1,0,none⟩) (fun _=>rfl) _
 refine ⟨h2.cell,Ux.frozen_row h2.2.1 0,Lib.hid ⟨hR.touchB T56 fun g _ h1 e=>hA g h1 e,by rw [Ux.setCell_row h2.2.1];rfl,T56.heap h2.2.2.1 (by omega),h2.2.2.2.1.setCell (p:=⟨w0.heap.size+1,0,none⟩) (fun h=>absurd h (by show¬w0.heap.size+1<w0.heap.size;omega)) _,Nat.le_trans h2.2.2.2.2 T56.size⟩,T56⟩
theorem root_small (n:Nat):(rootT n).length≤9000∧∀e∈rootT n,1≤e.1.length∧e.1.length≤3:=
 ⟨Nat.le_trans (Ux.rootT_len n) (by omega),fun e he=>⟨(Ux.rseq_ok e (Ux.rootT_mem n e he)).1.1,(Ux.rseq_ok e (Ux.rootT_mem n e he)).1.2.1⟩⟩
def PutA (A:Nat→Prop) (w0 W:World) (a:Option Addr) (k c n:Nat) (e:Ending) (w':World):Prop:= ∃a' k' c',e= .returned (.agg #[.slice a' k' c'])∧w'.cell? ⟨w0.heap.size+1,0,none⟩=some (.slice a k c)∧w'.frozen? ⟨w0.heap.size+1,0,none⟩=false∧
 Hid (RAtA A w0 (w'.setCell ⟨w0.heap.size+1,0,none⟩ (.slice a' k' c')) a' k' c' n)∧Hid (Ux.Touch (fun b=>b=w0.heap.size+1) W (w'.setCell ⟨w0.heap.size+1,0,none⟩ (.slice a' k' c')))∧Hid (Ux.Touch (fun _=>False) W w')
abbrev PutR (w0 W:World) (a:Option Addr) (k c n:Nat) (e:Ending) (w':World):Prop:=PutA (fun b=>w0.heap.size+2≤b) w0 W a k c n e w'
theorem RAtA.putA {A:Nat→Prop} {w0 wr W:World} {a:Option Addr} {k c n:Nat} {s l:List Nat} (h:RAtA A w0 wr a k c n) (hA: ∀g,A g→g≠w0.heap.size+1) (hA2: ∀g,wr.heap.size≤g→A g) (hs:rseq[n]? =some (s,l)) {vs vl:Value} (T:Ux.Touch (fun _=>False) wr W) (h1:SView W vs s) (h2:RRow W vl l):
 Calls Tryz.prog 118 #[.agg #[.slice a k c],vs,vl] W fun e w'=>PutA A w0 wr a k c (n+1) e w':=by
 have hok:=Ux.rseq_ok _ (List.mem_of_getElem? hs)
 refine (rrput_ _ vs vl (rootT n) s l _ W (h.1.touch0 T) h1 h2 hok.1.1 hok.1.2.1 (by have:=hok.2.1;simp at this;omega) (by have:=(root_small n).1;omega) (root_small n).2).mono ?_
 rintro e w' ⟨u,rfl,hR,hT⟩
 have hu:=hR
 obtain ⟨_,a',c',rfl,_⟩:=hu
 have hR2:=hR.mono (A':=A) fun g _ hg=>hg.elim id fun hg=>hA2 g (by have:=T.size;omega)
 have hst:=Ux.rootT_step hs
 rw [show putE (rootT n) s l=rootT (n+1) from hst.symm] at hR2⊢
 obtain ⟨g1,g2,g3,g4⟩:=h.store hA (T.trans hT fun _ _ f=>f) hR2
 exact ⟨_,_,_,rfl,g1,g2,g3,Lib.hid (((T.trans hT fun _ _ f=>f).mono fun _ _ f=>f.elim).trans g4 fun _ _ h=>h),Lib.hid (T.trans hT fun _ _ f=>f)⟩
theorem RAtA.put {w0 wr W:World} {a:Option Addr} {k c n:Nat} {s l:List Nat} (h:RAt w0 wr a k c n) (hs:rseq[n]? =some (s,l)) {vs vl:Value} (T:Ux.Touch (fun _=>False) wr W) (h1:SView W vs s) (h2:RRow W vl l):
 Calls Tryz.prog 118 #[.agg #[.slice a k c],vs,vl] W fun e w'=>PutR w0 wr a k c (n+1) e w':=h.putA (fun g h e=>by omega) (fun g hg=>by have:=h.2.2.2.2;omega) hs T h1 h2
theorem RAtA.marked {w0 wr W:World} {a:Option Addr} {k c n x b m:Nat} (h:RAt w0 wr a k c n) (hs:isMkd n x b m) (hm:m∈[768,769,770,771,772,776,778,807]) (hb:b<26) (hx:x<100000) (T:Ux.Touch (fun _=>False) wr W) (X B M:Int) (hX:X=x) (hB:B=65+b) (hM:M=m):
 Calls Tryz.prog 121 #[.agg #[.slice a k c],.int .i64 X,.int .i64 B,.int .i64 M] W fun e w'=>PutR w0 wr a k c (n+2) e w':=by
 refine (marked_ _ (rootT n) x b m _ hm hb hx W (h.1.touch0 T) (root_small n).1 (root_small n).2 X B M hX hB hM).mono ?_
 rintro e w' ⟨u,rfl,hR,hT⟩
 have hu:=hR
 obtain ⟨_,a',c',rfl,_⟩:=hu
 have hR2:=hR.mono (A':=fun b=>w0.heap.size+2≤b) fun g _ hg=>hg.elim id fun hg=>by have:=(h.touch T).2.2.2.2;omega
 have hst1:=Ux.rootT_step hs.1
 have hst2:=Ux.rootT_step hs.2
 rw [hst1] at hst2
 rw [show putE (putE (rootT n) [x] [eLetter b 8,eMark m]) [x+32] [eLetter b 2,eMark m]=rootT (n+2) from hst2.symm] at hR2⊢
 obtain ⟨g1,g2,g3,g4⟩:=h.store (fun g h e=>by omega) (T.trans hT fun _ _ f=>f) hR2
 exact ⟨_,_,_,rfl,g1,g2,g3,Lib.hid (((T.trans hT fun _ _ f=>f).mono fun _ _ f=>f.elim).trans g4 fun _ _ h=>h),Lib.hid (T.trans hT fun _ _ f=>f)⟩
theorem iv_rowAt2 {W:World} {blk:Nat} {cs:Array Value} (hh:W.heap[blk]? =some (.cells cs 3 (0,0))) (l:List Nat) (n:Nat) (hn:n=l.length) (h:cs.toList=iv (sv l)):SView W (.slice (some ⟨blk,0,none⟩) n n) l:=iv_rowAt cs l n hn h hh
theorem rv_rowAt2 {W:World} {blk:Nat} {cs:Array Value} (hh:W.heap[blk]? =some (.cells cs 212 (0,0))) (l:List Nat) (n:Nat) (hn:n=l.length) (h:cs.toList=rv l):RRow W (.slice (some ⟨blk,0,none⟩) n n) l:=rv_rowAt cs l n hn h hh
theorem rv_one1 (x:Nat) (P S T:Int) (V:Bool) (h:P=(eP x:Nat)∧S=(eS x:Nat)∧T=(eT x:Nat)∧V=eV x): [Value.int .i64 P,.int .i64 S,.int .i64 T,.bool V]=rv [x]:=by
 obtain ⟨rfl,rfl,rfl,rfl⟩:=h
 rfl
theorem mk_parts (p t:Nat) (v:Bool) (hp:p<65536) (ht:t<128):eP (eMk p 32 t v)=p∧eS (eMk p 32 t v)=32∧eT (eMk p 32 t v)=t∧eV (eMk p 32 t v)=v:=by
 unfold eP eS eT eV eMk
 cases v<;>simp<;>omega
theorem mark_parts (m:Nat):eP (eMark m)=0∧eS (eMark m)=markW m∧eT (eMark m)=2∧eV (eMark m)=false:=by
 have hk:markW m<256:=by unfold markW;split<;>(try split)<;>(try split)<;>(try split)<;>(try split)<;>(try split)<;>(try split)<;>omega
 unfold eMark eP eS eT eV eMk
 refine ⟨?_,?_,?_,?_⟩<;>simp<;>omega
set_option maxHeartbeats 32000000 in
set_option maxRecDepth 100000 in
theorem rroot_ (w:World):Calls Tryz.prog 83 #[] w fun e w'=> ∃u,e= .returned (.agg #[u])∧RRows w' (fun b=>w.heap.size+2≤b) u (rootT 132)∧Ux.Touch (fun _=>False) w w':=by
 have hstart:RAt w ((w.alloc (Obj.cells #[Value.slice none 0 0] 103)).alloc (Obj.cells #[Value.slice none 0 0] 103)) none 0 0 0:=by
  have T1:=(Ux.Touch.refl (fun _=>False) (w.alloc (Obj.cells #[Value.slice none 0 0] 103))).alloc (Obj.cells #[Value.slice none 0 0] 103)
  exact ⟨RRows.nil _ _,by have:=heap_alloc_new (w.alloc (Obj.cells #[Value.slice none 0 0] 103)) (Obj.cells #[Value.slice none 0 0] 103);simpa using this,T1.heap (heap_alloc_new w _) (fun f=>f),((Ux.Touch.refl _ _).alloc _).alloc _,by simp⟩
 have HS:=Lib.hid hstart
 clear hstart
 go_enter Tryz.func83,Tryz.ntmps83
 go_wp2_with (fail)
 go_loopg [2] 6 (fun g s2 wr=> ∃(i:Nat) (a:Option Addr) (k c:Nat),s2= .int .i64 i∧i+g=6∧wr.cell? ⟨w.heap.size+1,0,none⟩=some (.slice a k c)∧Hid (RAt w wr a k c (0+1*i)))
 case atStart=>exact ⟨0,_,_,_,rfl,rfl,HS.out.cell,Lib.hid HS.out⟩
 case round=>
  obtain ⟨i,a,k,c,rfl,hig,hc0,HI⟩:=hrel
  have i0:(0:Int)≤i:=by omega
  by_cases hlt:i<6
  ·obtain ⟨g',rfl⟩: ∃g',gk=g'+1:=⟨gk-1,by omega⟩
   have i1:(i:Int)<6:=by omega
   have HQ:=Lib.hid fun W (T:Ux.Touch (fun _=>False) wr W)=>T.cell hc0 (fun f=>f)
   have hseq:=Ux.rs_1 i hlt
   have HX:=Lib.hid hseq
   clear hseq
   have hi6:i=0∨i=1∨i=2∨i=3∨i=4∨i=5:=by omega
   clear hlt i0
   rcases hi6 with rfl|rfl|rfl|rfl|rfl|rfl
   all_goals
    go_upto_region 5 with (fail)
    refine Ux.wpr (fun _ w'=>w'.cell? ⟨w.heap.size+1,0,none⟩=some (.slice a k c)) (.h false [0] (.q [1,2,3,5,6,7,8] (.br 4 (.e 9 true false (.e 10 false false (.line [11]))) 9 (.e 4 true true (.e 10 false false (.line [11])))))) ?_;repeat ((with_reducible refine Ux.qg ?_);refine Ux.qu ?_)
    refine ⟨?_,?_⟩
    ·go_wp2_with (fail)
     first|refine ⟨⟨HQ.out _ Ux.tq,HQ.out _ Ux.tq⟩,?_⟩|refine ⟨HQ.out _ Ux.tq,?_⟩
     go_wp2_with (fail)
     refine ⟨HQ.out _ Ux.tq,?_⟩
     go_wp2_with (go_at_call 118;fail)
     refine (HI.out.put (by simpa using HX.out) Ux.tq (iv_rowAt2 (by repeat (first|exact nest_here _ _ _ (by simp [World.size_alloc])|refine nest_drew ?_|refine nest_there (by simp [World.size_alloc]<;>omega) ?_)) _ 1 rfl (by refine congrArg (fun x=> [Value.int .i64 x]) ?_;decide+kernel)) (rv_rowAt2 (by repeat (first|exact nest_here _ _ _ (by simp [World.size_alloc])|refine nest_drew ?_|refine nest_there (by simp [World.size_alloc]<;>omega) ?_)) _ 1 rfl (rv_one1 _ _ _ _ _ (by decide+kernel)))).mono ?_
     rintro e w5 ⟨a',k',c',rfl,hc5,hf5,HR,HT5,HT6⟩
     clear hc0
     go_wp2_with (fail)
     go_roundg g'
     case measure=>omega
     case rel=>exact ⟨_+1,_,_,_,by rfl,by omega,HR.out.cell,HR⟩
    ·go_wp2_with (fail)
     first|refine ⟨⟨HQ.out _ Ux.tq,HQ.out _ Ux.tq⟩,?_⟩|refine ⟨HQ.out _ Ux.tq,?_⟩
     go_wp2_with (fail)
     first|refine ⟨⟨HQ.out _ Ux.tq,HQ.out _ Ux.tq⟩,?_⟩|refine ⟨HQ.out _ Ux.tq,?_⟩
     go_wp2_with (go_at_call 118;fail)
     refine (HI.out.put (by simpa using HX.out) Ux.tq (iv_rowAt2 (by repeat (first|exact nest_here _ _ _ (by simp [World.size_alloc])|refine nest_drew ?_|refine nest_there (by simp [World.size_alloc]<;>omega) ?_)) _ 1 rfl (by refine congrArg (fun x=> [Value.int .i64 x]) ?_;decide+kernel)) (rv_rowAt2 (by repeat (first|exact nest_here _ _ _ (by simp [World.size_alloc])|refine nest_drew ?_|refine nest_there (by simp [World.size_alloc]<;>omega) ?_)) _ 1 rfl (rv_one1 _ _ _ _ _ (by decide+kernel)))).mono ?_
     rintro e w5 ⟨a',k',c',rfl,hc5,hf5,HR,HT5,HT6⟩
     clear hc0
     go_wp2_with (fail)
     go_roundg g'
     case measure=>omega
     case rel=>exact ⟨_+1,_,_,_,by rfl,by omega,HR.out.cell,HR⟩
  ·obtain rfl:i=6:=by omega
   have HS:=HI
   clear hlt hig i0 hc0
   go_wp2_with (fail)
   go_loopg [3] 10 (fun g s3 wr=> ∃(i:Nat) (a:Option Addr) (k c:Nat),s3= .int .i64 i∧i+g=10∧wr.cell? ⟨w.heap.size+1,0,none⟩=some (.slice a k c)∧Hid (RAt w wr a k c (6+1*i)))
   case atStart=>exact ⟨0,_,_,_,rfl,rfl,HS.out.cell,Lib.hid HS.out⟩
   case round=>
    obtain ⟨i,a,k,c,rfl,hig,hc0,HI⟩:=hrel
    have i0:(0:Int)≤i:=by omega
    by_cases hlt:i<10
    ·obtain ⟨g',rfl⟩: ∃g',gk=g'+1:=⟨gk-1,by omega⟩
     have i1:(i:Int)<10:=by omega
     have hseq:=Ux.rs_2 i hlt
     have hpm:=mk_parts (128+4*i) 2 false (by omega) (by omega)
     have HX:=Lib.hid (And.intro hseq hpm)
     clear hseq hpm hlt
     go_wp2_with (go_at_call 118;fail)
     refine ((show RAt w wr a k c (6+i) by have:=HI.out;rw [show 6+1*i=6+i by omega] at this;exact this).put HX.out.1 Ux.tq (iv_rowAt2 (by repeat (first|exact nest_here _ _ _ (by simp [World.size_alloc])|refine nest_drew ?_|refine nest_there (by simp [World.size_alloc]<;>omega) ?_)) _ 1 rfl (by refine congrArg (fun x=> [Value.int .i64 x]) ?_;dsimp only;omega)) (rv_rowAt2 (by repeat (first|exact nest_here _ _ _ (by simp [World.size_alloc])|refine nest_drew ?_|refine nest_there (by simp [World.size_alloc]<;>omega) ?_)) _ 1 rfl (rv_one1 _ _ _ _ _ ⟨by rw [HX.out.2.1];omega,by rw [HX.out.2.2.1];rfl,by rw [HX.out.2.2.2.1];rfl,HX.out.2.2.2.2.symm⟩))).mono ?_
     rintro e w5 ⟨a',k',c',rfl,hc5,hf5,HR,HT5,HT6⟩
     clear hc0
     go_wp2_with (fail)
     go_roundg g'
     case measure=>omega
     case rel=>exact ⟨i+1,_,_,_,by congr 1,by omega,HR.out.cell,Lib.hid (by rw [show 6+1*(i+1)=6+1*i+1 by omega];exact (show RAt _ _ _ _ _ (6+1*i+1) by rw [show 6+1*i=6+i by omega];exact HR.out))⟩
    ·obtain rfl:i=10:=by omega
     have HS:=HI
     clear hlt hig i0 hc0
     go_wp2_with (fail)
     go_loopg [4] 26 (fun g s4 wr=> ∃(i:Nat) (a:Option Addr) (k c:Nat),s4= .int .i64 i∧i+g=26∧wr.cell? ⟨w.heap.size+1,0,none⟩=some (.slice a k c)∧Hid (RAt w wr a k c (16+2*i)))
     case atStart=>exact ⟨0,_,_,_,rfl,rfl,HS.out.cell,Lib.hid HS.out⟩
     case round=>
      obtain ⟨i,a,k,c,rfl,hig,hc0,HI⟩:=hrel
      have i0:(0:Int)≤i:=by omega
      by_cases hlt:i<26
      ·obtain ⟨g',rfl⟩: ∃g',gk=g'+1:=⟨gk-1,by omega⟩
       have i1:(i:Int)<26:=by omega
       have HQ:=Lib.hid fun W (T:Ux.Touch (fun _=>False) wr W)=>T.cell hc0 (fun f=>f)
       obtain ⟨hs1,hs2⟩:=Ux.rs_3 i hlt
       have HX:=Lib.hid (And.intro hs1 (And.intro hs2 (And.intro (letter_parts i 2 hlt (.inl rfl)) (letter_parts i 8 hlt (.inr (.inl rfl))))))
       have HL:=Lib.hid fun W=>rletterS_ (97+(i:Int)) (by omega) (by omega) W
       have HL2:=Lib.hid fun W=>rletterG_ (65+(i:Int)) (by omega) (by omega) W
       have H3:=HI
       clear hs1 hs2 hlt
       go_upto_region 13 with (fail)
       go_cut [] (fun wx=> ∃a' k' c',wx.cell? ⟨w.heap.size+1,0,none⟩=some (.slice a' k' c')∧Hid (RAt w wx a' k' c' (16+2*i+1)))
       case first=>
        refine Ux.wpr (fun _ w'=>w'.cell? ⟨w.heap.size+1,0,none⟩=some (.slice a k c)) (.h false [0] (.q [1,2,4,5] (.br 3 (.e 6 true false (.e 7 true false (.e 8 false false (.line [9])))) 6 (.br 3 (.e 7 true false (.e 8 false false (.line [9]))) 7 (.e 3 true true (.e 8 false false (.line [9]))))))) ?_;repeat ((with_reducible refine Ux.qg ?_);refine Ux.qu ?_)
        refine ⟨?_,?_⟩
        ·go_wp2_with (fail)
         first|refine ⟨⟨HQ.out _ Ux.tq,HQ.out _ Ux.tq⟩,?_⟩|refine ⟨HQ.out _ Ux.tq,?_⟩
         go_wp2_with (go_at_call 119;refine (HL.out _).mono ?_;rintro e w' ⟨rfl,rfl⟩)
         refine ⟨HQ.out _ Ux.tq,?_⟩
         go_wp2_with (fail)
         refine ⟨HQ.out _ Ux.tq,?_⟩
         go_wp2_with (go_at_call 118;fail)
         refine (H3.out.put HX.out.1 Ux.tq (iv_rowAt2 (by repeat (first|exact nest_here _ _ _ (by simp [World.size_alloc])|refine nest_drew ?_|refine nest_there (by simp [World.size_alloc]<;>omega) ?_)) _ 1 rfl (by refine congrArg (fun x=> [Value.int .i64 x]) ?_;dsimp only;omega)) (rv_rowAt2 (by repeat (first|exact nest_here _ _ _ (by simp [World.size_alloc])|refine nest_drew ?_|refine nest_there (by simp [World.size_alloc]<;>omega) ?_)) _ 1 rfl (rv_one1 _ _ _ _ _ ⟨by rw [HX.out.2.2.1.1];omega,by rw [HX.out.2.2.1.2.1];rfl,by rw [HX.out.2.2.1.2.2.1];rfl,HX.out.2.2.1.2.2.2.symm⟩))).mono ?_
         rintro e w5 ⟨a',k',c',rfl,hc5,hf5,HR,HT5,HT6⟩
         clear hc0
         go_wp2_with (fail)
         go_meet
         exact ⟨_,_,_,HR.out.cell,HR⟩
        ·go_wp2_with (go_at_call 119;refine (HL.out _).mono ?_;rintro e w' ⟨rfl,rfl⟩)
         first|refine ⟨⟨HQ.out _ Ux.tq,HQ.out _ Ux.tq⟩,?_⟩|refine ⟨HQ.out _ Ux.tq,?_⟩
         refine ⟨?_,?_⟩
         ·go_wp2_with (fail)
          first|refine ⟨⟨HQ.out _ Ux.tq,HQ.out _ Ux.tq⟩,?_⟩|refine ⟨HQ.out _ Ux.tq,?_⟩
          go_wp2_with (fail)
          refine ⟨HQ.out _ Ux.tq,?_⟩
          go_wp2_with (go_at_call 118;fail)
          refine (H3.out.put HX.out.1 Ux.tq (iv_rowAt2 (by repeat (first|exact nest_here _ _ _ (by simp [World.size_alloc])|refine nest_drew ?_|refine nest_there (by simp [World.size_alloc]<;>omega) ?_)) _ 1 rfl (by refine congrArg (fun x=> [Value.int .i64 x]) ?_;dsimp only;omega)) (rv_rowAt2 (by repeat (first|exact nest_here _ _ _ (by simp [World.size_alloc])|refine nest_drew ?_|refine nest_there (by simp [World.size_alloc]<;>omega) ?_)) _ 1 rfl (rv_one1 _ _ _ _ _ ⟨by rw [HX.out.2.2.1.1];omega,by rw [HX.out.2.2.1.2.1];rfl,by rw [HX.out.2.2.1.2.2.1];rfl,HX.out.2.2.1.2.2.2.symm⟩))).mono ?_
          rintro e w5 ⟨a',k',c',rfl,hc5,hf5,HR,HT5,HT6⟩
          clear hc0
          go_wp2_with (fail)
          go_meet
          exact ⟨_,_,_,HR.out.cell,HR⟩
         ·go_wp2_with (fail)
          first|refine ⟨⟨HQ.out _ Ux.tq,HQ.out _ Ux.tq⟩,?_⟩|refine ⟨HQ.out _ Ux.tq,?_⟩
          go_wp2_with (fail)
          first|refine ⟨⟨HQ.out _ Ux.tq,HQ.out _ Ux.tq⟩,?_⟩|refine ⟨HQ.out _ Ux.tq,?_⟩
          go_wp2_with (go_at_call 118;fail)
          refine (H3.out.put HX.out.1 Ux.tq (iv_rowAt2 (by repeat (first|exact nest_here _ _ _ (by simp [World.size_alloc])|refine nest_drew ?_|refine nest_there (by simp [World.size_alloc]<;>omega) ?_)) _ 1 rfl (by refine congrArg (fun x=> [Value.int .i64 x]) ?_;dsimp only;omega)) (rv_rowAt2 (by repeat (first|exact nest_here _ _ _ (by simp [World.size_alloc])|refine nest_drew ?_|refine nest_there (by simp [World.size_alloc]<;>omega) ?_)) _ 1 rfl (rv_one1 _ _ _ _ _ ⟨by rw [HX.out.2.2.1.1];omega,by rw [HX.out.2.2.1.2.1];rfl,by rw [HX.out.2.2.1.2.2.1];rfl,HX.out.2.2.1.2.2.2.symm⟩))).mono ?_
          rintro e w5 ⟨a',k',c',rfl,hc5,hf5,HR,HT5,HT6⟩
          clear hc0
          go_wp2_with (fail)
          go_meet
          exact ⟨_,_,_,HR.out.cell,HR⟩
       obtain ⟨a1,k1,c1,hc1,H3⟩:=hcut
       have HQ1:=Lib.hid fun W (T:Ux.Touch (fun _=>False) wc W)=>T.cell hc1 (fun f=>f)
       clear hc0
       have hc0:=hc1
       clear hc1
       go_upto_region 14 with (fail)
       refine Ux.wpr (fun _ w'=>w'.cell? ⟨w.heap.size+1,0,none⟩=some (.slice a1 k1 c1)) (.h false [0] (.q [1,2,4,5] (.br 3 (.e 6 true false (.e 7 true false (.e 8 false false (.line [9])))) 6 (.br 3 (.e 7 true false (.e 8 false false (.line [9]))) 7 (.e 3 true true (.e 8 false false (.line [9]))))))) ?_;repeat ((with_reducible refine Ux.qg ?_);refine Ux.qu ?_)
       refine ⟨?_,?_⟩
       ·go_wp2_with (fail)
        first|refine ⟨⟨HQ1.out _ Ux.tq,HQ1.out _ Ux.tq⟩,?_⟩|refine ⟨HQ1.out _ Ux.tq,?_⟩
        go_wp2_with (go_at_call 119;refine (HL2.out _).mono ?_;rintro e w' ⟨rfl,rfl⟩)
        refine ⟨HQ1.out _ Ux.tq,?_⟩
        go_wp2_with (fail)
        refine ⟨HQ1.out _ Ux.tq,?_⟩
        go_wp2_with (go_at_call 118;fail)
        refine (H3.out.put HX.out.2.1 Ux.tq (iv_rowAt2 (by repeat (first|exact nest_here _ _ _ (by simp [World.size_alloc])|refine nest_drew ?_|refine nest_there (by simp [World.size_alloc]<;>omega) ?_)) _ 1 rfl (by refine congrArg (fun x=> [Value.int .i64 x]) ?_;dsimp only;omega)) (rv_rowAt2 (by repeat (first|exact nest_here _ _ _ (by simp [World.size_alloc])|refine nest_drew ?_|refine nest_there (by simp [World.size_alloc]<;>omega) ?_)) _ 1 rfl (rv_one1 _ _ _ _ _ ⟨by rw [HX.out.2.2.2.1];omega,by rw [HX.out.2.2.2.2.1];rfl,by rw [HX.out.2.2.2.2.2.1];rfl,HX.out.2.2.2.2.2.2.symm⟩))).mono ?_
        rintro e w5 ⟨a',k',c',rfl,hc5,hf5,HR,HT5,HT6⟩
        clear hc0
        go_wp2_with (fail)
        go_roundg g'
        case measure=>omega
        case rel=>exact ⟨i+1,_,_,_,by congr 1,by omega,HR.out.cell,Lib.hid (by rw [show 16+2*(i+1)=16+2*i+2 by omega];exact HR.out)⟩
       ·go_wp2_with (go_at_call 119;refine (HL2.out _).mono ?_;rintro e w' ⟨rfl,rfl⟩)
        first|refine ⟨⟨HQ1.out _ Ux.tq,HQ1.out _ Ux.tq⟩,?_⟩|refine ⟨HQ1.out _ Ux.tq,?_⟩
        refine ⟨?_,?_⟩
        ·go_wp2_with (fail)
         first|refine ⟨⟨HQ1.out _ Ux.tq,HQ1.out _ Ux.tq⟩,?_⟩|refine ⟨HQ1.out _ Ux.tq,?_⟩
         go_wp2_with (fail)
         refine ⟨HQ1.out _ Ux.tq,?_⟩
         go_wp2_with (go_at_call 118;fail)
         refine (H3.out.put HX.out.2.1 Ux.tq (iv_rowAt2 (by repeat (first|exact nest_here _ _ _ (by simp [World.size_alloc])|refine nest_drew ?_|refine nest_there (by simp [World.size_alloc]<;>omega) ?_)) _ 1 rfl (by refine congrArg (fun x=> [Value.int .i64 x]) ?_;dsimp only;omega)) (rv_rowAt2 (by repeat (first|exact nest_here _ _ _ (by simp [World.size_alloc])|refine nest_drew ?_|refine nest_there (by simp [World.size_alloc]<;>omega) ?_)) _ 1 rfl (rv_one1 _ _ _ _ _ ⟨by rw [HX.out.2.2.2.1];omega,by rw [HX.out.2.2.2.2.1];rfl,by rw [HX.out.2.2.2.2.2.1];rfl,HX.out.2.2.2.2.2.2.symm⟩))).mono ?_
         rintro e w5 ⟨a',k',c',rfl,hc5,hf5,HR,HT5,HT6⟩
         clear hc0
         go_wp2_with (fail)
         go_roundg g'
         case measure=>omega
         case rel=>exact ⟨i+1,_,_,_,by congr 1,by omega,HR.out.cell,Lib.hid (by rw [show 16+2*(i+1)=16+2*i+2 by omega];exact HR.out)⟩
        ·go_wp2_with (fail)
         first|refine ⟨⟨HQ1.out _ Ux.tq,HQ1.out _ Ux.tq⟩,?_⟩|refine ⟨HQ1.out _ Ux.tq,?_⟩
         go_wp2_with (fail)
         first|refine ⟨⟨HQ1.out _ Ux.tq,HQ1.out _ Ux.tq⟩,?_⟩|refine ⟨HQ1.out _ Ux.tq,?_⟩
         go_wp2_with (go_at_call 118;fail)
         refine (H3.out.put HX.out.2.1 Ux.tq (iv_rowAt2 (by repeat (first|exact nest_here _ _ _ (by simp [World.size_alloc])|refine nest_drew ?_|refine nest_there (by simp [World.size_alloc]<;>omega) ?_)) _ 1 rfl (by refine congrArg (fun x=> [Value.int .i64 x]) ?_;dsimp only;omega)) (rv_rowAt2 (by repeat (first|exact nest_here _ _ _ (by simp [World.size_alloc])|refine nest_drew ?_|refine nest_there (by simp [World.size_alloc]<;>omega) ?_)) _ 1 rfl (rv_one1 _ _ _ _ _ ⟨by rw [HX.out.2.2.2.1];omega,by rw [HX.out.2.2.2.2.1];rfl,by rw [HX.out.2.2.2.2.2.1];rfl,HX.out.2.2.2.2.2.2.symm⟩))).mono ?_
         rintro e w5 ⟨a',k',c',rfl,hc5,hf5,HR,HT5,HT6⟩
         clear hc0
         go_wp2_with (fail)
         go_roundg g'
         case measure=>omega
         case rel=>exact ⟨i+1,_,_,_,by congr 1,by omega,HR.out.cell,Lib.hid (by rw [show 16+2*(i+1)=16+2*i+2 by omega];exact HR.out)⟩
      ·obtain rfl:i=26:=by omega
       have HS:=HI
       clear hlt hig i0 hc0
       have HM8:=Lib.hid (Ux.Touch.refl (fun _=>False) wr|>.alloc (.cells #[.int .i64 768,.int .i64 769,.int .i64 770,.int .i64 771,.int .i64 772,.int .i64 776,.int .i64 778,.int .i64 807] 3))
       have hX8:(wr.alloc (.cells #[.int .i64 768,.int .i64 769,.int .i64 770,.int .i64 771,.int .i64 772,.int .i64 776,.int .i64 778,.int .i64 807] 3)).heap[wr.heap.size]? =some (.cells #[.int .i64 768,.int .i64 769,.int .i64 770,.int .i64 771,.int .i64 772,.int .i64 776,.int .i64 778,.int .i64 807] 3 (0,0)):=heap_alloc_new _ _
       obtain ⟨X8,hX8e⟩: ∃X,wr.heap.size=X:=⟨_,rfl⟩
       have hX8g:w.heap.size+2≤X8:=by rw [←hX8e];exact HS.out.2.2.2.2
       rw [hX8e] at hX8
       have HS:Hid (RAt w (wr.alloc (.cells #[.int .i64 768,.int .i64 769,.int .i64 770,.int .i64 771,.int .i64 772,.int .i64 776,.int .i64 778,.int .i64 807] 3)) a k c (68+1*0)∧(wr.alloc (.cells #[.int .i64 768,.int .i64 769,.int .i64 770,.int .i64 771,.int .i64 772,.int .i64 776,.int .i64 778,.int .i64 807] 3)).heap[X8]? =some (.cells #[.int .i64 768,.int .i64 769,.int .i64 770,.int .i64 771,.int .i64 772,.int .i64 776,.int .i64 778,.int .i64 807] 3 (0,0))):=Lib.hid ⟨HS.out.touch HM8.out,hX8⟩
       have HX8g:=Lib.hid hX8g
       clear hX8 hX8g HM8
       go_wp2_with (fail)
       go_loopg [6] 8 (fun g s6 wr=> ∃(i:Nat) (a:Option Addr) (k c:Nat),s6= .int .i64 i∧i+g=8∧wr.cell? ⟨w.heap.size+1,0,none⟩=some (.slice a k c)∧Hid (RAt w wr a k c (68+1*i)∧wr.heap[X8]? =some (.cells #[.int .i64 768,.int .i64 769,.int .i64 770,.int .i64 771,.int .i64 772,.int .i64 776,.int .i64 778,.int .i64 807] 3 (0,0))))
       case atStart=>exact ⟨0,_,_,_,rfl,rfl,HS.out.1.cell,Lib.hid HS.out⟩
       case round=>
        obtain ⟨i,a,k,c,rfl,hig,hc0,HI⟩:=hrel
        have i0:(0:Int)≤i:=by omega
        by_cases hlt:i<8
        ·obtain ⟨g',rfl⟩: ∃g',gk=g'+1:=⟨gk-1,by omega⟩
         have i1:(i:Int)<8:=by omega
         have hseq:=Ux.rs_4 i hlt
         obtain ⟨M,hM⟩: ∃M,rootMk.getD i 0=M:=⟨_,rfl⟩
         have hMm:M∈[768,769,770,771,772,776,778,807]:=by
          have h8: ∀i,i<8→rootMk.getD i 0∈[768,769,770,771,772,776,778,807]:=by decide
          rw [←hM];exact h8 i hlt
         have hcell:wr.cell? ⟨X8,i,none⟩=some (.int .i64 (M:Int)):=by
          have h8: ∀i,i<8→(#[.int .i64 768,.int .i64 769,.int .i64 770,.int .i64 771,.int .i64 772,.int .i64 776,.int .i64 778,.int .i64 807]:Array Value)[i]? =some (.int .i64 (rootMk.getD i 0:Nat)):=by
           intro i hi
           have:i=0∨i=1∨i=2∨i=3∨i=4∨i=5∨i=6∨i=7:=by omega
           rcases this with rfl|rfl|rfl|rfl|rfl|rfl|rfl|rfl<;>rfl
          rw [cell_of_row _ _ i _ _ (0,0) HI.out.2,h8 i hlt,hM]
         rw [hM] at hseq
         have HQ:=Lib.hid fun W (T:Ux.Touch (fun _=>False) wr W)=>And.intro (T.cell hc0 (fun f=>f)) (T.cell hcell (fun f=>f))
         have HR4:=Lib.hid fun W=>rmark_ M M rfl hMm W
         obtain ⟨K,hK⟩: ∃K:Int,(markW M:Int)=K:=⟨_,rfl⟩
         rw [hK] at HR4
         have HX:=Lib.hid (And.intro hseq (And.intro (mark_parts M) hK))
         clear hseq hM hMm hK hlt
         go_upto_region 19 with (fail)
         refine Ux.wpr (fun _ w'=>w'.cell? ⟨w.heap.size+1,0,none⟩=some (.slice a k c)∧w'.cell? ⟨X8,i,none⟩=some (.int .i64 (M:Int))) (.h false [0] (.q [1,2,3,6,7,8] (.h false [4,9] (.br 5 (.e 10 true false (.e 11 true false (.e 12 true false (.line [13])))) 10 (.br 5 (.e 11 true false (.e 12 true false (.line [13]))) 11 (.e 5 true true (.e 12 true false (.line [13])))))))) ?_;repeat ((with_reducible refine Ux.qg ?_);refine Ux.qu ?_)
         refine ⟨?_,?_⟩
         ·go_wp2_with (fail)
          first|refine ⟨⟨HQ.out _ Ux.tq,HQ.out _ Ux.tq⟩,?_⟩|refine ⟨HQ.out _ Ux.tq,?_⟩
          go_wp2_with (go_at_call 120;refine (HR4.out _).mono ?_;rintro e w' ⟨rfl,rfl⟩)
          refine ⟨HQ.out _ Ux.tq,?_⟩
          go_wp2_with (fail)
          refine ⟨HQ.out _ Ux.tq,?_⟩
          go_wp2_with (go_at_call 118;fail)
          refine ((show RAt w wr a k c (68+i) by have:=HI.out.1;rw [show 68+1*i=68+i by omega] at this;exact this).put HX.out.1 Ux.tq (iv_rowAt2 (by repeat (first|exact nest_here _ _ _ (by simp [World.size_alloc])|refine nest_drew ?_|refine nest_there (by simp [World.size_alloc]<;>omega) ?_)) _ 1 rfl rfl) (rv_rowAt2 (by repeat (first|exact nest_here _ _ _ (by simp [World.size_alloc])|refine nest_drew ?_|refine nest_there (by simp [World.size_alloc]<;>omega) ?_)) _ 1 rfl (rv_one1 _ _ _ _ _ ⟨by rw [HX.out.2.1.1];rfl,by rw [HX.out.2.1.2.1];exact HX.out.2.2.symm,by rw [HX.out.2.1.2.2.1];rfl,HX.out.2.1.2.2.2.symm⟩))).mono ?_
          rintro e w5 ⟨a',k',c',rfl,hc5,hf5,HR,HT5,HT6⟩
          clear hc0
          clear hcell
          go_wp2_with (fail)
          refine ⟨HQ.out _ HT6.out,?_⟩
          go_wp2_with (fail)
          go_roundg g'
          case measure=>omega
          case rel=>exact ⟨i+1,_,_,_,by congr 1,by omega,HR.out.cell,Lib.hid (by rw [show 68+1*(i+1)=68+1*i+1 by omega];exact ⟨(show RAt _ _ _ _ _ (68+1*i+1) by rw [show 68+1*i=68+i by omega];exact HR.out),HT5.out.heap HI.out.2 (by have:=HX8g.out;omega)⟩)⟩
         ·go_wp2_with (go_at_call 120;refine (HR4.out _).mono ?_;rintro e w' ⟨rfl,rfl⟩)
          first|refine ⟨⟨HQ.out _ Ux.tq,HQ.out _ Ux.tq⟩,?_⟩|refine ⟨HQ.out _ Ux.tq,?_⟩
          refine ⟨?_,?_⟩
          ·go_wp2_with (fail)
           first|refine ⟨⟨HQ.out _ Ux.tq,HQ.out _ Ux.tq⟩,?_⟩|refine ⟨HQ.out _ Ux.tq,?_⟩
           go_wp2_with (fail)
           refine ⟨HQ.out _ Ux.tq,?_⟩
           go_wp2_with (go_at_call 118;fail)
           refine ((show RAt w wr a k c (68+i) by have:=HI.out.1;rw [show 68+1*i=68+i by omega] at this;exact this).put HX.out.1 Ux.tq (iv_rowAt2 (by repeat (first|exact nest_here _ _ _ (by simp [World.size_alloc])|refine nest_drew ?_|refine nest_there (by simp [World.size_alloc]<;>omega) ?_)) _ 1 rfl rfl) (rv_rowAt2 (by repeat (first|exact nest_here _ _ _ (by simp [World.size_alloc])|refine nest_drew ?_|refine nest_there (by simp [World.size_alloc]<;>omega) ?_)) _ 1 rfl (rv_one1 _ _ _ _ _ ⟨by rw [HX.out.2.1.1];rfl,by rw [HX.out.2.1.2.1];exact HX.out.2.2.symm,by rw [HX.out.2.1.2.2.1];rfl,HX.out.2.1.2.2.2.symm⟩))).mono ?_
           rintro e w5 ⟨a',k',c',rfl,hc5,hf5,HR,HT5,HT6⟩
           clear hc0
           clear hcell
           go_wp2_with (fail)
           refine ⟨HQ.out _ HT6.out,?_⟩
           go_wp2_with (fail)
           go_roundg g'
           case measure=>omega
           case rel=>exact ⟨i+1,_,_,_,by congr 1,by omega,HR.out.cell,Lib.hid (by rw [show 68+1*(i+1)=68+1*i+1 by omega];exact ⟨(show RAt _ _ _ _ _ (68+1*i+1) by rw [show 68+1*i=68+i by omega];exact HR.out),HT5.out.heap HI.out.2 (by have:=HX8g.out;omega)⟩)⟩
          ·go_wp2_with (fail)
           first|refine ⟨⟨HQ.out _ Ux.tq,HQ.out _ Ux.tq⟩,?_⟩|refine ⟨HQ.out _ Ux.tq,?_⟩
           go_wp2_with (fail)
           first|refine ⟨⟨HQ.out _ Ux.tq,HQ.out _ Ux.tq⟩,?_⟩|refine ⟨HQ.out _ Ux.tq,?_⟩
           go_wp2_with (go_at_call 118;fail)
           refine ((show RAt w wr a k c (68+i) by have:=HI.out.1;rw [show 68+1*i=68+i by omega] at this;exact this).put HX.out.1 Ux.tq (iv_rowAt2 (by repeat (first|exact nest_here _ _ _ (by simp [World.size_alloc])|refine nest_drew ?_|refine nest_there (by simp [World.size_alloc]<;>omega) ?_)) _ 1 rfl rfl) (rv_rowAt2 (by repeat (first|exact nest_here _ _ _ (by simp [World.size_alloc])|refine nest_drew ?_|refine nest_there (by simp [World.size_alloc]<;>omega) ?_)) _ 1 rfl (rv_one1 _ _ _ _ _ ⟨by rw [HX.out.2.1.1];rfl,by rw [HX.out.2.1.2.1];exact HX.out.2.2.symm,by rw [HX.out.2.1.2.2.1];rfl,HX.out.2.1.2.2.2.symm⟩))).mono ?_
           rintro e w5 ⟨a',k',c',rfl,hc5,hf5,HR,HT5,HT6⟩
           clear hc0
           clear hcell
           go_wp2_with (fail)
           refine ⟨HQ.out _ HT6.out,?_⟩
           go_wp2_with (fail)
           go_roundg g'
           case measure=>omega
           case rel=>exact ⟨i+1,_,_,_,by congr 1,by omega,HR.out.cell,Lib.hid (by rw [show 68+1*(i+1)=68+1*i+1 by omega];exact ⟨(show RAt _ _ _ _ _ (68+1*i+1) by rw [show 68+1*i=68+i by omega];exact HR.out),HT5.out.heap HI.out.2 (by have:=HX8g.out;omega)⟩)⟩
        ·obtain rfl:i=8:=by omega
         have HS:=HI
         clear hlt hig i0 hc0
         have HS:=Lib.hid HS.out.1
         obtain ⟨X6,hX6e⟩: ∃X,wr.heap.size=X:=⟨_,rfl⟩
         have hX6g:w.heap.size+2≤X6:=by rw [←hX6e];exact HS.out.2.2.2.2
         have hT6:Ux.Touch (fun _=>False) wr ((wr.alloc (.cells #[.int .i64 768,.int .i64 769,.int .i64 770,.int .i64 771,.int .i64 776,.int .i64 778] 3)).alloc (.cells #[.int .i64 768,.int .i64 769,.int .i64 770,.int .i64 776] 3)):=((Ux.Touch.refl _ _).alloc _).alloc _
         have h6:((wr.alloc (.cells #[.int .i64 768,.int .i64 769,.int .i64 770,.int .i64 771,.int .i64 776,.int .i64 778] 3)).alloc (.cells #[.int .i64 768,.int .i64 769,.int .i64 770,.int .i64 776] 3)).heap[X6]? =some (.cells #[.int .i64 768,.int .i64 769,.int .i64 770,.int .i64 771,.int .i64 776,.int .i64 778] 3 (0,0)):=nest_there (by simp [World.size_alloc];omega) (nest_here _ _ _ hX6e.symm)
         have h4:((wr.alloc (.cells #[.int .i64 768,.int .i64 769,.int .i64 770,.int .i64 771,.int .i64 776,.int .i64 778] 3)).alloc (.cells #[.int .i64 768,.int .i64 769,.int .i64 770,.int .i64 776] 3)).heap[X6+1]? =some (.cells #[.int .i64 768,.int .i64 769,.int .i64 770,.int .i64 776] 3 (0,0)):=nest_here _ _ _ (by simp [World.size_alloc];omega)
         have HS:Hid (RAt w ((wr.alloc (.cells #[.int .i64 768,.int .i64 769,.int .i64 770,.int .i64 771,.int .i64 776,.int .i64 778] 3)).alloc (.cells #[.int .i64 768,.int .i64 769,.int .i64 770,.int .i64 776] 3)) a k c (76+2*0)∧((wr.alloc (.cells #[.int .i64 768,.int .i64 769,.int .i64 770,.int .i64 771,.int .i64 776,.int .i64 778] 3)).alloc (.cells #[.int .i64 768,.int .i64 769,.int .i64 770,.int .i64 776] 3)).heap[X6]? =some (.cells #[.int .i64 768,.int .i64 769,.int .i64 770,.int .i64 771,.int .i64 776,.int .i64 778] 3 (0,0))∧((wr.alloc (.cells #[.int .i64 768,.int .i64 769,.int .i64 770,.int .i64 771,.int .i64 776,.int .i64 778] 3)).alloc (.cells #[.int .i64 768,.int .i64 769,.int .i64 770,.int .i64 776] 3)).heap[X6+1]? =some (.cells #[.int .i64 768,.int .i64 769,.int .i64 770,.int .i64 776] 3 (0,0))):=Lib.hid ⟨HS.out.touch hT6,h6,h4⟩
         have HX6g:=Lib.hid hX6g
         clear h6 h4 hT6 hX6g
         go_wp2_with (fail)
         go_loopg [9] 6 (fun g s9 wr=> ∃(i:Nat) (a:Option Addr) (k c:Nat),s9= .int .i64 i∧i+g=6∧wr.cell? ⟨w.heap.size+1,0,none⟩=some (.slice a k c)∧Hid (RAt w wr a k c (76+2*i)∧wr.heap[X6]? =some (.cells #[.int .i64 768,.int .i64 769,.int .i64 770,.int .i64 771,.int .i64 776,.int .i64 778] 3 (0,0))∧wr.heap[X6+1]? =some (.cells #[.int .i64 768,.int .i64 769,.int .i64 770,.int .i64 776] 3 (0,0))))
         case atStart=>exact ⟨0,_,_,_,rfl,rfl,HS.out.1.cell,Lib.hid HS.out⟩
         case round=>
          obtain ⟨i,a,k,c,rfl,hig,hc0,HI⟩:=hrel
          have i0:(0:Int)≤i:=by omega
          by_cases hlt:i<6
          ·obtain ⟨g',rfl⟩: ∃g',gk=g'+1:=⟨gk-1,by omega⟩
           have i1:(i:Int)<6:=by omega
           obtain ⟨M,hM⟩: ∃M,Ux.six.getD i 0=M:=⟨_,rfl⟩
           have hMm:M∈[768,769,770,771,772,776,778,807]:=by
            have h8: ∀i,i<6→Ux.six.getD i 0∈[768,769,770,771,772,776,778,807]:=by decide
            rw [←hM];exact h8 i (by omega)
           have hcell:wr.cell? ⟨X6,i,none⟩=some (.int .i64 (M:Int)):=by
            have h8: ∀i,i<6→(#[.int .i64 768,.int .i64 769,.int .i64 770,.int .i64 771,.int .i64 776,.int .i64 778]:Array Value)[i]? =some (.int .i64 (Ux.six.getD i 0:Nat)):=by
             intro i hi
             have:i=0∨i=1∨i=2∨i=3∨i=4∨i=5:=by omega
             rcases this with rfl|rfl|rfl|rfl|rfl|rfl<;>rfl
            rw [cell_of_row _ _ i _ _ (0,0) HI.out.2.1,h8 i (by omega),hM]
           have hseq:=Ux.rs_5 i hlt
           rw [hM] at hseq
           have HQ:=Lib.hid fun W (T:Ux.Touch (fun _=>False) wr W)=>And.intro (T.cell hc0 (fun f=>f)) (T.cell hcell (fun f=>f))
           have HX:=Lib.hid (And.intro hseq hMm)
           clear hseq hM hMm hlt
           go_upto_region 25 with (fail)
           refine Ux.wpr (fun _ w'=>w'.cell? ⟨w.heap.size+1,0,none⟩=some (.slice a k c)∧w'.cell? ⟨X6,i,none⟩=some (.int .i64 (M:Int))) (.h false [0] (.q [1,2,3,4,5] (.h false [6] (.e 7 false false (.line [8]))))) ?_;repeat ((with_reducible refine Ux.qg ?_);refine Ux.qu ?_)
           go_wp2_with (go_at_call 121;fail)
           refine (HI.out.1.marked HX.out.1 HX.out.2 (by omega) (by omega) Ux.tq _ _ _ (by omega) (by omega) rfl).mono ?_
           rintro e w5 ⟨a',k',c',rfl,hc5,hf5,HR,HT5,HT6⟩
           clear hc0
           go_wp2_with (fail)
           clear hcell
           go_roundg g'
           case measure=>omega
           case rel=>exact ⟨i+1,_,_,_,by congr 1,by omega,HR.out.cell,Lib.hid (by rw [show 76+2*(i+1)=76+2*i+2 by omega];exact ⟨HR.out,HT5.out.heap HI.out.2.1 (by have:=HX6g.out;omega),HT5.out.heap HI.out.2.2 (by have:=HX6g.out;omega)⟩)⟩
          ·obtain rfl:i=6:=by omega
           have HS:=HI
           clear hlt hig i0 hc0
           have hc0:=HS.out.1.cell
           go_wp2_with (go_at_call 121;fail)
           refine (HS.out.1.marked (show isMkd (76+2*6) 199 2 807 from Ux.rs_6) (by decide) (by omega) (by omega) (Ux.Touch.refl _ _) _ _ _ (by omega) (by omega) (by omega)).mono ?_
           rintro e w5 ⟨a',k',c',rfl,hc5,hf5,HR,HT5,HT6⟩
           have HS:=Lib.hid (And.intro HR.out (And.intro (HT5.out.heap HS.out.2.1 (by have:=HX6g.out;omega)) (HT5.out.heap HS.out.2.2 (by have:=HX6g.out;omega))))
           clear hc0
           go_wp2_with (fail)
           go_loopg [10] 4 (fun g s10 wr=> ∃(i:Nat) (a:Option Addr) (k c:Nat),s10= .int .i64 i∧i+g=4∧wr.cell? ⟨w.heap.size+1,0,none⟩=some (.slice a k c)∧Hid (RAt w wr a k c (90+6*i)∧wr.heap[X6]? =some (.cells #[.int .i64 768,.int .i64 769,.int .i64 770,.int .i64 771,.int .i64 776,.int .i64 778] 3 (0,0))∧wr.heap[X6+1]? =some (.cells #[.int .i64 768,.int .i64 769,.int .i64 770,.int .i64 776] 3 (0,0))))
           case atStart=>exact ⟨0,_,_,_,rfl,rfl,HS.out.1.cell,Lib.hid HS.out⟩
           case round=>
            obtain ⟨i,a,k,c,rfl,hig,hc0,HI⟩:=hrel
            have i0:(0:Int)≤i:=by omega
            by_cases hlt:i<4
            ·obtain ⟨g',rfl⟩: ∃g',gk=g'+1:=⟨gk-1,by omega⟩
             have i1:(i:Int)<4:=by omega
             obtain ⟨M,hM⟩: ∃M,Ux.four.getD i 0=M:=⟨_,rfl⟩
             have hMm:M∈[768,769,770,771,772,776,778,807]:=by
              have h8: ∀i,i<4→Ux.four.getD i 0∈[768,769,770,771,772,776,778,807]:=by decide
              rw [←hM];exact h8 i (by omega)
             have hcell:wr.cell? ⟨X6+1,i,none⟩=some (.int .i64 (M:Int)):=by
              have h8: ∀i,i<4→(#[.int .i64 768,.int .i64 769,.int .i64 770,.int .i64 776]:Array Value)[i]? =some (.int .i64 (Ux.four.getD i 0:Nat)):=by
               intro i hi
               have:i=0∨i=1∨i=2∨i=3:=by omega
               rcases this with rfl|rfl|rfl|rfl<;>rfl
              rw [cell_of_row _ _ i _ _ (0,0) HI.out.2.2,h8 i (by omega),hM]
             obtain ⟨hs1,hs2,hs3⟩:=Ux.rs_7 i hlt
             rw [hM] at hs1 hs2 hs3
             have HQ:=Lib.hid fun W (T:Ux.Touch (fun _=>False) wr W)=>And.intro (T.cell hc0 (fun f=>f)) (T.cell hcell (fun f=>f))
             have HX:=Lib.hid (And.intro hs1 (And.intro hs2 (And.intro hs3 hMm)))
             have HM:=Lib.hid hM
             clear hs1 hs2 hs3 hM hMm hlt
             go_upto_region 30 with (fail)
             go_cut [] (fun wx=> ∃a' k' c',wx.cell? ⟨w.heap.size+1,0,none⟩=some (.slice a' k' c')∧Hid (RAt w wx a' k' c' (90+6*i+2)∧wx.heap[X6]? =some (.cells #[.int .i64 768,.int .i64 769,.int .i64 770,.int .i64 771,.int .i64 776,.int .i64 778] 3 (0,0))∧wx.heap[X6+1]? =some (.cells #[.int .i64 768,.int .i64 769,.int .i64 770,.int .i64 776] 3 (0,0))))
             case first=>
              refine Ux.wpr (fun _ w'=>w'.cell? ⟨w.heap.size+1,0,none⟩=some (.slice a k c)∧w'.cell? ⟨X6+1,i,none⟩=some (.int .i64 (M:Int))) (.h false [0] (.q [1,2,3,4,5] (.h false [6] (.e 7 false false (.line [8]))))) ?_;repeat ((with_reducible refine Ux.qg ?_);refine Ux.qu ?_)
              go_wp2_with (go_at_call 121;fail)
              refine (HI.out.1.marked HX.out.1 HX.out.2.2.2 (by omega) (by omega) Ux.tq _ _ _ (by omega) (by omega) rfl).mono ?_
              rintro e w5 ⟨a',k',c',rfl,hc5,hf5,HR,HT5,HT6⟩
              clear hc0
              go_wp2_with (fail)
              go_meet
              exact ⟨_,_,_,HR.out.cell,Lib.hid ⟨HR.out,HT5.out.heap HI.out.2.1 (by have:=HX6g.out;omega),HT5.out.heap HI.out.2.2 (by have:=HX6g.out;omega)⟩⟩
             obtain ⟨a1,k1,c1,hc1,H1⟩:=hcut
             have hcell1:wc.cell? ⟨X6+1,i,none⟩=some (.int .i64 (M:Int)):=by
              have h8: ∀i,i<4→(#[.int .i64 768,.int .i64 769,.int .i64 770,.int .i64 776]:Array Value)[i]? =some (.int .i64 (Ux.four.getD i 0:Nat)):=by
               intro i hi
               have:i=0∨i=1∨i=2∨i=3:=by omega
               rcases this with rfl|rfl|rfl|rfl<;>rfl
              rw [cell_of_row _ _ i _ _ (0,0) H1.out.2.2,h8 i (by omega),HM.out]
             have HQ1:=Lib.hid fun W (T:Ux.Touch (fun _=>False) wc W)=>And.intro (T.cell hc1 (fun f=>f)) (T.cell hcell1 (fun f=>f))
             clear hc0 hcell
             have hc0:=hc1
             have hcell:=hcell1
             clear hc1 hcell1
             go_upto_region 31 with (fail)
             go_cut [] (fun wx=> ∃a' k' c',wx.cell? ⟨w.heap.size+1,0,none⟩=some (.slice a' k' c')∧Hid (RAt w wx a' k' c' (90+6*i+2+2)∧wx.heap[X6]? =some (.cells #[.int .i64 768,.int .i64 769,.int .i64 770,.int .i64 771,.int .i64 776,.int .i64 778] 3 (0,0))∧wx.heap[X6+1]? =some (.cells #[.int .i64 768,.int .i64 769,.int .i64 770,.int .i64 776] 3 (0,0))))
             case first=>
              refine Ux.wpr (fun _ w'=>w'.cell? ⟨w.heap.size+1,0,none⟩=some (.slice a1 k1 c1)∧w'.cell? ⟨X6+1,i,none⟩=some (.int .i64 (M:Int))) (.h false [0] (.q [1,2,3,4,5] (.h false [6] (.e 7 false false (.line [8]))))) ?_;repeat ((with_reducible refine Ux.qg ?_);refine Ux.qu ?_)
              go_wp2_with (go_at_call 121;fail)
              refine (H1.out.1.marked HX.out.2.1 HX.out.2.2.2 (by omega) (by omega) Ux.tq _ _ _ (by omega) (by omega) rfl).mono ?_
              rintro e w5 ⟨a',k',c',rfl,hc5,hf5,HR,HT5,HT6⟩
              clear hc0
              go_wp2_with (fail)
              go_meet
              exact ⟨_,_,_,HR.out.cell,Lib.hid ⟨HR.out,HT5.out.heap H1.out.2.1 (by have:=HX6g.out;omega),HT5.out.heap H1.out.2.2 (by have:=HX6g.out;omega)⟩⟩
             obtain ⟨a2,k2,c2,hc2,H2⟩:=hcut
             have hcell2:wc.cell? ⟨X6+1,i,none⟩=some (.int .i64 (M:Int)):=by
              have h8: ∀i,i<4→(#[.int .i64 768,.int .i64 769,.int .i64 770,.int .i64 776]:Array Value)[i]? =some (.int .i64 (Ux.four.getD i 0:Nat)):=by
               intro i hi
               have:i=0∨i=1∨i=2∨i=3:=by omega
               rcases this with rfl|rfl|rfl|rfl<;>rfl
              rw [cell_of_row _ _ i _ _ (0,0) H2.out.2.2,h8 i (by omega),HM.out]
             have HQ2:=Lib.hid fun W (T:Ux.Touch (fun _=>False) wc W)=>And.intro (T.cell hc2 (fun f=>f)) (T.cell hcell2 (fun f=>f))
             clear hc0 hcell
             have hc0:=hc2
             have hcell:=hcell2
             clear hc2 hcell2
             go_upto_region 32 with (fail)
             refine Ux.wpr (fun _ w'=>w'.cell? ⟨w.heap.size+1,0,none⟩=some (.slice a2 k2 c2)∧w'.cell? ⟨X6+1,i,none⟩=some (.int .i64 (M:Int))) (.h false [0] (.q [1,2,3,4,5] (.h false [6] (.e 7 false false (.line [8]))))) ?_;repeat ((with_reducible refine Ux.qg ?_);refine Ux.qu ?_)
             go_wp2_with (go_at_call 121;fail)
             refine (H2.out.1.marked HX.out.2.2.1 HX.out.2.2.2 (by omega) (by omega) Ux.tq _ _ _ (by omega) (by omega) rfl).mono ?_
             rintro e w5 ⟨a',k',c',rfl,hc5,hf5,HR,HT5,HT6⟩
             clear hc0
             go_wp2_with (fail)
             clear hcell
             go_roundg g'
             case measure=>omega
             case rel=>exact ⟨i+1,_,_,_,by congr 1,by omega,HR.out.cell,Lib.hid (by rw [show 90+6*(i+1)=90+6*i+6 by omega];exact ⟨HR.out,HT5.out.heap H2.out.2.1 (by have:=HX6g.out;omega),HT5.out.heap H2.out.2.2 (by have:=HX6g.out;omega)⟩)⟩
            ·obtain rfl:i=4:=by omega
             have HS:=HI
             clear hlt hig i0 hc0
             have hc0:=HS.out.1.cell
             go_wp2_with (go_at_call 121;fail)
             refine (HS.out.1.marked (show isMkd (90+6*4) 209 13 771 from Ux.rs_8) (by decide) (by omega) (by omega) (Ux.Touch.refl _ _) _ _ _ (by omega) (by omega) (by omega)).mono ?_
             rintro e w5 ⟨a',k',c',rfl,hc5,hf5,HR,HT5,HT6⟩
             have HS:=Lib.hid (And.intro HR.out (And.intro (HT5.out.heap HS.out.2.1 (by have:=HX6g.out;omega)) (HT5.out.heap HS.out.2.2 (by have:=HX6g.out;omega))))
             clear hc0
             go_wp2_with (fail)
             go_loopg [11] 5 (fun g s11 wr=> ∃(i:Nat) (a:Option Addr) (k c:Nat),s11= .int .i64 i∧i+g=5∧wr.cell? ⟨w.heap.size+1,0,none⟩=some (.slice a k c)∧Hid (RAt w wr a k c (116+2*i)∧wr.heap[X6]? =some (.cells #[.int .i64 768,.int .i64 769,.int .i64 770,.int .i64 771,.int .i64 776,.int .i64 778] 3 (0,0))∧wr.heap[X6+1]? =some (.cells #[.int .i64 768,.int .i64 769,.int .i64 770,.int .i64 776] 3 (0,0))))
             case atStart=>exact ⟨0,_,_,_,rfl,rfl,HS.out.1.cell,Lib.hid HS.out⟩
             case round=>
              obtain ⟨i,a,k,c,rfl,hig,hc0,HI⟩:=hrel
              have i0:(0:Int)≤i:=by omega
              by_cases hlt:i<5
              ·obtain ⟨g',rfl⟩: ∃g',gk=g'+1:=⟨gk-1,by omega⟩
               have i1:(i:Int)<5:=by omega
               obtain ⟨M,hM⟩: ∃M,Ux.six.getD i 0=M:=⟨_,rfl⟩
               have hMm:M∈[768,769,770,771,772,776,778,807]:=by
                have h8: ∀i,i<6→Ux.six.getD i 0∈[768,769,770,771,772,776,778,807]:=by decide
                rw [←hM];exact h8 i (by omega)
               have hcell:wr.cell? ⟨X6,i,none⟩=some (.int .i64 (M:Int)):=by
                have h8: ∀i,i<6→(#[.int .i64 768,.int .i64 769,.int .i64 770,.int .i64 771,.int .i64 776,.int .i64 778]:Array Value)[i]? =some (.int .i64 (Ux.six.getD i 0:Nat)):=by
                 intro i hi
                 have:i=0∨i=1∨i=2∨i=3∨i=4∨i=5:=by omega
                 rcases this with rfl|rfl|rfl|rfl|rfl|rfl<;>rfl
                rw [cell_of_row _ _ i _ _ (0,0) HI.out.2.1,h8 i (by omega),hM]
               have hseq:=Ux.rs_9 i hlt
               rw [hM] at hseq
               have HQ:=Lib.hid fun W (T:Ux.Touch (fun _=>False) wr W)=>And.intro (T.cell hc0 (fun f=>f)) (T.cell hcell (fun f=>f))
               have HX:=Lib.hid (And.intro hseq hMm)
               clear hseq hM hMm hlt
               go_upto_region 37 with (fail)
               refine Ux.wpr (fun _ w'=>w'.cell? ⟨w.heap.size+1,0,none⟩=some (.slice a k c)∧w'.cell? ⟨X6,i,none⟩=some (.int .i64 (M:Int))) (.h false [0] (.q [1,2,3,4,5] (.h false [6] (.e 7 false false (.line [8]))))) ?_;repeat ((with_reducible refine Ux.qg ?_);refine Ux.qu ?_)
               go_wp2_with (go_at_call 121;fail)
               refine (HI.out.1.marked HX.out.1 HX.out.2 (by omega) (by omega) Ux.tq _ _ _ (by omega) (by omega) rfl).mono ?_
               rintro e w5 ⟨a',k',c',rfl,hc5,hf5,HR,HT5,HT6⟩
               clear hc0
               go_wp2_with (fail)
               clear hcell
               go_roundg g'
               case measure=>omega
               case rel=>exact ⟨i+1,_,_,_,by congr 1,by omega,HR.out.cell,Lib.hid (by rw [show 116+2*(i+1)=116+2*i+2 by omega];exact ⟨HR.out,HT5.out.heap HI.out.2.1 (by have:=HX6g.out;omega),HT5.out.heap HI.out.2.2 (by have:=HX6g.out;omega)⟩)⟩
              ·obtain rfl:i=5:=by omega
               have HS:=HI
               clear hlt hig i0 hc0
               have hc0:=HS.out.1.cell
               go_wp2_with (go_at_call 121;fail)
               refine (HS.out.1.marked (show isMkd (116+2*5) 221 24 769 from Ux.rs_10) (by decide) (by omega) (by omega) (Ux.Touch.refl _ _) _ _ _ (by omega) (by omega) (by omega)).mono ?_
               rintro e w5 ⟨a',k',c',rfl,hc5,hf5,HR,HT5,HT6⟩
               have HS:=Lib.hid (And.intro HR.out (And.intro (HT5.out.heap HS.out.2.1 (by have:=HX6g.out;omega)) (HT5.out.heap HS.out.2.2 (by have:=HX6g.out;omega))))
               clear hc0
               have HL:=Lib.hid fun (C:Int) (h1:97≤C) (h2:C≤122) (W:World)=>rletterS_ C h1 h2 W
               go_upto_region 40 with (go_at_call 119;refine (HL.out _ (by omega) (by omega) _).mono ?_;rintro e w' ⟨rfl,hw⟩;obtain rfl:=hw)
               have hA6:RAtA (fun b=>w.heap.size+2≤b∧¬(w5.heap.size+3≤b∧b≤w5.heap.size+5)) w (((((((w5.setCell ⟨w.heap.size+1,0,none⟩ (.slice a' k' c')).alloc (.cells #[.int .i64 400,.int .i64 32,.int .i64 2,.bool false] 212)).alloc (.cells #[.int .i64 256,.int .i64 32,.int .i64 2,.bool false] 212)).alloc (.cells #[.int .i64 288,.int .i64 32,.int .i64 2,.bool false] 212)).alloc (.cells #[.int .i64 400,.int .i64 32,.int .i64 2,.bool false] 212)).alloc (.cells #[.int .i64 256,.int .i64 32,.int .i64 2,.bool false] 212)).alloc (.cells #[.int .i64 288,.int .i64 32,.int .i64 2,.bool false] 212)) a' k' c' 128:=(HS.out.1.mono fun g h1 h2=>⟨h2,fun h3=>by simp at h1;omega⟩).touch Ux.tq
               obtain ⟨PB,hPB⟩: ∃PB,w5.heap.size+3=PB:=⟨_,rfl⟩
               have e0:(((((((w5.setCell ⟨w.heap.size+1,0,none⟩ (.slice a' k' c')).alloc (.cells #[.int .i64 400,.int .i64 32,.int .i64 2,.bool false] 212)).alloc (.cells #[.int .i64 256,.int .i64 32,.int .i64 2,.bool false] 212)).alloc (.cells #[.int .i64 288,.int .i64 32,.int .i64 2,.bool false] 212)).alloc (.cells #[.int .i64 400,.int .i64 32,.int .i64 2,.bool false] 212)).alloc (.cells #[.int .i64 256,.int .i64 32,.int .i64 2,.bool false] 212)).alloc (.cells #[.int .i64 288,.int .i64 32,.int .i64 2,.bool false] 212)).heap[PB]? =some (.cells #[.int .i64 400,.int .i64 32,.int .i64 2,.bool false] 212 (0,0)):=by rw [←hPB];exact (by repeat (first|exact nest_here _ _ _ (by simp [World.size_alloc])|refine nest_drew ?_|refine nest_there (by simp [World.size_alloc]<;>omega) ?_))
               have e1:(((((((w5.setCell ⟨w.heap.size+1,0,none⟩ (.slice a' k' c')).alloc (.cells #[.int .i64 400,.int .i64 32,.int .i64 2,.bool false] 212)).alloc (.cells #[.int .i64 256,.int .i64 32,.int .i64 2,.bool false] 212)).alloc (.cells #[.int .i64 288,.int .i64 32,.int .i64 2,.bool false] 212)).alloc (.cells #[.int .i64 400,.int .i64 32,.int .i64 2,.bool false] 212)).alloc (.cells #[.int .i64 256,.int .i64 32,.int .i64 2,.bool false] 212)).alloc (.cells #[.int .i64 288,.int .i64 32,.int .i64 2,.bool false] 212)).heap[PB+1]? =some (.cells #[.int .i64 256,.int .i64 32,.int .i64 2,.bool false] 212 (0,0)):=by rw [←hPB];exact (by repeat (first|exact nest_here _ _ _ (by simp [World.size_alloc])|refine nest_drew ?_|refine nest_there (by simp [World.size_alloc]<;>omega) ?_))
               have e2:(((((((w5.setCell ⟨w.heap.size+1,0,none⟩ (.slice a' k' c')).alloc (.cells #[.int .i64 400,.int .i64 32,.int .i64 2,.bool false] 212)).alloc (.cells #[.int .i64 256,.int .i64 32,.int .i64 2,.bool false] 212)).alloc (.cells #[.int .i64 288,.int .i64 32,.int .i64 2,.bool false] 212)).alloc (.cells #[.int .i64 400,.int .i64 32,.int .i64 2,.bool false] 212)).alloc (.cells #[.int .i64 256,.int .i64 32,.int .i64 2,.bool false] 212)).alloc (.cells #[.int .i64 288,.int .i64 32,.int .i64 2,.bool false] 212)).heap[PB+1+1]? =some (.cells #[.int .i64 288,.int .i64 32,.int .i64 2,.bool false] 212 (0,0)):=by rw [←hPB];exact (by repeat (first|exact nest_here _ _ _ (by simp [World.size_alloc])|refine nest_drew ?_|refine nest_there (by simp [World.size_alloc]<;>omega) ?_))
               have hPg:w.heap.size+2≤PB:=by have h1:=HS.out.1.2.2.2.2;simp at h1;omega
               rw [show w5.heap.size+1+1+1=PB by omega]
               rw [show w5.heap.size+5=PB+2 by omega,hPB] at hA6
               generalize ((((((w5.setCell ⟨w.heap.size+1,0,none⟩ (.slice a' k' c')).alloc (.cells #[.int .i64 400,.int .i64 32,.int .i64 2,.bool false] 212)).alloc (.cells #[.int .i64 256,.int .i64 32,.int .i64 2,.bool false] 212)).alloc (.cells #[.int .i64 288,.int .i64 32,.int .i64 2,.bool false] 212)).alloc (.cells #[.int .i64 400,.int .i64 32,.int .i64 2,.bool false] 212)).alloc (.cells #[.int .i64 256,.int .i64 32,.int .i64 2,.bool false] 212)).alloc (.cells #[.int .i64 288,.int .i64 32,.int .i64 2,.bool false] 212)=W6 at hA6 e0 e1 e2⊢
               have HS:=Lib.hid hA6
               have HE:=Lib.hid (And.intro e0 (And.intro e1 e2))
               have HPG:=Lib.hid hPg
               clear hA6 e0 e1 e2 hPg HL hPB
               have f02:W6.cell? ⟨PB,2,none⟩=some (.int .i64 2):=by rw [cell_of_row _ _ 2 _ _ (0,0) HE.out.1];rfl
               have f12:W6.cell? ⟨PB+1,2,none⟩=some (.int .i64 2):=by rw [cell_of_row _ _ 2 _ _ (0,0) HE.out.2.1];rfl
               have f22:W6.cell? ⟨PB+1+1,2,none⟩=some (.int .i64 2):=by rw [cell_of_row _ _ 2 _ _ (0,0) HE.out.2.2];rfl
               have z0:=Ux.frozen_row HE.out.1 2
               have z1:=Ux.frozen_row HE.out.2.1 2
               have z2:=Ux.frozen_row HE.out.2.2 2
               go_upto_region 40 with (fail)
               go_cut [] (fun wx=>Hid (RAtA (fun b=>w.heap.size+2≤b∧¬(PB≤b∧b≤PB+2)) w wx a' k' c' 128∧wx.heap[PB]? =some (.cells #[.int .i64 400,.int .i64 32,.int .i64 4,.bool false] 212 (0,0))∧wx.heap[PB+1]? =some (.cells #[.int .i64 256,.int .i64 32,.int .i64 4,.bool false] 212 (0,0))∧wx.heap[PB+1+1]? =some (.cells #[.int .i64 288,.int .i64 32,.int .i64 4,.bool false] 212 (0,0))))
               case first=>
                go_wp2_with (fail)
                go_meet
                have hpg:=HPG.out
                have tt:Ux.Touch (fun b=>PB≤b∧b≤PB+2) W6 (((W6.setCell ⟨PB,2,none⟩ (.int .i64 4)).setCell ⟨PB+1,2,none⟩ (.int .i64 4)).setCell ⟨PB+1+1,2,none⟩ (.int .i64 4)):=((((Ux.Touch.refl (fun b=>PB≤b∧b≤PB+2) W6).setCell (p:=⟨PB,2,none⟩) (fun _=>by show PB≤PB∧PB≤PB+2;omega) _).setCell (p:=⟨PB+1,2,none⟩) (fun _=>by show PB≤PB+1∧PB+1≤PB+2;omega) _).setCell (p:=⟨PB+1+1,2,none⟩) (fun _=>by show PB≤PB+1+1∧PB+1+1≤PB+2;omega) _)
                refine Lib.hid ⟨⟨HS.out.1.touchB tt (fun g hg h1 h2=>h1.2 h2),tt.heap HS.out.2.1 (by omega),tt.heap HS.out.2.2.1 (by omega),(((HS.out.2.2.2.1.setCell (p:=⟨PB,2,none⟩) (fun h=>by exfalso;have h:PB<w.heap.size:=h;omega) _).setCell (p:=⟨PB+1,2,none⟩) (fun h=>by exfalso;have h:PB+1<w.heap.size:=h;omega) _).setCell (p:=⟨PB+1+1,2,none⟩) (fun h=>by exfalso;have h:PB+1+1<w.heap.size:=h;omega) _),Nat.le_trans HS.out.2.2.2.2 tt.size⟩,?_,?_,?_⟩
                ·rw [Deep.blk_setCell_other _ _ _ _ (by show PB≠PB+1+1;omega)]
                 rw [Deep.blk_setCell_other _ _ _ _ (by show PB≠PB+1;omega)]
                 rw [Ux.setCell_row (show (W6).heap[PB]? =some (.cells #[.int .i64 400,.int .i64 32,.int .i64 2,.bool false] 212 (0,0)) from by exact HE.out.1)]
                 rfl
                ·rw [Deep.blk_setCell_other _ _ _ _ (by show PB+1≠PB+1+1;omega)]
                 rw [Ux.setCell_row (show ((W6.setCell ⟨PB,2,none⟩ (.int .i64 4))).heap[PB+1]? =some (.cells #[.int .i64 256,.int .i64 32,.int .i64 2,.bool false] 212 (0,0)) from by rw [Deep.blk_setCell_other _ _ _ _ (by show PB+1≠PB;omega)];exact HE.out.2.1)]
                 rfl
                ·rw [Ux.setCell_row (show (((W6.setCell ⟨PB,2,none⟩ (.int .i64 4)).setCell ⟨PB+1,2,none⟩ (.int .i64 4))).heap[PB+1+1]? =some (.cells #[.int .i64 288,.int .i64 32,.int .i64 2,.bool false] 212 (0,0)) from by rw [Deep.blk_setCell_other _ _ _ _ (by show PB+1+1≠PB+1;omega)];rw [Deep.blk_setCell_other _ _ _ _ (by show PB+1+1≠PB;omega)];exact HE.out.2.2)]
                 rfl
               obtain ⟨hc1,hc2,hc3,hc4⟩:=hcut.out
               have HS:=Lib.hid hc1
               have HE:=Lib.hid (And.intro hc2 (And.intro hc3 hc4))
               clear hc1 hc2 hc3 hc4 hcut
               have hc0:=HS.out.cell
               have tA:=(Ux.Touch.refl (fun _=>False) wc).alloc (.cells #[.int .i64 223] 3)
               have f00:(wc.alloc (.cells #[.int .i64 223] 3)).cell? ⟨PB,0,none⟩=some (.int .i64 400):=tA.cell (by rw [cell_of_row _ _ 0 _ _ (0,0) HE.out.1];rfl) (fun f=>f)
               have f01:(wc.alloc (.cells #[.int .i64 223] 3)).cell? ⟨PB,1,none⟩=some (.int .i64 32):=tA.cell (by rw [cell_of_row _ _ 1 _ _ (0,0) HE.out.1];rfl) (fun f=>f)
               have f02:(wc.alloc (.cells #[.int .i64 223] 3)).cell? ⟨PB,2,none⟩=some (.int .i64 4):=tA.cell (by rw [cell_of_row _ _ 2 _ _ (0,0) HE.out.1];rfl) (fun f=>f)
               have f03:(wc.alloc (.cells #[.int .i64 223] 3)).cell? ⟨PB,3,none⟩=some (.bool false):=tA.cell (by rw [cell_of_row _ _ 3 _ _ (0,0) HE.out.1];rfl) (fun f=>f)
               clear tA
               go_wp2_with (go_at_call 118;fail)
               refine (HS.out.putA (fun g h e=>by have:=h.1;omega) (fun g h=>⟨by have:=HS.out.2.2.2.2;omega,fun h2=>by have:=Ux.lt_of_heap HE.out.2.2;omega⟩) Ux.rs_11.1 Ux.tq (iv_rowAt2 (by repeat (first|exact nest_here _ _ _ (by simp [World.size_alloc])|refine nest_drew ?_|refine nest_there (by simp [World.size_alloc]<;>omega) ?_)) _ 1 rfl rfl) (rv_rowAt2 (by repeat (first|exact nest_here _ _ _ (by simp [World.size_alloc])|refine nest_drew ?_|refine nest_there (by simp [World.size_alloc]<;>omega) ?_)) _ 2 rfl (by kernel_rfl))).mono ?_
               rintro e w5 ⟨a',k',c',rfl,hc5,hf5,HR,HT5,HT6⟩
               clear hc0 f00 f01 f02 f03
               go_upto_region 42 with (fail)
               generalize w5.setCell ⟨w.heap.size+1,0,none⟩ (Value.slice a' k' c')=W7 at HR HT5⊢
               have hpg:=HPG.out
               have HE:=Lib.hid (And.intro (HT5.out.heap HE.out.1 (by omega)) (And.intro (HT5.out.heap HE.out.2.1 (by omega)) (HT5.out.heap HE.out.2.2 (by omega))))
               have HS:=HR
               clear HR HT5 HT6 hc5 hf5 hpg
               have hc0:=HS.out.cell
               have tA:=(Ux.Touch.refl (fun _=>False) W7).alloc (.cells #[.int .i64 230] 3)
               have f10:(W7.alloc (.cells #[.int .i64 230] 3)).cell? ⟨PB+1,0,none⟩=some (.int .i64 256):=tA.cell (by rw [cell_of_row _ _ 0 _ _ (0,0) HE.out.2.1];rfl) (fun f=>f)
               have f11:(W7.alloc (.cells #[.int .i64 230] 3)).cell? ⟨PB+1,1,none⟩=some (.int .i64 32):=tA.cell (by rw [cell_of_row _ _ 1 _ _ (0,0) HE.out.2.1];rfl) (fun f=>f)
               have f12:(W7.alloc (.cells #[.int .i64 230] 3)).cell? ⟨PB+1,2,none⟩=some (.int .i64 4):=tA.cell (by rw [cell_of_row _ _ 2 _ _ (0,0) HE.out.2.1];rfl) (fun f=>f)
               have f13:(W7.alloc (.cells #[.int .i64 230] 3)).cell? ⟨PB+1,3,none⟩=some (.bool false):=tA.cell (by rw [cell_of_row _ _ 3 _ _ (0,0) HE.out.2.1];rfl) (fun f=>f)
               have f20:(W7.alloc (.cells #[.int .i64 230] 3)).cell? ⟨PB+1+1,0,none⟩=some (.int .i64 288):=tA.cell (by rw [cell_of_row _ _ 0 _ _ (0,0) HE.out.2.2];rfl) (fun f=>f)
               have f21:(W7.alloc (.cells #[.int .i64 230] 3)).cell? ⟨PB+1+1,1,none⟩=some (.int .i64 32):=tA.cell (by rw [cell_of_row _ _ 1 _ _ (0,0) HE.out.2.2];rfl) (fun f=>f)
               have f22:(W7.alloc (.cells #[.int .i64 230] 3)).cell? ⟨PB+1+1,2,none⟩=some (.int .i64 4):=tA.cell (by rw [cell_of_row _ _ 2 _ _ (0,0) HE.out.2.2];rfl) (fun f=>f)
               have f23:(W7.alloc (.cells #[.int .i64 230] 3)).cell? ⟨PB+1+1,3,none⟩=some (.bool false):=tA.cell (by rw [cell_of_row _ _ 3 _ _ (0,0) HE.out.2.2];rfl) (fun f=>f)
               clear tA
               go_wp2_with (go_at_call 118;fail)
               refine (HS.out.putA (fun g h e=>by have:=h.1;omega) (fun g h=>⟨by have:=HS.out.2.2.2.2;omega,fun h2=>by have:=Ux.lt_of_heap HE.out.2.2;omega⟩) Ux.rs_11.2.1 Ux.tq (iv_rowAt2 (by repeat (first|exact nest_here _ _ _ (by simp [World.size_alloc])|refine nest_drew ?_|refine nest_there (by simp [World.size_alloc]<;>omega) ?_)) _ 1 rfl rfl) (rv_rowAt2 (by repeat (first|exact nest_here _ _ _ (by simp [World.size_alloc])|refine nest_drew ?_|refine nest_there (by simp [World.size_alloc]<;>omega) ?_)) _ 2 rfl (by kernel_rfl))).mono ?_
               rintro e w5 ⟨a',k',c',rfl,hc5,hf5,HR,HT5,HT6⟩
               clear hc0 f10 f11 f12 f13 f20 f21 f22 f23
               go_upto_region 43 with (fail)
               generalize w5.setCell ⟨w.heap.size+1,0,none⟩ (Value.slice a' k' c')=W8 at HR HT5⊢
               have hpg:=HPG.out
               have HE:=Lib.hid (And.intro (HT5.out.heap HE.out.1 (by omega)) (And.intro (HT5.out.heap HE.out.2.1 (by omega)) (HT5.out.heap HE.out.2.2 (by omega))))
               have HS:=HR
               clear HR HT5 HT6 hc5 hf5 hpg
               have f12:W8.cell? ⟨PB+1,2,none⟩=some (.int .i64 4):=by rw [cell_of_row _ _ 2 _ _ (0,0) HE.out.2.1];rfl
               have f22:W8.cell? ⟨PB+1+1,2,none⟩=some (.int .i64 4):=by rw [cell_of_row _ _ 2 _ _ (0,0) HE.out.2.2];rfl
               have z1:=Ux.frozen_row HE.out.2.1 2
               have z2:=Ux.frozen_row HE.out.2.2 2
               go_upto_region 43 with (fail)
               go_cut [] (fun wx=>Hid (RAtA (fun b=>w.heap.size+2≤b∧¬(PB≤b∧b≤PB+2)) w wx a' k' c' (128+1+1)∧wx.heap[PB]? =some (.cells #[.int .i64 400,.int .i64 32,.int .i64 4,.bool false] 212 (0,0))∧wx.heap[PB+1]? =some (.cells #[.int .i64 256,.int .i64 32,.int .i64 10,.bool false] 212 (0,0))∧wx.heap[PB+1+1]? =some (.cells #[.int .i64 288,.int .i64 32,.int .i64 10,.bool false] 212 (0,0))))
               case first=>
                go_wp2_with (fail)
                go_meet
                have hpg:=HPG.out
                have tt:Ux.Touch (fun b=>PB≤b∧b≤PB+2) W8 ((W8.setCell ⟨PB+1,2,none⟩ (.int .i64 10)).setCell ⟨PB+1+1,2,none⟩ (.int .i64 10)):=(((Ux.Touch.refl (fun b=>PB≤b∧b≤PB+2) W8).setCell (p:=⟨PB+1,2,none⟩) (fun _=>by show PB≤PB+1∧PB+1≤PB+2;omega) _).setCell (p:=⟨PB+1+1,2,none⟩) (fun _=>by show PB≤PB+1+1∧PB+1+1≤PB+2;omega) _)
                refine Lib.hid ⟨⟨HS.out.1.touchB tt (fun g hg h1 h2=>h1.2 h2),tt.heap HS.out.2.1 (by omega),tt.heap HS.out.2.2.1 (by omega),((HS.out.2.2.2.1.setCell (p:=⟨PB+1,2,none⟩) (fun h=>by exfalso;have h:PB+1<w.heap.size:=h;omega) _).setCell (p:=⟨PB+1+1,2,none⟩) (fun h=>by exfalso;have h:PB+1+1<w.heap.size:=h;omega) _),Nat.le_trans HS.out.2.2.2.2 tt.size⟩,?_,?_,?_⟩
                ·rw [Deep.blk_setCell_other _ _ _ _ (by show PB≠PB+1+1;omega)]
                 rw [Deep.blk_setCell_other _ _ _ _ (by show PB≠PB+1;omega)]
                 exact HE.out.1
                ·rw [Deep.blk_setCell_other _ _ _ _ (by show PB+1≠PB+1+1;omega)]
                 rw [Ux.setCell_row (show (W8).heap[PB+1]? =some (.cells #[.int .i64 256,.int .i64 32,.int .i64 4,.bool false] 212 (0,0)) from by exact HE.out.2.1)]
                 rfl
                ·rw [Ux.setCell_row (show ((W8.setCell ⟨PB+1,2,none⟩ (.int .i64 10))).heap[PB+1+1]? =some (.cells #[.int .i64 288,.int .i64 32,.int .i64 4,.bool false] 212 (0,0)) from by rw [Deep.blk_setCell_other _ _ _ _ (by show PB+1+1≠PB+1;omega)];exact HE.out.2.2)]
                 rfl
               obtain ⟨hc1,hc2,hc3,hc4⟩:=hcut.out
               have HS:=Lib.hid hc1
               have HE:=Lib.hid (And.intro hc2 (And.intro hc3 hc4))
               clear hc1 hc2 hc3 hc4 hcut
               have hc0:=HS.out.cell
               have tA:=(Ux.Touch.refl (fun _=>False) wc).alloc (.cells #[.int .i64 198] 3)
               have f10:(wc.alloc (.cells #[.int .i64 198] 3)).cell? ⟨PB+1,0,none⟩=some (.int .i64 256):=tA.cell (by rw [cell_of_row _ _ 0 _ _ (0,0) HE.out.2.1];rfl) (fun f=>f)
               have f11:(wc.alloc (.cells #[.int .i64 198] 3)).cell? ⟨PB+1,1,none⟩=some (.int .i64 32):=tA.cell (by rw [cell_of_row _ _ 1 _ _ (0,0) HE.out.2.1];rfl) (fun f=>f)
               have f12:(wc.alloc (.cells #[.int .i64 198] 3)).cell? ⟨PB+1,2,none⟩=some (.int .i64 10):=tA.cell (by rw [cell_of_row _ _ 2 _ _ (0,0) HE.out.2.1];rfl) (fun f=>f)
               have f13:(wc.alloc (.cells #[.int .i64 198] 3)).cell? ⟨PB+1,3,none⟩=some (.bool false):=tA.cell (by rw [cell_of_row _ _ 3 _ _ (0,0) HE.out.2.1];rfl) (fun f=>f)
               have f20:(wc.alloc (.cells #[.int .i64 198] 3)).cell? ⟨PB+1+1,0,none⟩=some (.int .i64 288):=tA.cell (by rw [cell_of_row _ _ 0 _ _ (0,0) HE.out.2.2];rfl) (fun f=>f)
               have f21:(wc.alloc (.cells #[.int .i64 198] 3)).cell? ⟨PB+1+1,1,none⟩=some (.int .i64 32):=tA.cell (by rw [cell_of_row _ _ 1 _ _ (0,0) HE.out.2.2];rfl) (fun f=>f)
               have f22:(wc.alloc (.cells #[.int .i64 198] 3)).cell? ⟨PB+1+1,2,none⟩=some (.int .i64 10):=tA.cell (by rw [cell_of_row _ _ 2 _ _ (0,0) HE.out.2.2];rfl) (fun f=>f)
               have f23:(wc.alloc (.cells #[.int .i64 198] 3)).cell? ⟨PB+1+1,3,none⟩=some (.bool false):=tA.cell (by rw [cell_of_row _ _ 3 _ _ (0,0) HE.out.2.2];rfl) (fun f=>f)
               clear tA
               go_wp2_with (go_at_call 118;fail)
               refine (HS.out.putA (fun g h e=>by have:=h.1;omega) (fun g h=>⟨by have:=HS.out.2.2.2.2;omega,fun h2=>by have:=Ux.lt_of_heap HE.out.2.2;omega⟩) Ux.rs_11.2.2.1 Ux.tq (iv_rowAt2 (by repeat (first|exact nest_here _ _ _ (by simp [World.size_alloc])|refine nest_drew ?_|refine nest_there (by simp [World.size_alloc]<;>omega) ?_)) _ 1 rfl rfl) (rv_rowAt2 (by repeat (first|exact nest_here _ _ _ (by simp [World.size_alloc])|refine nest_drew ?_|refine nest_there (by simp [World.size_alloc]<;>omega) ?_)) _ 2 rfl (by kernel_rfl))).mono ?_
               rintro e w5 ⟨a',k',c',rfl,hc5,hf5,HR,HT5,HT6⟩
               clear hc0 f10 f11 f12 f13 f20 f21 f22 f23
               go_upto_region 45 with (fail)
               generalize w5.setCell ⟨w.heap.size+1,0,none⟩ (Value.slice a' k' c')=W9 at HR HT5⊢
               have hpg:=HPG.out
               have HE:=Lib.hid (And.intro (HT5.out.heap HE.out.1 (by omega)) (And.intro (HT5.out.heap HE.out.2.1 (by omega)) (HT5.out.heap HE.out.2.2 (by omega))))
               have HS:=HR
               clear HR HT5 HT6 hc5 hf5 hpg
               have hc0:=HS.out.cell
               go_wp2_with (go_at_call 118;fail)
               have hsm:=root_small 131
               have tA:=(Ux.Touch.refl (fun _=>False) W9).alloc (.cells #[.int .i64 173] 3)
               refine (rrput_ _ _ _ (rootT 131) [173] [] _ _ (HS.out.1.touch0 tA) (iv_rowAt2 (by repeat (first|exact nest_here _ _ _ (by simp [World.size_alloc])|refine nest_drew ?_|refine nest_there (by simp [World.size_alloc]<;>omega) ?_)) _ 1 rfl rfl) (RRow.nil _) (by decide) (by decide) (by decide) (by omega) hsm.2).mono ?_
               rintro e w5 ⟨u,rfl,hR,hT⟩
               have hst:=Ux.rootT_step Ux.rs_11.2.2.2
               rw [show putE (rootT 131) [173] []=rootT 132 from hst.symm] at hR
               have hT9:=tA.trans hT fun _ _ f=>f
               have hr5:=hT9.heap HS.out.2.2.1 (fun f=>f)
               have hT0:=HS.out.2.2.2.1.trans hT9 fun _ _ f=>f
               have hcell5:w5.cell? ⟨w.heap.size,0,none⟩=some (.slice none 0 0):=by rw [cell_of_row w5 _ 0 _ _ (0,0) hr5];rfl
               have hfz5:=Ux.frozen_row hr5 0
               have hRu:=hR
               obtain ⟨_,a5,c5,hu,_⟩:=hRu
               obtain ⟨k5,hk5⟩: ∃k,(rootT 132).length=k:=⟨_,rfl⟩
               rw [hk5] at hu
               subst hu
               clear hk5
               have c6:(w5.setCell ⟨w.heap.size,0,none⟩ (.slice a5 k5 c5)).cell? ⟨w.heap.size,0,none⟩=some (.slice a5 k5 c5):=by
                rw [cell_of_row _ _ 0 _ _ (0,0) (Ux.setCell_row hr5 0 _)]
                rfl
               have hsz9:=HS.out.2.2.2.2
               have H5:=Lib.hid (And.intro hR (And.intro hT0 hsz9))
               clear hR hT hst hT9 hr5 hT0 tA hsm hsz9 hc0 HE
               go_wp2_with (fail)
               refine bodyPost_ret (by simp [results,Tryz.results83,go_sem,c6];try rfl) rfl ?_
               have T56:=fun u=>(Ux.Touch.refl (fun b=>b=w.heap.size) w5).setCell (p:=⟨w.heap.size,0,none⟩) (fun _=>rfl) u
               exact ⟨_,rfl,(H5.out.1.touchB (T56 _) fun g h1 h2 e=>by
                rcases h2 with h2|h2
                ·have:=h2.1;omega
                ·have:=H5.out.2.2;simp at h2;omega).mono (fun g h1 h2=>by
                rcases h2 with h2|h2
                ·exact h2.1
                ·have:=H5.out.2.2;simp at h2;omega),H5.out.2.1.setCell (p:=⟨w.heap.size,0,none⟩) (fun h=>absurd h (Nat.lt_irrefl _)) _⟩
end Go.Proofs.YtmnkinaaoifpeaaGreatDoor
