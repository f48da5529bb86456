/- A part of the proof that the statement holds for every input that it names. No other condition. -/
import Derived.Test.YtclffhpdekepkaaGreatDoorRefAZ
set_option linter.unusedVariables false
set_option linter.unusedSimpArgs false
namespace Go.Proofs.YtclffhpdekepkaaGreatDoor
open Go.RowKit
open Ux (Ent befE sv iv findE KGrow Ents putE eP eS eT eV eLetter eMark eMk markW rootT rseq rootSp rootMk six four isMkd)
def RAtA (A:Nat→Prop) (w0 wr:World) (a:Option Addr) (k c n:Nat):Prop:=RRows wr A (.slice a k c) (rootT n)∧wr.heap[w0.heap.size+1]? =some (.cells #[.slice a k c] 64 (0,0))∧
 wr.heap[w0.heap.size]? =some (.cells #[.slice none 0 0] 64 (0,0))∧Ux.Touch (fun _=>False) w0 wr∧w0.heap.size+2≤wr.heap.size
abbrev RAt (w0 wr:World) (a:Option Addr) (k c n:Nat):Prop:=RAtA (fun b=>w0.heap.size+2≤b) w0 wr a k c n
theorem RAtA.cell {A:Nat→Prop} {w0 wr:World} {a:Option Addr} {k c n:Nat} (h:RAtA A w0 wr a k c n):wr.cell? ⟨w0.heap.size+1,0,none⟩=some (.slice a k c):=by rw [cell_of_row _ _ 0 _ _ (0,0) h.2.1];rfl
theorem RAtA.touch {A:Nat→Prop} {w0 wr W:World} {a:Option Addr} {k c n:Nat} (h:RAtA A w0 wr a k c n) (T:Ux.Touch (fun _=>False) wr W):RAtA A w0 W a k c n:=
 ⟨h.1.touch0 T,T.heap h.2.1 (fun f=>f),T.heap h.2.2.1 (fun f=>f),h.2.2.2.1.trans T fun _ _ f=>f,Nat.le_trans h.2.2.2.2 T.size⟩
theorem RAtA.mono {A A':Nat→Prop} {w0 wr:World} {a:Option Addr} {k c n:Nat} (h:RAtA A w0 wr a k c n) (hA: ∀g,g<wr.heap.size→A g→A' g):RAtA A' w0 wr a k c n:=⟨h.1.mono hA,h.2⟩
theorem RAtA.store {A:Nat→Prop} {w0:World} (hA: ∀g,A g→g≠w0.heap.size+1) {wr W:World} {a a':Option Addr} {k c n k' c' n':Nat} (h:RAtA A w0 wr a k c n) (T:Ux.Touch (fun _=>False) wr W) (hR:RRows W A (.slice a' k' c') (rootT n')):
 W.cell? ⟨w0.heap.size+1,0,none⟩=some (.slice a k c)∧W.frozen? ⟨w0.heap.size+1,0,none⟩=false∧Hid (RAtA A w0 (W.setCell ⟨w0.heap.size+1,0,none⟩ (.slice a' k' c')) a' k' c' n')∧Ux.Touch (fun b=>b=w0.heap.size+1) W (W.setCell ⟨w0.heap.size+1,0,none⟩ (.slice a' k' c')):=by
 have h2:=h.touch T
 have T56:Ux.Touch (fun b=>b=w0.heap.size+1) W (W.setCell ⟨w0.heap.size+1,0,none⟩ (.slice a' k' c')):=(Ux.Touch.refl (fun b=>b=w0.heap.size+1) W).setCell (p:=⟨w0.heap.size+1,0,none⟩) (fun _=>rfl) _
 refine ⟨h2.cell,Ux.frozen_row h2.2.1 0,Lib.hid ⟨hR.touchB T56 fun g _ h1 e=>hA g h1 e,by rw [Ux.setCell_row h2.2.1];rfl,T56.heap h2.2.2.1 (by omega),h2.2.2.2.1.setCell (p:=⟨w0.heap.size+1,0,none⟩) (fun h=>absurd h (by show¬w0.heap.size+1<w0.heap.size;omega)) _,Nat.le_trans h2.2.2.2.2 T56.size⟩,T56⟩
theorem root_small (n:Nat):(rootT n).length≤9000∧∀e∈rootT n,1≤e.1.length∧e.1.length≤3:=
 ⟨Nat.le_trans (Ux.rootT_len n) (by omega),fun e he=>⟨(Ux.rseq_ok e (Ux.rootT_mem n e he)).1.1,(Ux.rseq_ok e (Ux.rootT_mem n e he)).1.2.1⟩⟩
def PutA (A:Nat→Prop) (w0 W:World) (a:Option Addr) (k c n:Nat) (e:Ending) (w':World):Prop:= ∃a' k' c',e= .returned (.agg #[.slice a' k' c'])∧w'.cell? ⟨w0.heap.size+1,0,none⟩=some (.slice a k c)∧w'.frozen? ⟨w0.heap.size+1,0,none⟩=false∧
 Hid (RAtA A w0 (w'.setCell ⟨w0.heap.size+1,0,none⟩ (.slice a' k' c')) a' k' c' n)∧Hid (Ux.Touch (fun b=>b=w0.heap.size+1) W (w'.setCell ⟨w0.heap.size+1,0,none⟩ (.slice a' k' c')))∧Hid (Ux.Touch (fun _=>False) W w')
abbrev PutR (w0 W:World) (a:Option Addr) (k c n:Nat) (e:Ending) (w':World):Prop:=PutA (fun b=>w0.heap.size+2≤b) w0 W a k c n e w'
theorem RAtA.putA {A:Nat→Prop} {w0 wr W:World} {a:Option Addr} {k c n:Nat} {s l:List Nat} (h:RAtA A w0 wr a k c n) (hA: ∀g,A g→g≠w0.heap.size+1) (hA2: ∀g,wr.heap.size≤g→A g) (hs:rseq[n]? =some (s,l)) {vs vl:Value} (T:Ux.Touch (fun _=>False) wr W) (h1:SView W vs s) (h2:RRow W vl l):
 Calls Tryz.prog 133 #[.agg #[.slice a k c],vs,vl] W fun e w'=>PutA A w0 wr a k c (n+1) e w':=by
 have hok:=Ux.rseq_ok _ (List.mem_of_getElem? hs)
 refine (rrput_ _ vs vl (rootT n) s l _ W (h.1.touch0 T) h1 h2 hok.1.1 hok.1.2.1 (by have:=hok.2.1;simp at this;omega) (by have:=(root_small n).1;omega) (root_small n).2).mono ?_
 rintro e w' ⟨u,rfl,hR,hT⟩
 have hu:=hR
 obtain ⟨_,a',c',rfl,_⟩:=hu
 have hR2:=hR.mono (A':=A) fun g _ hg=>hg.elim id fun hg=>hA2 g (by have:=T.size;omega)
 have hst:=Ux.rootT_step hs
 rw [show putE (rootT n) s l=rootT (n+1) from hst.symm] at hR2⊢
 obtain ⟨g1,g2,g3,g4⟩:=h.store hA (T.trans hT fun _ _ f=>f) hR2
 exact ⟨_,_,_,rfl,g1,g2,g3,Lib.hid (((T.trans hT fun _ _ f=>f).mono fun _ _ f=>f.elim).trans g4 fun _ _ h=>h),Lib.hid (T.trans hT fun _ _ f=>f)⟩
theorem RAtA.put {w0 wr W:World} {a:Option Addr} {k c n:Nat} {s l:List Nat} (h:RAt w0 wr a k c n) (hs:rseq[n]? =some (s,l)) {vs vl:Value} (T:Ux.Touch (fun _=>False) wr W) (h1:SView W vs s) (h2:RRow W vl l):
 Calls Tryz.prog 133 #[.agg #[.slice a k c],vs,vl] W fun e w'=>PutR w0 wr a k c (n+1) e w':=h.putA (fun g h e=>by omega) (fun g hg=>by have:=h.2.2.2.2;omega) hs T h1 h2
end Go.Proofs.YtclffhpdekepkaaGreatDoor
