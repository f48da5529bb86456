/- A part of the proof that the statement holds for every input that it names. No other condition. -/
import Derived.Test.YtikmdhhbamggfaaGreatDoorUxRulAZ
import Derived.Test.YtikmdhhbamggfaaGreatDoorPrsAZ
set_option linter.unusedVariables false
set_option linter.unusedSimpArgs false
namespace Go.Proofs.YtikmdhhbamggfaaGreatDoor
open Go.RowKit
open Ux (Row iv sv)
open Ux.Sign (signs sg)
open Ux.Rules (isBl isSp blankS relS ltN)
structure RRd (w:World) (q:Nat) (s:ByteArray) (i:Nat) (r:List Nat):Prop where
 blk:w.heap[q]? =some (.cells #[.string s,.int .i64 (i:Int)] 202 (0,0))
 left:Ux.Rules.Left s.data.toList i r
 big:s.size≤1000000
theorem RRd.touch {R:Nat→Prop} {w w':World} {q:Nat} {s:ByteArray} {i:Nat} {r:List Nat} (h:RRd w q s i r) (T:Ux.Touch R w w') (hq: ¬R q):RRd w' q s i r:=⟨T.heap h.blk hq,h.left,h.big⟩
theorem RRd.set {w:World} {q:Nat} {s:ByteArray} {i:Nat} {r:List Nat} (h:RRd w q s i r) {j:Nat} {r':List Nat} (hj:Ux.Rules.Left s.data.toList j r'):RRd (w.setCell ⟨q,1,none⟩ (.int .i64 (j:Int))) q s j r'∧Ux.Touch (fun b=>b=q) w (w.setCell ⟨q,1,none⟩ (.int .i64 (j:Int))):=
 ⟨⟨Ux.setCell_row h.blk 1 _,hj,h.big⟩,(Ux.Touch.refl (fun b=>b=q) w).setCell (p:=⟨q,1,none⟩) (fun _=>rfl) _⟩
theorem RRd.cells {w:World} {q:Nat} {s:ByteArray} {i:Nat} {r:List Nat} (h:RRd w q s i r):w.cell? ⟨q,0,none⟩=some (.string s)∧w.cell? ⟨q,1,none⟩=some (.int .i64 (i:Int))∧w.frozen? ⟨q,1,none⟩=false:=by
 refine ⟨?_,?_,Ux.frozen_row h.blk 1⟩
 ·rw [cell_of_row w q 0 _ _ (0,0) h.blk];rfl
 ·rw [cell_of_row w q 1 _ _ (0,0) h.blk];rfl
theorem byteAt (s:ByteArray) (i:Nat) (h:i<s.size):s.data.toList[i]? =some (s[i]'h):=by
 have h2:i<s.data.toList.length:=h
 rw [List.getElem?_eq_getElem h2]
 rfl
theorem byteEnd (s:ByteArray) (i:Nat) (h: ¬i<s.size):s.data.toList[i]? =none:=List.getElem?_eq_none (Nat.le_of_not_lt h)
theorem RRd.le {w:World} {q:Nat} {s:ByteArray} {i:Nat} {r:List Nat} (h:RRd w q s i r):i≤s.size:=h.left.1
set_option maxHeartbeats 8000000 in
theorem rblank_ (q:Nat) (s:ByteArray) (i:Nat) (r:List Nat) (w:World) (h:RRd w q s i r):
 Calls Tryz.prog 133 #[.pointer (some ⟨q,0,none⟩)] w fun e w'=>e= .returned (.tuple #[])∧∃j,RRd w' q s j (blankS r)∧i≤j∧Ux.Touch (fun b=>b=q) w w':=by
 obtain ⟨R,hR⟩: ∃R,blankS r=R:=⟨_,rfl⟩
 rw [hR]
 have HH:=Lib.hid (And.intro h hR)
 have n0:(s.size:Int)≤1000000:=by have:=h.big;omega
 clear h hR
 go_enter Tryz.func133,Tryz.ntmps133
 go_wp2_with (fail)
 go_loopg [] (s.size-i) (fun gk wr=> ∃(j:Nat) (r':List Nat),s.size-j≤gk∧Hid (RRd wr q s j r'∧blankS r'=R∧i≤j∧Ux.Touch (fun b=>b=q) w wr))
 case atStart=>exact ⟨i,r,Nat.le_refl _,Lib.hid ⟨HH.out.1,HH.out.2,Nat.le_refl _,Ux.Touch.refl _ _⟩⟩
 case round=>
  obtain ⟨j,r',hgk,HI⟩:=hrel
  have j0:(0:Int)≤j:=by omega
  obtain ⟨c0,c1,f1⟩:=HI.out.1.cells
  by_cases hj:j<s.size
  ·have hj1:(j:Int)<s.size:=by omega
   obtain ⟨x,hx⟩: ∃x:UInt8,s[j]'hj=x:=⟨_,rfl⟩
   have hb:=byteAt s j hj
   rw [hx] at hb
   have xl:=x.toNat_lt
   cases hbl:isBl x.toNat with
   |true=>
    obtain ⟨g',rfl⟩: ∃g',gk=g'+1:=⟨gk-1,by omega⟩
    obtain ⟨hl2,he2⟩:=HI.out.1.left.blank hb hbl
    obtain ⟨r3,t3⟩:=HI.out.1.set hl2
    have pc:((j+1:Nat):Int)=(j:Int)+1:=by omega
    rw [pc] at r3 t3
    have t3d:Ux.Touch (fun b=>b=q) wr (wr.drew.setCell ⟨q,1,none⟩ (.int .i64 ((j:Int)+1))):=((Ux.Touch.refl (fun b=>b=q) wr).drew).setCell (p:=⟨q,1,none⟩) (fun _=>rfl) _
    have r3d:RRd (wr.drew.setCell ⟨q,1,none⟩ (.int .i64 ((j:Int)+1))) q s (j+1) (signs (s.data.toList.drop (j+1))):=by
     have h:=HI.out.1.touch ((Ux.Touch.refl (fun _=>False) wr).drew) (fun f=>f)
     have h2:=(h.set hl2).1
     rw [pc] at h2
     exact h2
    have H3:=Lib.hid (And.intro r3d (And.intro (he2.symm.trans HI.out.2.1) (HI.out.2.2.2.trans t3d fun _ _ h=>h)))
    have hw:x.toNat=32∨¬x.toNat=32∧x.toNat=10:=by
     unfold isBl at hbl
     simp at hbl
     omega
    clear hb hbl hl2 he2 r3 t3 r3d t3d
    rcases hw with hw|⟨hw1,hw⟩
    ·have k1:((x.toNat:Int)==32)=true:=by rw [hw];rfl
     clear hw
     go_upto_region 0 with (fail)
     refine Ux.wpr (fun _ w'=>w'.cell? ⟨q,0,none⟩=some (.string s)∧w'.cell? ⟨q,1,none⟩=some (.int .i64 (j:Int))) (.q [0,1,2,4,5,6] (.h false [3,7] (.q [8,9,10,11,12,13,15,16,17] (.h false [14,18] (.q [19,20,21,22,23,24,26,27,28] (.h false [25,29] (.q [30,31,32,33] (.line [])))))))) ?_;repeat ((with_reducible refine Ux.qg ?_);refine Ux.qu ?_)
     go_wp2
     go_roundg g'
     case measure=>omega
     case rel=>exact ⟨j+1,_,by omega,Lib.hid ⟨H3.out.1,H3.out.2.1,by have:=HI.out.2.2.1;omega,H3.out.2.2⟩⟩
    ·have k1:((x.toNat:Int)==32)=false:=beq_false_of_ne (by omega)
     have k2:((x.toNat:Int)==10)=true:=by rw [hw];rfl
     clear hw hw1
     go_upto_region 0 with (fail)
     refine Ux.wpr (fun _ w'=>w'.cell? ⟨q,0,none⟩=some (.string s)∧w'.cell? ⟨q,1,none⟩=some (.int .i64 (j:Int))) (.q [0,1,2,4,5,6] (.h false [3,7] (.q [8,9,10,11,12,13,15,16,17] (.h false [14,18] (.q [19,20,21,22,23,24,26,27,28] (.h false [25,29] (.q [30,31,32,33] (.line [])))))))) ?_;repeat ((with_reducible refine Ux.qg ?_);refine Ux.qu ?_)
     go_wp2
     go_roundg g'
     case measure=>omega
     case rel=>exact ⟨j+1,_,by omega,Lib.hid ⟨H3.out.1,H3.out.2.1,by have:=HI.out.2.2.1;omega,H3.out.2.2⟩⟩
   |false=>
    have he:blankS r'=r':=HI.out.1.left.noblank (fun y hy=>by rw [hb] at hy;cases hy;exact hbl)
    have HE:=Lib.hid (he.symm.trans HI.out.2.1)
    have hw: ¬x.toNat=32∧¬x.toNat=10:=by
     unfold isBl at hbl
     simp at hbl
     omega
    have k1:((x.toNat:Int)==32)=false:=beq_false_of_ne (by omega)
    have k2:((x.toNat:Int)==10)=false:=beq_false_of_ne (by omega)
    clear hb hbl hw he
    go_upto_region 0 with (fail)
    refine Ux.wpr (fun _ w'=>w'.cell? ⟨q,0,none⟩=some (.string s)∧w'.cell? ⟨q,1,none⟩=some (.int .i64 (j:Int))) (.q [0,1,2,4,5,6] (.h false [3,7] (.q [8,9,10,11,12,13,15,16,17] (.h false [14,18] (.q [19,20,21,22,23,24,26,27,28] (.h false [25,29] (.q [30,31,32,33] (.line [])))))))) ?_;repeat ((with_reducible refine Ux.qg ?_);refine Ux.qu ?_)
    go_wp2
    go_returns
    refine ⟨rfl,j,?_,HI.out.2.2.1,HI.out.2.2.2.drew⟩
    rw [←HE.out]
    exact HI.out.1.touch ((Ux.Touch.refl (fun _=>False) wr).drew) (fun f=>f)
  ·have hj1: ¬(j:Int)<s.size:=by omega
   have he:blankS r'=r':=HI.out.1.left.noblank (fun y hy=>by rw [byteEnd s j hj] at hy;cases hy)
   have HE:=Lib.hid (he.symm.trans HI.out.2.1)
   clear he hj
   go_upto_region 0 with (fail)
   refine Ux.wpr (fun _ w'=>w'.cell? ⟨q,0,none⟩=some (.string s)∧w'.cell? ⟨q,1,none⟩=some (.int .i64 (j:Int))) (.q [0,1,2,4,5,6] (.h false [3,7] (.q [8,9,10,11,12,13,15,16,17] (.h false [14,18] (.q [19,20,21,22,23,24,26,27,28] (.h false [25,29] (.q [30,31,32,33] (.line [])))))))) ?_;repeat ((with_reducible refine Ux.qg ?_);refine Ux.qu ?_)
   go_wp2
   go_returns
   refine ⟨rfl,j,?_,HI.out.2.2.1,HI.out.2.2.2.drew⟩
   rw [←HE.out]
   exact HI.out.1.touch ((Ux.Touch.refl (fun _=>False) wr).drew) (fun f=>f)
set_option maxHeartbeats 4000000 in
theorem rspecial_ (c:Nat) (w:World):Calls Tryz.prog 163 #[.int .i64 (c:Int)] w fun e w'=>e= .returned (.bool (isSp c))∧w'=w:=by
 have hc:c=32∨c=10∨c=38∨c=60∨c=61∨c=47∨(((c:Int)==32)=false∧((c:Int)==10)=false∧((c:Int)==38)=false∧((c:Int)==60)=false∧((c:Int)==61)=false∧((c:Int)==47)=false∧isSp c=false):=by
  unfold isSp
  simp only [beq_eq_false_iff_ne,Bool.or_eq_false_iff]
  omega
 rcases hc with rfl|rfl|rfl|rfl|rfl|rfl|⟨h1,h2,h3,h4,h5,h6,h8⟩
 all_goals first
  |(rw [h8]
    clear h8
    go_enter Tryz.func163,Tryz.ntmps163
    go_wp2
    go_returns
    exact ⟨rfl,rfl⟩)
  |(go_enter Tryz.func163,Tryz.ntmps163
    go_wp2
    go_returns
    exact ⟨rfl,rfl⟩)
end Go.Proofs.YtikmdhhbamggfaaGreatDoor
namespace Go.Proofs.YtikmdhhbamggfaaGreatDoor
open Go.RowKit
open Ux.Sign (signs sg)
open Ux.Rules (isBl isSp blankS relS ltN)
theorem ltN_no {n:Nat} {r:List Nat} (h:r.head?≠some 60):ltN n r=0:=by
 cases n with
 |zero=>rfl
 |succ n=>
  cases r with
  |nil=>rfl
  |cons a r=>
   unfold ltN
   rw [if_neg (fun e=>h (by rw [e];rfl))]
theorem ltN_end {r:List Nat} {k:Nat} (hk:k≤3) (h: ∀j,j<k→r[j]? =some 60) (he:k=3∨(r.drop k).head?≠some 60):ltN 3 r=k:=by
 by_cases h3:k<3
 ·rw [ltN_step h3 h,ltN_no (he.resolve_left (by omega))]
  omega
 ·have e:k=3:=by omega
  subst e
  have h0:=h 0 (by omega)
  have h1:=h 1 (by omega)
  have h2:=h 2 (by omega)
  match r,h0,h1,h2 with
  |x::y::z::r,h0,h1,h2=>
   simp at h0 h1 h2
   subst h0 h1 h2
   simp [ltN]
set_option maxHeartbeats 16000000 in
set_option maxRecDepth 100000 in
theorem rrel_ (q:Nat) (s:ByteArray) (i:Nat) (r:List Nat) (w:World) (h:RRd w q s i r) (hi:i<s.size):
 Calls Tryz.prog 134 #[.pointer (some ⟨q,0,none⟩)] w fun e w'=>e= .returned (.int .i64 ((relS r).1:Nat))∧∃j,RRd w' q s j (relS r).2∧Ux.Touch (fun b=>b=q) w w':=by
 have n0:(s.size:Int)≤1000000:=by have:=h.big;omega
 have i0:(0:Int)≤i:=by omega
 have i1:(i:Int)<s.size:=by omega
 obtain ⟨x,hx⟩: ∃x:UInt8,s[i]'hi=x:=⟨_,rfl⟩
 have hb:=byteAt s i hi
 rw [hx] at hb
 have xl:=x.toNat_lt
 obtain ⟨c0,c1,f1⟩:=h.cells
 have TD:Ux.Touch (fun b=>b=q) w w.drew:=(Ux.Touch.refl (fun b=>b=q) w).drew
 have hd:RRd w.drew q s i r:=h.touch ((Ux.Touch.refl (fun _=>False) w).drew) (fun f=>f)
 have hh38:=h.left.head (c:=38) (by omega)
 have hh61:=h.left.head (c:=61) (by omega)
 have hh60:=h.left.head (c:=60) (by omega)
 rw [hb] at hh38 hh61 hh60
 by_cases h38:x.toNat=38
 ·have hrel:relS r=(1,r.tail):=by
   unfold relS
   rw [if_pos (hh38.2 ⟨x,rfl,h38⟩)]
  have k1:((x.toNat:Int)==38)=true:=by rw [h38];rfl
  obtain ⟨r3,t3⟩:=hd.set (h.left.tail hb (by omega))
  have pc:((i+1:Nat):Int)=(i:Int)+1:=by omega
  rw [pc] at r3 t3
  have HR:=Lib.hid (And.intro hrel (And.intro r3 (TD.trans t3 fun _ _ h=>h)))
  clear h hd hh38 hh61 hh60 h38 hrel r3 t3 TD hb
  go_enter Tryz.func134,Tryz.ntmps134
  go_upto_region 1 with (fail)
  refine Ux.wpr (fun _ w'=>w'.cell? ⟨q,0,none⟩=some (.string s)∧w'.cell? ⟨q,1,none⟩=some (.int .i64 (i:Int))∧w'.frozen? ⟨q,1,none⟩=false) (.q [0,1,2,4,5,6] (.h false [3,7] (.q [8] (.line [])))) ?_;repeat ((with_reducible refine Ux.qg ?_);refine Ux.qu ?_)
  go_wp2
  go_returns
  rw [HR.out.1]
  exact ⟨rfl,i+1,HR.out.2.1,HR.out.2.2⟩
 ·have k1:((x.toNat:Int)==38)=false:=beq_false_of_ne (by omega)
  by_cases h61:x.toNat=61
  ·have hrel:relS r=(5,r.tail):=by
    unfold relS
    rw [if_neg (fun e=>by obtain ⟨y,e1,e2⟩:=hh38.1 e;cases e1;exact h38 e2),if_pos (hh61.2 ⟨x,rfl,h61⟩)]
   have k2:((x.toNat:Int)==61)=true:=by rw [h61];rfl
   obtain ⟨r3,t3⟩:=hd.set (h.left.tail hb (by omega))
   have pc:((i+1:Nat):Int)=(i:Int)+1:=by omega
   rw [pc] at r3 t3
   have HR:=Lib.hid (And.intro hrel (And.intro r3 (TD.trans t3 fun _ _ h=>h)))
   clear h hd hh38 hh61 hh60 h38 h61 hrel r3 t3 TD hb
   go_enter Tryz.func134,Tryz.ntmps134
   go_upto_region 1 with (fail)
   refine Ux.wpr (fun _ w'=>w'.cell? ⟨q,0,none⟩=some (.string s)∧w'.cell? ⟨q,1,none⟩=some (.int .i64 (i:Int))∧w'.frozen? ⟨q,1,none⟩=false) (.q [0,1,2,4,5,6] (.h false [3,7] (.q [8] (.line [])))) ?_;repeat ((with_reducible refine Ux.qg ?_);refine Ux.qu ?_)
   go_wp2
   go_returns
   rw [HR.out.1]
   exact ⟨rfl,i+1,HR.out.2.1,HR.out.2.2⟩
  ·have k2:((x.toNat:Int)==61)=false:=beq_false_of_ne (by omega)
   have hrel0:relS r=if ltN 3 r=0 then (0,r) else (1+ltN 3 r,r.drop (ltN 3 r)):=by
    unfold relS
    rw [if_neg (fun e=>by obtain ⟨y,e1,e2⟩:=hh38.1 e;cases e1;exact h38 e2),if_neg (fun e=>by obtain ⟨y,e1,e2⟩:=hh61.1 e;cases e1;exact h61 e2)]
   by_cases h60:x.toNat=60
   ·have k3:((x.toNat:Int)==60)=true:=by rw [h60];rfl
    have HL:=Lib.hid (And.intro h.left (And.intro hrel0 (And.intro (show∃y,s.data.toList[i]? =some y∧y.toNat=60 from ⟨x,hb,h60⟩) (And.intro hd TD))))
    clear h hd hh38 hh61 hh60 h38 h61 h60 hrel0 TD hb
    go_enter Tryz.func134,Tryz.ntmps134
    go_upto_region 1 with (fail)
    refine Ux.wpr (fun _ w'=>w'.cell? ⟨q,0,none⟩=some (.string s)∧w'.cell? ⟨q,1,none⟩=some (.int .i64 (i:Int))∧w'.frozen? ⟨q,1,none⟩=false) (.q [0,1,2,4,5,6] (.h false [3,7] (.q [8] (.line [])))) ?_;repeat ((with_reducible refine Ux.qg ?_);refine Ux.qu ?_)
    clear c0 c1 f1
    go_wp2_with (fail)
    go_loopg [3] 3 (fun gk s3 wr=> ∃k:Nat,s3= .int .i64 k∧k+gk=4∧1≤k∧k≤3∧Hid (RRd wr q s i r∧(∀j,j<k→∃y,s.data.toList[i+j]? =some y∧y.toNat=60)∧Ux.Touch (fun b=>b=q) w wr))
    case atStart=>
     refine ⟨1,rfl,rfl,by omega,by omega,Lib.hid ⟨HL.out.2.2.2.1,fun j hj=> ?_,HL.out.2.2.2.2⟩⟩
     obtain rfl:j=0:=by omega
     exact HL.out.2.2.1
    case round=>
     obtain ⟨k,rfl,hkg,hk1,hk3,HI⟩:=hrel
     have kk0:(0:Int)≤k:=by omega
     have kk3:(k:Int)≤3:=by omega
     have b0:(0:Int)≤(i:Int)+(k:Int):=by omega
     obtain ⟨c0,c1,f1⟩:=HI.out.1.cells
     by_cases hgo:k<3∧∃y,s.data.toList[i+k]? =some y∧y.toNat=60
     ·obtain ⟨hk,y,hy,hy60⟩:=hgo
      obtain ⟨g',rfl⟩: ∃g',gk=g'+1:=⟨gk-1,by omega⟩
      have hik:i+k<s.size:=(List.getElem?_eq_some_iff.1 hy).1
      have hik1:(i:Int)+(k:Int)<s.size:=by omega
      have kk:(k:Int)<3:=by omega
      have hyb:=byteAt s (i+k) hik
      rw [hy] at hyb
      have hys:s[i+k]'hik=y:=(Option.some.inj hyb).symm
      have e1:((y.toNat:Int)==60)=true:=by rw [hy60];rfl
      have HY:=Lib.hid (And.intro hy hy60)
      have yl:=y.toNat_lt
      clear hy hy60 hyb
      go_upto_region 10 with (fail)
      refine Ux.wpr (fun _ w'=>w'.cell? ⟨q,0,none⟩=some (.string s)∧w'.cell? ⟨q,1,none⟩=some (.int .i64 (i:Int))∧w'.frozen? ⟨q,1,none⟩=false) (.q [0,1,2,3,4,5,7,9,10,11] (.h false [6,12] (.q [8,13,14,15,16,17,18,19,21,22,23,25] (.h false [20,24] (.q [26,27,28,29] (.line [])))))) ?_;repeat ((with_reducible refine Ux.qg ?_);refine Ux.qu ?_)
      go_wp2
      go_roundg g'
      case measure=>omega
      case rel=>
       refine ⟨k+1,by congr 1,by omega,by omega,by omega,Lib.hid ⟨HI.out.1.touch ((Ux.Touch.refl (fun _=>False) wr).drew) (fun f=>f),fun j hj=> ?_,HI.out.2.2.drew⟩⟩
       by_cases e:j=k
       ·subst e;exact ⟨y,HY.out⟩
       ·exact HI.out.2.1 j (by omega)
     ·have hlt:=HL.out.1.lts k HI.out.2.1
      have hend:ltN 3 r=k:=by
       refine ltN_end hk3 hlt.2 ?_
       by_cases h3:k=3
       ·exact .inl h3
       ·refine .inr fun e=> ?_
        exact hgo ⟨by omega,(hlt.1.head (c:=60) (by omega)).1 e⟩
      have hres:relS r=(1+k,r.drop k):=by rw [HL.out.2.1,hend,if_neg (by omega)]
      have hd2:RRd wr.drew q s i r:=HI.out.1.touch ((Ux.Touch.refl (fun _=>False) wr).drew) (fun f=>f)
      obtain ⟨r3,t3⟩:=hd2.set hlt.1
      have pc:((i+k:Nat):Int)=(i:Int)+(k:Int):=by omega
      rw [pc] at r3 t3
      have H3:=Lib.hid (And.intro hres (And.intro r3 ((HI.out.2.2.drew).trans t3 fun _ _ h=>h)))
      have hik2:i+k≤s.size:=hlt.1.1
      have hik3:(i:Int)+(k:Int)≤s.size:=by omega
      clear hlt hend hres hd2 r3 t3
      by_cases hk:k<3
      ·have kk:(k:Int)<3:=by omega
       by_cases hik:i+k<s.size
       ·have hik1:(i:Int)+(k:Int)<s.size:=by omega
        obtain ⟨y,hys⟩: ∃y:UInt8,s[i+k]'hik=y:=⟨_,rfl⟩
        have hyb:=byteAt s (i+k) hik
        rw [hys] at hyb
        have e1:((y.toNat:Int)==60)=false:=beq_false_of_ne fun e=>hgo ⟨hk,y,hyb,by omega⟩
        have yl:=y.toNat_lt
        clear hyb hgo
        go_upto_region 10 with (fail)
        refine Ux.wpr (fun _ w'=>w'.cell? ⟨q,0,none⟩=some (.string s)∧w'.cell? ⟨q,1,none⟩=some (.int .i64 (i:Int))∧w'.frozen? ⟨q,1,none⟩=false) (.q [0,1,2,3,4,5,7,9,10,11] (.h false [6,12] (.q [8,13,14,15,16,17,18,19,21,22,23,25] (.h false [20,24] (.q [26,27,28,29] (.line [])))))) ?_;repeat ((with_reducible refine Ux.qg ?_);refine Ux.qu ?_)
        go_wp2
        go_returns
        rw [H3.out.1]
        first
         |exact ⟨by congr 2,i+k,H3.out.2.1,H3.out.2.2⟩
         |exact ⟨by congr 2,⟨i+k,H3.out.2.1⟩,H3.out.2.2⟩
       ·have hik1: ¬(i:Int)+(k:Int)<s.size:=by omega
        clear hgo hik
        go_upto_region 10 with (fail)
        refine Ux.wpr (fun _ w'=>w'.cell? ⟨q,0,none⟩=some (.string s)∧w'.cell? ⟨q,1,none⟩=some (.int .i64 (i:Int))∧w'.frozen? ⟨q,1,none⟩=false) (.q [0,1,2,3,4,5,7,9,10,11] (.h false [6,12] (.q [8,13,14,15,16,17,18,19,21,22,23,25] (.h false [20,24] (.q [26,27,28,29] (.line [])))))) ?_;repeat ((with_reducible refine Ux.qg ?_);refine Ux.qu ?_)
        go_wp2
        go_returns
        rw [H3.out.1]
        first
         |exact ⟨by congr 2,i+k,H3.out.2.1,H3.out.2.2⟩
         |exact ⟨by congr 2,⟨i+k,H3.out.2.1⟩,H3.out.2.2⟩
      ·have kk: ¬(k:Int)<3:=by omega
       clear hgo
       go_upto_region 10 with (fail)
       refine Ux.wpr (fun _ w'=>w'.cell? ⟨q,0,none⟩=some (.string s)∧w'.cell? ⟨q,1,none⟩=some (.int .i64 (i:Int))∧w'.frozen? ⟨q,1,none⟩=false) (.q [0,1,2,3,4,5,7,9,10,11] (.h false [6,12] (.q [8,13,14,15,16,17,18,19,21,22,23,25] (.h false [20,24] (.q [26,27,28,29] (.line [])))))) ?_;repeat ((with_reducible refine Ux.qg ?_);refine Ux.qu ?_)
       go_wp2
       go_returns
       rw [H3.out.1]
       first
        |exact ⟨by congr 2,i+k,H3.out.2.1,H3.out.2.2⟩
        |exact ⟨by congr 2,⟨i+k,H3.out.2.1⟩,H3.out.2.2⟩
   ·have k3:((x.toNat:Int)==60)=false:=beq_false_of_ne (by omega)
    have hrel:relS r=(0,r):=by
     rw [hrel0,if_pos (ltN_no fun e=>by obtain ⟨y,e1,e2⟩:=hh60.1 e;cases e1;exact h60 e2)]
    have HR:=Lib.hid (And.intro hrel (And.intro hd TD))
    clear h hd hh38 hh61 hh60 h38 h61 h60 hrel0 hrel TD hb
    go_enter Tryz.func134,Tryz.ntmps134
    go_upto_region 1 with (fail)
    refine Ux.wpr (fun _ w'=>w'.cell? ⟨q,0,none⟩=some (.string s)∧w'.cell? ⟨q,1,none⟩=some (.int .i64 (i:Int))∧w'.frozen? ⟨q,1,none⟩=false) (.q [0,1,2,4,5,6] (.h false [3,7] (.q [8] (.line [])))) ?_;repeat ((with_reducible refine Ux.qg ?_);refine Ux.qu ?_)
    go_wp2
    go_returns
    rw [HR.out.1]
    exact ⟨rfl,i,HR.out.2.1,HR.out.2.2⟩
end Go.Proofs.YtikmdhhbamggfaaGreatDoor
namespace Go.Proofs.YtikmdhhbamggfaaGreatDoor
open Go.RowKit
open Ux (Row iv sv Grow)
open Ux.Sign (signs sg)
open Ux.Rules (isBl isSp blankS relS ltN seqG seqS)
theorem RRd.ge {w:World} {q:Nat} {s:ByteArray} {i:Nat} {r:List Nat} (h:RRd w q s i r):q<w.heap.size:=Ux.lt_of_heap h.blk
theorem radv_ {W:World} {q:Nat} {s:ByteArray} {J J':Nat} {r r':List Nat} (h:RRd W q s J r) (hL:Ux.Rules.Left s.data.toList J' r') {lo o c5:Nat} {a5:Option Addr} {out:List Nat} (hG:Grow W lo 3 (.slice a5 o c5) (iv (sv out))) (ho:out.length=o) (ho3:o≤3) (hlo:lo≤W.heap.size) (hq:q<lo) (x:Nat) (z:Int) (hz:(J':Int)=z):
 ∃W4 W5 a' c',(∀ty,(Builtin.append_ #[38,38] ty #[.slice a5 o c5,.slice (some ⟨W.heap.size,0,none⟩) 1 1]).run Tryz.prog (W.alloc (.cells #[.int .i64 (x:Int)] 3))= .ok (.slice a' (o+1:Nat) c') W4)∧
  RRd W4 q s J r∧W4.setCell ⟨q,1,none⟩ (.int .i64 z)=W5∧RRd W5 q s J' r'∧Grow W5 lo 3 (.slice a' (o+1:Nat) c') (iv (sv (out++ [x])))∧Ux.Touch (fun b=>b=q∨lo≤b) W W5:=by
 obtain ⟨r1,W4,hrun,hG4,hT4⟩:=appI hG 1 [.int .i64 (x:Int)] rfl (by simp [Value.oneCell']) hlo (by rw [Ux.iv_length,Ux.sv_length];omega)
 have e1:iv (sv out)++ [Value.int .i64 (x:Int)]=iv (sv (out++ [x])):=by
  rw [Ux.sv_append,show∀a b,iv (a++b)=iv a++iv b from fun a b=>List.map_append]
  rfl
 rw [e1] at hG4
 obtain ⟨a',c',rfl,_⟩:=hG4.row.is
 have e2:(iv (sv (out++ [x]))).length=o+1:=by rw [Ux.iv_length,Ux.sv_length,List.length_append,ho];rfl
 rw [e2] at hG4 hrun
 have h4:=h.touch hT4 (fun hh=>by have:=hh.1;omega)
 obtain ⟨r5,t5⟩:=h4.set hL
 rw [hz] at r5 t5
 exact ⟨W4,_,a',c',hrun,h4,rfl,r5,hG4.touch t5 (fun b hb e=>by omega),(hT4.mono (fun b _ hh=> .inr hh.1):Ux.Touch (fun b=>b=q∨lo≤b) W W4).trans t5 fun b _ e=> .inl e⟩
theorem sgAt (s:ByteArray) (j:Nat) (hj:j<s.size) (W:World):Calls Tryz.prog 124 #[.string (s.extract j s.size)] W fun e w'=>e= .returned (.tuple #[.int .i64 ((sg (s.data.toList.drop j)).1:Int),.int .i64 ((sg (s.data.toList.drop j)).2:Int)])∧Ux.Touch (fun _=>False) W w':=by
 have h:=rsign_ (s.extract j s.size) W (by rw [Lib.ext_size];omega)
 unfold RS at h
 rw [Lib.ext_list] at h
 exact h
set_option maxHeartbeats 16000000 in
set_option maxRecDepth 100000 in
theorem rseq_ (q:Nat) (s:ByteArray) (i:Nat) (r:List Nat) (w:World) (h:RRd w q s i r):
 Calls Tryz.prog 135 #[.pointer (some ⟨q,0,none⟩)] w fun e w'=>SeqR w' w.heap.size (seqS r).1 e∧∃j,RRd w' q s j (seqS r).2∧i≤j∧Ux.Touch (fun b=>b=q) w w':=by
 have HB:=Lib.hid (rblank_ q s i r w h)
 have n0:(s.size:Int)≤1000000:=by have:=h.big;omega
 have HL:=Lib.hid h.ge
 have hseq: ∀RES:Option (List Nat)×List Nat,seqG (blankS r) []=RES→seqS r=match RES with
  |(some out,r')=>if out= [] then (none,r') else (some out,r')
  |(none,r')=>(none,r'):=fun RES hR=>by
  unfold seqS
  rw [hR]
  rcases RES with ⟨o,r⟩
  cases o<;>rfl
 obtain ⟨RES,hRES⟩: ∃RES,seqG (blankS r) []=RES:=⟨_,rfl⟩
 have HQ:=Lib.hid (And.intro (hseq RES hRES) hRES)
 clear h hseq hRES
 go_enter Tryz.func135,Tryz.ntmps135
 go_wp2_with (go_at_call 133;fail)
 refine HB.out.mono ?_
 rintro e w2 ⟨rfl,j0,R2,hj0,T2⟩
 have H2:=Lib.hid (And.intro R2 (And.intro hj0 T2))
 clear R2 hj0 T2
 go_wp2_with (fail)
 go_loopg [4] s.size (fun gk s4 wr=> ∃(j:Nat) (r' out:List Nat),s.size-j≤gk∧Hid (RRd wr q s j r'∧Grow wr w.heap.size 3 s4 (iv (sv out))∧out.length≤3∧seqG r' out=RES∧i≤j∧Ux.Touch (fun b=>b=q) w wr))
 case atStart=>exact ⟨j0,_,[],by omega,Lib.hid ⟨H2.out.1,Grow.nil _ _ _,by simp,HQ.out.2,H2.out.2.1,H2.out.2.2⟩⟩
 case round=>
  obtain ⟨j,r',out,hgk,HI⟩:=hrel
  have jz:(0:Int)≤j:=by omega
  obtain ⟨o,ho⟩: ∃o,out.length=o:=⟨_,rfl⟩
  obtain ⟨a5,c5,rfl,_⟩:=HI.out.2.1.row.is
  rw [Ux.iv_length,Ux.sv_length,ho]
  have hg0:=HI.out.2.1
  rw [Ux.iv_length,Ux.sv_length,ho] at hg0
  have HG:=Lib.hid hg0
  clear hg0
  have HO:=Lib.hid ho
  have o0:(o:Int)≤3:=by have:=HI.out.2.2.1;omega
  have o1:(0:Int)≤o:=by omega
  clear ho
  obtain ⟨c0,c1,f1⟩:=HI.out.1.cells
  have hfull:RES=(some out,r')→(seqS r)=if out= [] then (none,r') else (some out,r'):=fun h=>by rw [HQ.out.1,h]
  have HEX:=Lib.hid hfull
  clear hfull
  by_cases hj:j<s.size
  ·have hj1:(j:Int)<s.size:=by omega
   have hj2:(j:Int)≤s.size:=by omega
   obtain ⟨hr,hl2,hk1⟩:=HI.out.1.left.step hj
   have HSG:=Lib.hid (sgAt s j hj)
   have h92:=Ux.Rules.sg_92 (s:=s.data.toList.drop j) (fun e=>by have h:=congrArg List.length e;rw [List.length_drop] at h;have h2:s.data.toList.length=s.size:=rfl;simp at h;omega)
   obtain ⟨⟨x,k⟩,hxk⟩: ∃d,sg (s.data.toList.drop j)=d:=⟨_,rfl⟩
   rw [hxk] at hr hl2 hk1 HSG h92
   dsimp only at hr hl2 hk1 HSG h92
   obtain ⟨r2,hr2⟩: ∃r2,signs (s.data.toList.drop (j+k))=r2:=⟨_,rfl⟩
   rw [hr2] at hr hl2
   have hjk:=hl2.1
   have hjk2:s.data.toList.length=s.size:=rfl
   have x0:(0:Int)≤x:=by omega
   have k0:(0:Int)≤k:=by omega
   have kb:(k:Int)≤s.size:=by omega
   have jk:(j:Int)+(k:Int)≤s.size:=by omega
   have HX:=Lib.hid (And.intro hr (And.intro hl2 (And.intro hk1 h92)))
   clear hr hl2 h92 hxk hr2 hjk hjk2
   go_upto_region 3 with (fail)
   refine Ux.wpr (fun _ w'=>w'.cell? ⟨q,0,none⟩=some (.string s)∧w'.cell? ⟨q,1,none⟩=some (.int .i64 (j:Int))) (.q [0,1,2,4,5,6] (.h false [3,7] (.q [8,9] (.line [])))) ?_;repeat ((with_reducible refine Ux.qg ?_);refine Ux.qu ?_)
   go_upto_region 4 with (fail)
   go_cut [5,6] (fun s5 s6 wx=>s5= .int .i64 (x:Int)∧s6= .int .i64 (k:Int)∧Ux.Touch (fun _=>False) wr wx)
   case first=>
    refine Ux.wpr (fun _ w'=>w'.cell? ⟨q,0,none⟩=some (.string s)∧w'.cell? ⟨q,1,none⟩=some (.int .i64 (j:Int))) (.q [0,1,2,4,5,6] (.h false [3,7] (.q [8] (.e 9 true false (.q [10,11,12,13] (.line [14])))))) ?_;repeat ((with_reducible refine Ux.qg ?_);refine Ux.qu ?_)
    go_wp2_with (go_at_call 124;fail)
    refine (HSG.out _).mono ?_
    rintro e w4 ⟨rfl,T4⟩
    have H4:=Lib.hid ((((Ux.Touch.refl (fun _=>False) wr).drew).drew).trans T4 fun _ _ f=>f)
    have e0:=H4.out.cell HI.out.1.cells.1 (fun f=>f)
    have e1:=H4.out.cell HI.out.1.cells.2.1 (fun f=>f)
    clear T4
    go_wp2_with (fail)
    refine ⟨⟨e0,e1⟩,?_⟩
    repeat ((with_reducible refine Ux.qg ?_);refine Ux.qu ?_)
    go_wp2_with (fail)
    go_meet
    exact ⟨rfl,rfl,H4.out⟩
   obtain ⟨rfl,rfl,T4⟩:=hcut
   have R4:=HI.out.1.touch T4 (fun f=>f)
   have G4:=HG.out.touch0 T4
   have TT4:Ux.Touch (fun b=>b=q) w wc:=HI.out.2.2.2.2.2.trans T4 fun _ _ f=>f.elim
   have H4:=Lib.hid (And.intro R4 (And.intro G4 TT4))
   clear R4 G4 TT4 T4 c0 c1 f1
   obtain ⟨c0,c1,f1⟩:=H4.out.1.cells
   cases hsp:isSp x with
   |true=>
    have HSX:=rspecial_ x
    rw [hsp] at HSX
    have HSX2:=Lib.hid HSX
    have hres:=HEX.out (by rw [←HI.out.2.2.2.1,HX.out.1];exact seqG_sp hsp r2 out)
    have HR:=Lib.hid hres
    clear HSX hres hsp
    go_wp2_with (go_at_call 163;fail)
    refine (HSX2.out _).mono ?_
    rintro e w5 ⟨rfl,hw5⟩
    obtain rfl:wc=w5:=hw5.symm
    by_cases h0:o=0
    ·have HR2:=Lib.hid (show seqS r=(none,r') by rw [HR.out,if_pos (List.eq_nil_of_length_eq_zero (by rw [HO.out];exact h0))])
     subst h0
     go_wp2_with (fail)
     go_returns
     rw [HR2.out]
     exact ⟨⟨_,_,_,rfl⟩,j,H4.out.1,HI.out.2.2.2.2.1,H4.out.2.2⟩
    ·have k9:decide ((o:Int)>0)=true:=by simp;omega
     have k8:decide ((0:Int)<o)=true:=by simp;omega
     have k7:decide (0<o)=true:=by simp;omega
     have HR2:=Lib.hid (show seqS r=(some out,r') by rw [HR.out,if_neg (fun e=>h0 (by rw [←HO.out,e];rfl))])
     clear h0
     go_wp2_with (fail)
     go_returns
     rw [HR2.out]
     exact ⟨⟨_,rfl,H4.out.2.1.row⟩,j,H4.out.1,HI.out.2.2.2.2.1,H4.out.2.2⟩
   |false=>
    have HSX:=rspecial_ x
    rw [hsp] at HSX
    have HSX2:=Lib.hid HSX
    clear HSX
    by_cases h3:o=3
    ·have hres:RES=(none,r'):=by rw [←HI.out.2.2.2.1,HX.out.1];exact seqG_full hsp _ _ (by rw [HO.out];exact h3)
     have HR:=Lib.hid (show seqS r=(none,r') by rw [HQ.out.1,hres])
     subst h3
     clear hsp hres
     go_wp2_with (go_at_call 163;fail)
     refine (HSX2.out _).mono ?_
     rintro e w5 ⟨rfl,hw5⟩
     obtain rfl:wc=w5:=hw5.symm
     go_wp2_with (fail)
     go_returns
     rw [HR.out]
     exact ⟨⟨_,_,_,rfl⟩,j,H4.out.1,HI.out.2.2.2.2.1,H4.out.2.2⟩
    ·have h3':((o:Int)==3)=false:=by rw [beq_eq_false_iff_ne];omega
     have hol:out.length≠3:=by rw [HO.out];exact h3
     have hsz:w.heap.size≤wc.heap.size:=H4.out.2.2.size
     have hq:=HL.out
     by_cases hx92:x=92
     ·subst hx92
      obtain ⟨hk,_⟩:=HX.out.2.2.2 rfl
      subst hk
      by_cases hr2:r2= []
      ·have hjs:j+1=s.size:=HX.out.2.1.nil_iff.1 hr2
       have hres:RES=(none,[]):=by rw [←HI.out.2.2.2.1,HX.out.1,hr2];exact seqG_esc0 _ hol
       have HR:=Lib.hid (show seqS r=(none,[]) by rw [HQ.out.1,hres])
       have hjs1:(j:Int)+1≥s.size:=by omega
       have hjs2:(s.size:Int)≤(j:Int)+1:=by omega
       have l2:=HX.out.2.1
       rw [hr2] at l2
       have hd4:RRd wc.drew q s j r':=H4.out.1.touch ((Ux.Touch.refl (fun _=>False) wc).drew) (fun f=>f)
       obtain ⟨r5,t5⟩:=hd4.set l2
       have pc:((j+1:Nat):Int)=(j:Int)+1:=by omega
       rw [pc] at r5 t5
       have H5:=Lib.hid (And.intro r5 (H4.out.2.2.drew.trans t5 fun _ _ h=>h))
       clear hsp hres hjs l2 hd4 r5 t5 hr2
       go_wp2_with (go_at_call 163;fail)
       refine (HSX2.out _).mono ?_
       rintro e w5 ⟨rfl,hw5⟩
       obtain rfl:wc=w5:=hw5.symm
       go_upto_region 9 with (fail)
       refine Ux.wpr (fun _ w'=>w'.cell? ⟨q,0,none⟩=some (.string s)∧w'.cell? ⟨q,1,none⟩=some (.int .i64 (j:Int))∧w'.frozen? ⟨q,1,none⟩=false) (.q [0,1,2,5,6,7] (.h false [3,8] (.q [4,9,10] (.line [])))) ?_;repeat ((with_reducible refine Ux.qg ?_);refine Ux.qu ?_)
       go_wp2
       go_returns
       rw [HR.out]
       exact ⟨⟨_,_,_,rfl⟩,j+1,H5.out.1,by have:=HI.out.2.2.2.2.1;omega,H5.out.2⟩
      ·have hjl:j+1<s.size:=by
        have h1:=HX.out.2.1.1
        have h2:s.data.toList.length=s.size:=rfl
        have h3:j+1≠s.size:=fun e=>hr2 (HX.out.2.1.nil_iff.2 e)
        omega
       have hjl1:(j:Int)+1<s.size:=by omega
       have hjl3: ¬((j:Int)+1≥s.size):=by omega
       have hjl2:(j:Int)+1≤s.size:=by omega
       have j10:(0:Int)≤(j:Int)+1:=by omega
       obtain ⟨hr5,hl5,hm1⟩:=HX.out.2.1.step hjl
       have HSG2:=Lib.hid (sgAt s (j+1) hjl)
       obtain ⟨⟨d,m⟩,hdm⟩: ∃e,sg (s.data.toList.drop (j+1))=e:=⟨_,rfl⟩
       rw [hdm] at hr5 hl5 hm1 HSG2
       dsimp only at hr5 hl5 hm1 HSG2
       obtain ⟨r3,hr3⟩: ∃r3,signs (s.data.toList.drop (j+1+m))=r3:=⟨_,rfl⟩
       rw [hr3] at hr5 hl5
       have hres:seqG r3 (out++ [d])=RES:=by rw [←HI.out.2.2.2.1,HX.out.1,hr5];exact (seqG_esc d r3 out hol).symm
       have hjm:=hl5.1
       have hjm2:s.data.toList.length=s.size:=rfl
       have d0:(0:Int)≤d:=by omega
       have m0:(0:Int)≤m:=by omega
       have mb:(m:Int)≤s.size:=by omega
       have jm:(j:Int)+(1+(m:Int))≤s.size:=by omega
       have HY:=Lib.hid (And.intro hres (And.intro hl5 hm1))
       obtain ⟨g',rfl⟩: ∃g',gk=g'+1:=⟨gk-1,by omega⟩
       clear hsp hres hl5 hr5 hdm hr3 hjm hjm2 hr2 h3
       go_wp2_with (go_at_call 163;fail)
       refine (HSX2.out _).mono ?_
       rintro e w5 ⟨rfl,hw5⟩
       obtain rfl:wc=w5:=hw5.symm
       go_upto_region 9 with (fail)
       refine Ux.wpr (fun _ w'=>w'.cell? ⟨q,0,none⟩=some (.string s)∧w'.cell? ⟨q,1,none⟩=some (.int .i64 (j:Int))∧w'.frozen? ⟨q,1,none⟩=false) (.q [0,1,2,5,6,7] (.h false [3,8] (.q [4,9,10] (.line [])))) ?_;repeat ((with_reducible refine Ux.qg ?_);refine Ux.qu ?_)
       go_upto_region 12 with (fail)
       obtain ⟨W5,hW5⟩: ∃W,W=wc:=⟨_,rfl⟩
       go_cut [7,8] (fun s7 s8 wx=>s7= .int .i64 (d:Int)∧s8= .int .i64 (m:Int)∧Ux.Touch (fun _=>False) W5 wx)
       case first=>
        refine Ux.wpr (fun _ w'=>w'.cell? ⟨q,0,none⟩=some (.string s)∧w'.cell? ⟨q,1,none⟩=some (.int .i64 (j:Int))) (.q [0,1,2,4,5,6] (.h false [3,7] (.q [8,9] (.e 10 true false (.q [11,12,13,14] (.line [15])))))) ?_;repeat ((with_reducible refine Ux.qg ?_);refine Ux.qu ?_)
        go_wp2_with (go_at_call 124;fail)
        refine (HSG2.out _).mono ?_
        rintro e w6 ⟨rfl,T6⟩
        have H6:=Lib.hid ((((Ux.Touch.refl (fun _=>False) wc).drew).drew).trans T6 fun _ _ f=>f)
        have e0:=H6.out.cell H4.out.1.cells.1 (fun f=>f)
        have e1:=H6.out.cell H4.out.1.cells.2.1 (fun f=>f)
        clear T6
        go_wp2_with (fail)
        refine ⟨⟨e0,e1⟩,?_⟩
        repeat ((with_reducible refine Ux.qg ?_);refine Ux.qu ?_)
        go_wp2_with (fail)
        go_meet
        exact ⟨rfl,rfl,by rw [hW5];exact H6.out⟩
       subst hW5
       obtain ⟨rfl,rfl,T6⟩:=hcut
       have R6:=H4.out.1.touch T6 (fun f=>f)
       have G6:=H4.out.2.1.touch0 T6
       have TT6:=H4.out.2.2.trans T6 fun _ _ f=>f.elim
       obtain ⟨W7,W8,a',c',hrun,hr7,hW8,hr8,hg8,ht8⟩:=radv_ R6 HY.out.2.1 G6 HO.out (by omega) (by have:=T6.size;omega) hq d ((j:Int)+(1+(m:Int))) (by omega)
       have HRUN:=Lib.hid hrun
       have T08:Ux.Touch (fun b=>b=q) w W8:=TT6.trans ht8 (fun b hb h=>by rcases h with h|h;exact h;omega)
       have H8:=Lib.hid (And.intro hr8 (And.intro hg8 T08))
       clear hrun hr8 hg8 ht8 T08 R6 G6 TT6 T6 c0 c1 f1
       obtain ⟨c0,c1,f1⟩:=hr7.cells
       clear hr7
       go_wp2_with (at_builtin;refine Ux.wpList_app (v1:= .slice a5 o c5) (x1:= .slice (some ⟨_,0,none⟩) 1 1) rfl _ _ _ _ rfl rfl rfl (HRUN.out _) ?_)
       go_roundg g'
       case measure=>omega
       case rel=>
        refine ⟨j+1+m,r3,out++ [d],by omega,Lib.hid ⟨H8.out.1,H8.out.2.1,?_,HY.out.1,by have:=HI.out.2.2.2.2.1;omega,H8.out.2.2⟩⟩
        have h9:=HO.out
        rw [List.length_append,List.length_singleton]
        omega
     ·have hxi:((x:Int)==92)=false:=by rw [beq_eq_false_iff_ne];omega
      have hres:seqG r2 (out++ [x])=RES:=by rw [←HI.out.2.2.2.1,HX.out.1];exact (seqG_one hsp hx92 r2 out hol).symm
      have HY:=Lib.hid hres
      obtain ⟨g',rfl⟩: ∃g',gk=g'+1:=⟨gk-1,by omega⟩
      obtain ⟨W7,W8,a',c',hrun,hr7,hW8,hr8,hg8,ht8⟩:=radv_ H4.out.1 HX.out.2.1 H4.out.2.1 HO.out (by omega) hsz hq x ((j:Int)+(k:Int)) (by omega)
      have HRUN:=Lib.hid hrun
      have T08:Ux.Touch (fun b=>b=q) w W8:=H4.out.2.2.trans ht8 (fun b hb h=>by rcases h with h|h;exact h;omega)
      have H8:=Lib.hid (And.intro hr8 (And.intro hg8 T08))
      clear hrun hr8 hg8 ht8 T08 c0 c1 f1 hsp hres h3 hx92
      obtain ⟨c0,c1,f1⟩:=hr7.cells
      clear hr7
      go_wp2_with (go_at_call 163;fail)
      refine (HSX2.out _).mono ?_
      rintro e w5 ⟨rfl,hw5⟩
      obtain rfl:wc=w5:=hw5.symm
      go_wp2_with (at_builtin;refine Ux.wpList_app (v1:= .slice a5 o c5) (x1:= .slice (some ⟨_,0,none⟩) 1 1) rfl _ _ _ _ rfl rfl rfl (HRUN.out _) ?_)
      go_roundg g'
      case measure=>have:=HX.out.2.2.1;omega
      case rel=>
       refine ⟨j+k,r2,out++ [x],by have:=HX.out.2.2.1;omega,Lib.hid ⟨H8.out.1,H8.out.2.1,?_,HY.out,by have:=HI.out.2.2.2.2.1;omega,H8.out.2.2⟩⟩
       have h9:=HO.out
       rw [List.length_append,List.length_singleton]
       omega
  ·have hj1: ¬(j:Int)<s.size:=by omega
   have hnil:r'= []:=HI.out.1.left.nil_iff.2 (by have h1:=HI.out.1.left.1;have h2:s.data.toList.length=s.size:=rfl;omega)
   have hres:=HEX.out (by rw [←HI.out.2.2.2.1,hnil];exact seqG_nil out)
   have HR:=Lib.hid hres
   have hd4:RRd wr.drew q s j r':=HI.out.1.touch ((Ux.Touch.refl (fun _=>False) wr).drew) (fun f=>f)
   have H4:=Lib.hid (And.intro hd4 (And.intro (HG.out.touch0 ((Ux.Touch.refl (fun _=>False) wr).drew)) HI.out.2.2.2.2.2.drew))
   clear hres hnil hd4 hj
   by_cases h0:o=0
   ·have HR2:=Lib.hid (show seqS r=(none,r') by rw [HR.out,if_pos (List.eq_nil_of_length_eq_zero (by rw [HO.out];exact h0))])
    subst h0
    go_upto_region 3 with (fail)
    refine Ux.wpr (fun _ w'=>w'.cell? ⟨q,0,none⟩=some (.string s)∧w'.cell? ⟨q,1,none⟩=some (.int .i64 (j:Int))) (.q [0,1,2,4,5,6] (.h false [3,7] (.q [8,9] (.line [])))) ?_;repeat ((with_reducible refine Ux.qg ?_);refine Ux.qu ?_)
    go_wp2
    go_returns
    rw [HR2.out]
    exact ⟨⟨_,_,_,rfl⟩,j,H4.out.1,HI.out.2.2.2.2.1,H4.out.2.2⟩
   ·have k9:decide ((o:Int)>0)=true:=by simp;omega
    have k8:decide ((0:Int)<o)=true:=by simp;omega
    have k7:decide (0<o)=true:=by simp;omega
    have HR2:=Lib.hid (show seqS r=(some out,r') by rw [HR.out,if_neg (fun e=>h0 (by rw [←HO.out,e];rfl))])
    clear h0
    go_upto_region 3 with (fail)
    refine Ux.wpr (fun _ w'=>w'.cell? ⟨q,0,none⟩=some (.string s)∧w'.cell? ⟨q,1,none⟩=some (.int .i64 (j:Int))) (.q [0,1,2,4,5,6] (.h false [3,7] (.q [8,9] (.line [])))) ?_;repeat ((with_reducible refine Ux.qg ?_);refine Ux.qu ?_)
    go_wp2
    go_returns
    rw [HR2.out]
    exact ⟨⟨_,rfl,H4.out.2.1.row⟩,j,H4.out.1,HI.out.2.2.2.2.1,H4.out.2.2⟩
end Go.Proofs.YtikmdhhbamggfaaGreatDoor
namespace Go.Proofs.YtikmdhhbamggfaaGreatDoor
open Go.RowKit
open Ux (Row iv sv Grow KGrow Tri)
open Ux.Sign (signs sg)
open Ux.Rules (isBl isSp blankS relS ltN seqG seqS ruleS Rul parseG parseS posB)
theorem infoRR:(Tryz.prog.info? 79).map (fun i=>(i.zero,i.size,i.bytes))=some (some (.agg #[.int .i64 0,.slice none 0 0,.slice none 0 0]),3,56):=by kernel_rfl
theorem rrd_kind {w:World} {q:Nat} {s:ByteArray} {i:Nat} {r:List Nat} (h:RRd w q s i r): ∀g cs,w.heap[g]? =some (.cells cs 3 (0,0))→¬(g=q):=fun g cs hk e=>by
 rw [e,h.blk] at hk
 cases hk
theorem rulesAt_ofR {w:World} {lo lo':Nat} (hl:lo'≤lo) {a:Option Addr} {k c c':Nat} {l:List Rul} {xs:List Value} (h:KGrow w lo 79 3 (.slice a k c) k xs) (hk:l.length=k) (ht:TriQ w lo xs l):RulesAt w lo' (.slice a k c') l:=by
 obtain ⟨a',c1,e,hc⟩:=h.is
 cases e
 refine ⟨a,c',by rw [hk],fun i x hx=> ?_⟩
 obtain ⟨u,v1,v2,h1,h2,h3,rfl,h4,h5⟩:=ht.2 i x hx
 obtain ⟨g,rfl,_,k1⟩:=hc _ _ h1
 obtain ⟨g',e2,_,k2⟩:=hc _ _ h2
 obtain ⟨g'',e3,_,k3⟩:=hc _ _ h3
 cases e2;cases e3
 exact ⟨g,v1,v2,rfl,k1,k2,k3,Row.mono h4 hl,Row.mono h5 hl⟩
theorem appRR {W:World} {lo:Nat} {a:Option Addr} {k c:Nat} {xs:List Value} (h:KGrow W lo 79 3 (.slice a k c) k xs) (hlo:lo≤W.heap.size) (hk:k≤1000000) (z:Int) (a1:Option Addr) (n1 c1:Nat) (a2:Option Addr) (n2 c2:Nat):
 ∃r W' c',(∀ty,(Builtin.append_ #[77,77] ty #[.slice a k c,.slice (some ⟨W.heap.size,0,none⟩) 1 1]).run Tryz.prog (W.alloc (.cells #[.int .i64 z,.slice a1 n1 c1,.slice a2 n2 c2] 79))= .ok (.slice r (k+1:Nat) c') W')∧
  KGrow W' lo 79 3 (.slice r (k+1:Nat) c') (k+1) (xs++ [.int .i64 z,.slice a1 n1 c1,.slice a2 n2 c2])∧Ux.Touch (fun b=>lo≤b∧∃cs,W.heap[b]? =some (Obj.cells cs 79 (0,0))) W W':=by
 have hk1:KGrow (W.alloc (.cells #[.int .i64 z,.slice a1 n1 c1,.slice a2 n2 c2] 79)) lo 79 3 (.slice a k c) k xs:=h.touch0 ((Ux.Touch.refl _ W).alloc _)
 obtain ⟨r,W',h1,h2,h3⟩:=hk1.app 77 56 _ Tryz.underlying77 infoRR rfl (by omega) (.slice (some ⟨W.heap.size,0,none⟩) 1 1) 1 [.int .i64 z,.slice a1 n1 c1,.slice a2 n2 c2] (Ux.src_new Tryz.underlying77 W 3 1 _ rfl (by simp [Value.oneCell'])) (by rw [World.size_alloc];omega) (by simp only [maxLen];omega) (by omega)
 obtain ⟨ra,rc,rfl,_⟩:=h2.is
 refine ⟨ra,W',rc,h1,h2,?_⟩
 exact (((Ux.Touch.refl (fun b=>lo≤b∧∃cs,W.heap[b]? =some (Obj.cells cs 79 (0,0))) W).alloc _).trans h3 fun b _ hh=>⟨hh.1,KGrow.kind h hh.2⟩)
def Bun (W0 w:World) (q:Nat) (v:Value) (k:Nat) (xs:List Value) (out:List Rul):Prop:=KGrow w (q+1) 79 3 v k xs∧TriQ w (q+1) xs out∧Ux.Touch (fun b=>b=q) W0 w
theorem Bun.touch {W0 w w':World} {q:Nat} {v:Value} {k:Nat} {xs:List Value} {out:List Rul} (h:Bun W0 w q v k xs out) {s:ByteArray} {i:Nat} {r:List Nat} (hr:RRd w q s i r) {R:Nat→Prop} (T:Ux.Touch R w w') (hR: ∀b,R b→b=q∨w.heap.size≤b):Bun W0 w' q v k xs out:=by
 refine ⟨⟨Ux.own_touch h.1.1 T fun b hb hh=> ?_,h.1.2⟩,h.2.1.touch T fun g cs hk hh=> ?_,h.2.2.trans T fun b hb hh=> ?_⟩
 ·have h1:=h.1.2 b hb
  obtain ⟨cs,hk⟩:=KGrow.kind h.1 hb
  have h2:=Ux.lt_of_heap hk
  rcases hR b hh with e|e<;>omega
 ·have h2:=Ux.lt_of_heap hk
  rcases hR g hh with e|e
  ·exact rrd_kind hr g cs hk e
  ·omega
 ·have h2:=h.2.2.size
  rcases hR b hh with e|e
  ·exact e
  ·omega
def RParseR (w:World) (lo n:Nat) (o:List Rul×Option (List Nat)) (e:Ending):Prop:=match o with
 |(_,some r)=>e= .returned (.agg #[.slice none 0 0,.int .i64 (posB n r:Nat),.int .i64 10])
 |(out,none)=>if 40<out.length then e= .returned (.agg #[.slice none 0 0,.int .i64 0,.int .i64 65]) else∃v,e= .returned (.agg #[v,.int .i64 0,.int .i64 0])∧RulesAt w lo v out
theorem ruleS_bad {first:Bool} {r r2:List Nat} {k:Nat} (h:relS r=(k,r2)) (hb:k=0∨(first=true∧k≠1)):ruleS first r=(none,r):=by
 unfold ruleS
 rw [h,if_pos hb]
theorem ruleS_seq {first:Bool} {r r2:List Nat} {k:Nat} (h:relS r=(k,r2)) (hb: ¬(k=0∨(first=true∧k≠1))):ruleS first r=match seqS r2 with
 |(none,r4)=>(none,r4)
 |(some s,r4)=>if k=1∨(blankS r4).head?≠some 47 then (some ⟨k,s,[]⟩,r4) else match seqS (blankS r4).tail with
  |(none,r3)=>(none,r3)
  |(some x,r3)=>(some ⟨k,s,x⟩,r3):=by
 unfold ruleS
 rw [h,if_neg hb]
 dsimp only
 rcases seqS r2 with ⟨o,r4⟩
 cases o with
 |none=>rfl
 |some s=>
  dsimp only
  split
  ·rfl
  ·rcases seqS (blankS r4).tail with ⟨o2,r3⟩
   cases o2<;>rfl
theorem parseG_step {g:Nat} {r:List Nat} {out:List Rul} (h:blankS r≠[]):parseG (g+1) r out=match ruleS out.isEmpty (blankS r) with
 |(none,r')=>(out,some r')
 |(some x,r')=>parseG g r' (out++ [x]):=by
 conv=>lhs;unfold parseG
 rw [if_neg h]
 rcases ruleS out.isEmpty (blankS r) with ⟨o,r'⟩
 cases o<;>rfl
theorem parseG_end {g:Nat} {r:List Nat} {out:List Rul} (h:blankS r= []):parseG (g+1) r out=(out,none):=by
 conv=>lhs;unfold parseG
 rw [if_pos h]
set_option maxHeartbeats 32000000 in
set_option maxRecDepth 100000 in
theorem rparse_ (s:ByteArray) (w:World) (hs:s.size≤1000000):Calls Tryz.prog 85 #[.string s] w fun e w'=>RParseR w' w.heap.size s.size (parseS (signs s.data.toList)) e∧Ux.Touch (fun _=>False) w w':=by
 have hlen:(signs s.data.toList).length≤s.size:=signs_len s.data.toList
 have hleft:=Ux.Rules.Left.start s.data.toList
 obtain ⟨l,hl⟩: ∃l,signs s.data.toList=l:=⟨_,rfl⟩
 rw [hl] at hlen hleft⊢
 obtain ⟨n,hn⟩: ∃n,l.length=n:=⟨_,rfl⟩
 rw [hn] at hlen
 obtain ⟨PS,hPS⟩: ∃PS,parseS l=PS:=⟨_,rfl⟩
 rw [hPS]
 have hPS:parseG (n+1) l []=PS:=by rw [←hPS,←hn];rfl
 obtain ⟨q2,hq2⟩: ∃q2,w.heap.size=q2:=⟨_,rfl⟩
 rw [hq2]
 have hb2:(w.alloc (.cells #[.slice none 0 0,.int .i64 0,.int .i64 0] 141)).heap[q2]? =some (.cells #[.slice none 0 0,.int .i64 0,.int .i64 0] 141 (0,0)):=by rw [←hq2];exact heap_alloc_new w _
 have T1:Ux.Touch (fun _=>False) w (w.alloc (.cells #[.slice none 0 0,.int .i64 0,.int .i64 0] 141)):=(Ux.Touch.refl _ _).alloc _
 obtain ⟨q,hq⟩: ∃q,q2+1=q:=⟨_,rfl⟩
 have hs1:(w.alloc (.cells #[.slice none 0 0,.int .i64 0,.int .i64 0] 141)).heap.size=q:=by rw [World.size_alloc,hq2,hq]
 obtain ⟨W1,hW1⟩: ∃W,w.alloc (.cells #[.slice none 0 0,.int .i64 0,.int .i64 0] 141)=W:=⟨_,rfl⟩
 rw [hW1] at hb2 T1 hs1
 have hb3:(W1.alloc (.cells #[.string s,.int .i64 0] 202)).heap[q]? =some (.cells #[.string s,.int .i64 0] 202 (0,0)):=by rw [←hs1];exact heap_alloc_new W1 _
 have T2:Ux.Touch (fun _=>False) W1 (W1.alloc (.cells #[.string s,.int .i64 0] 202)):=(Ux.Touch.refl _ _).alloc _
 have hb2':=T2.heap hb2 (fun f=>f)
 have hs2:(W1.alloc (.cells #[.string s,.int .i64 0] 202)).heap.size=q+1:=by rw [World.size_alloc,hs1]
 obtain ⟨W2,hW2⟩: ∃W,W1.alloc (.cells #[.string s,.int .i64 0] 202)=W:=⟨_,rfl⟩
 rw [hW2] at hb3 T2 hb2' hs2
 have R2:RRd W2 q s 0 l:=⟨hb3,hleft,hs⟩
 have HW:=Lib.hid (And.intro hW1 (And.intro hW2 (And.intro hs1 hq2)))
 have H2:=Lib.hid (And.intro (T1.trans T2 fun _ _ f=>f) (And.intro hb2' (And.intro R2 (And.intro hs2 (And.intro hq (And.intro hPS (And.intro hn hlen)))))))
 have n0:(n:Int)≤1000000:=by omega
 have sn:(s.size:Int)≤1000000:=by omega
 clear hb2 T1 hs1 hb3 T2 hb2' hW1 hW2 hq2 hs2 R2 hleft hPS hn hlen hl hs hq
 go_enter Tryz.func85,Tryz.ntmps85
 go_wp2_with (fail)
 rw [HW.out.1,HW.out.2.1,HW.out.2.2.2,H2.out.2.2.2.2.1]
 go_loopg [4] (n+1) (fun gk s4 wr=> ∃(j:Nat) (r':List Nat) (k:Nat) (a4:Option Addr) (c4:Nat) (out:List Rul) (xs:List Value),s4= .slice a4 k c4∧out.length=k∧k+gk=n+1∧r'.length<gk∧Hid (RRd wr q s j r'∧Bun W2 wr q (.slice a4 k c4) k xs out∧parseG gk r' out=PS))
 case atStart=>exact ⟨0,l,0,none,0,[],[],rfl,rfl,by omega,by have:=H2.out.2.2.2.2.2.2.1;omega,Lib.hid ⟨H2.out.2.2.1,⟨KGrow.nil _ _ _ _,Tri.nil _,Ux.Touch.refl _ _⟩,H2.out.2.2.2.2.2.1⟩⟩
 case round=>
  obtain ⟨j,r',k,a4,c4,out,xs,rfl,hk,hkg,hrg,HI⟩:=hrel
  obtain ⟨g',rfl⟩: ∃g',gk=g'+1:=⟨gk-1,by omega⟩
  have k0:(k:Int)≤1000001:=by omega
  have k00:(0:Int)≤k:=by omega
  have HK:=Lib.hid (And.intro hk (And.intro hkg hrg))
  have HB:=Lib.hid (rblank_ q s j r' _ HI.out.1)
  clear hk hrg
  go_wp2_with (go_at_call 133;fail)
  refine HB.out.mono ?_
  rintro e w3 ⟨rfl,j1,R3,_,T3⟩
  obtain ⟨rr,hrr⟩: ∃rr,blankS r'=rr:=⟨_,rfl⟩
  rw [hrr] at R3
  have B3:=HI.out.2.1.touch HI.out.1 T3 (fun b e=> .inl e)
  have H3:=Lib.hid (And.intro R3 (And.intro B3 hrr))
  obtain ⟨c0,c1,f1⟩:=R3.cells
  have j0:(0:Int)≤j1:=by omega
  have hjl:=R3.le
  have hnil:=R3.left.nil_iff
  clear R3 B3 hrr T3
  by_cases hend:rr= []
  ·have hj:j1=s.size:=hnil.1 hend
   subst hj
   have hres:PS=(out,none):=by
    rw [←HI.out.2.2]
    exact parseG_end (by rw [H3.out.2.2];exact hend)
   subst hres
   clear hnil hend hjl
   go_upto_region 4 with (fail)
   refine Ux.wpr (fun _ w'=>w'.cell? ⟨q,0,none⟩=some (.string s)∧w'.cell? ⟨q,1,none⟩=some (.int .i64 (s.size:Int))) (.q [0,1,2,4,5,6] (.h false [3,7] (.q [8,9] (.line [])))) ?_;repeat ((with_reducible refine Ux.qg ?_);refine Ux.qu ?_)
   clear c0 c1 f1
   have B4:=H3.out.2.1.touch H3.out.1 ((Ux.Touch.refl (fun _=>False) w3).drew) (fun b f=>f.elim)
   obtain ⟨W4,hW4⟩: ∃W,w3.drew=W:=⟨_,rfl⟩
   rw [hW4] at B4⊢
   have HB4:=Lib.hid B4
   have hqb:=B4.2.2.heap H2.out.2.1 (fun e=>by have:=H2.out.2.2.2.2.1;omega)
   clear B4 hW4
   by_cases h40:40<k
   ·have k4:(k:Int)>40:=by omega
    have d0:W4.cell? ⟨q2,0,none⟩=some (.slice none 0 0):=by rw [cell_of_row _ q2 0 _ _ (0,0) hqb];rfl
    have d1:W4.cell? ⟨q2,1,none⟩=some (.int .i64 0):=by rw [cell_of_row _ q2 1 _ _ (0,0) hqb];rfl
    have d2:W4.cell? ⟨q2,2,none⟩=some (.int .i64 0):=by rw [cell_of_row _ q2 2 _ _ (0,0) hqb];rfl
    have z0:=Ux.frozen_row hqb 0
    have z1:=Ux.frozen_row hqb 1
    have z2:=Ux.frozen_row hqb 2
    have HQB:=Lib.hid hqb
    clear hqb
    go_wp2
    have hx:=set3_row HQB.out (.slice none 0 0) (.int .i64 0) (.int .i64 65)
    have T5:=set3_touch W4 q2 (.slice none 0 0) (.int .i64 0) (.int .i64 65)
    unfold set3 at hx T5
    have e0:=cell_of_row _ q2 0 _ _ (0,0) hx
    have e1:=cell_of_row _ q2 1 _ _ (0,0) hx
    have e2:=cell_of_row _ q2 2 _ _ (0,0) hx
    have TT:Ux.Touch (fun _=>False) w (((W4.setCell ⟨q2,0,none⟩ (.slice none 0 0)).setCell ⟨q2,1,none⟩ (.int .i64 0)).setCell ⟨q2,2,none⟩ (.int .i64 65)):=(H2.out.1.trans (HB4.out.2.2) fun b hb e=>by have:=H2.out.2.2.2.2.1;have:=HW.out.2.2.2;omega).trans (R:=fun _=>False) T5 fun b hb e=>by have:=HW.out.2.2.2;omega
    generalize ((W4.setCell ⟨q2,0,none⟩ (.slice none 0 0)).setCell ⟨q2,1,none⟩ (.int .i64 0)).setCell ⟨q2,2,none⟩ (.int .i64 65)=W9 at e0 e1 e2 TT⊢
    simp at e0 e1 e2
    refine bodyPost_ret (by simp [results,Tryz.results85,go_sem,e0,e1,e2];try rfl) rfl ?_
    refine ⟨?_,TT⟩
    unfold RParseR
    dsimp only
    rw [if_pos (by rw [HK.out.1];exact h40)]
    try rfl
   ·have k4: ¬((k:Int)>40):=by omega
    have d0:W4.cell? ⟨q2,0,none⟩=some (.slice none 0 0):=by rw [cell_of_row _ q2 0 _ _ (0,0) hqb];rfl
    have d1:W4.cell? ⟨q2,1,none⟩=some (.int .i64 0):=by rw [cell_of_row _ q2 1 _ _ (0,0) hqb];rfl
    have d2:W4.cell? ⟨q2,2,none⟩=some (.int .i64 0):=by rw [cell_of_row _ q2 2 _ _ (0,0) hqb];rfl
    have z0:=Ux.frozen_row hqb 0
    have z1:=Ux.frozen_row hqb 1
    have z2:=Ux.frozen_row hqb 2
    have HQB:=Lib.hid hqb
    clear hqb
    go_wp2
    have hx:=set3_row HQB.out (.slice a4 k c4) (.int .i64 0) (.int .i64 0)
    have T5:=set3_touch W4 q2 (.slice a4 k c4) (.int .i64 0) (.int .i64 0)
    unfold set3 at hx T5
    have e0:=cell_of_row _ q2 0 _ _ (0,0) hx
    have e1:=cell_of_row _ q2 1 _ _ (0,0) hx
    have e2:=cell_of_row _ q2 2 _ _ (0,0) hx
    have TT:Ux.Touch (fun _=>False) w (((W4.setCell ⟨q2,0,none⟩ (.slice a4 k c4)).setCell ⟨q2,1,none⟩ (.int .i64 0)).setCell ⟨q2,2,none⟩ (.int .i64 0)):=(H2.out.1.trans (HB4.out.2.2) fun b hb e=>by have:=H2.out.2.2.2.2.1;have:=HW.out.2.2.2;omega).trans (R:=fun _=>False) T5 fun b hb e=>by have:=HW.out.2.2.2;omega
    have BE:KGrow (((W4.setCell ⟨q2,0,none⟩ (.slice a4 k c4)).setCell ⟨q2,1,none⟩ (.int .i64 0)).setCell ⟨q2,2,none⟩ (.int .i64 0)) (q+1) 79 3 (.slice a4 k c4) k xs∧TriQ (((W4.setCell ⟨q2,0,none⟩ (.slice a4 k c4)).setCell ⟨q2,1,none⟩ (.int .i64 0)).setCell ⟨q2,2,none⟩ (.int .i64 0)) (q+1) xs out:=⟨HB4.out.1.touch T5 fun b hb e=>by have:=H2.out.2.2.2.2.1;omega,HB4.out.2.1.touch T5 fun g cs hk e=>by rw [e,HQB.out] at hk;cases hk⟩
    generalize ((W4.setCell ⟨q2,0,none⟩ (.slice a4 k c4)).setCell ⟨q2,1,none⟩ (.int .i64 0)).setCell ⟨q2,2,none⟩ (.int .i64 0)=W9 at e0 e1 e2 TT BE⊢
    simp at e0 e1 e2
    refine bodyPost_ret (by simp [results,Tryz.results85,go_sem,e0,e1,e2];try rfl) rfl ?_
    refine ⟨?_,TT⟩
    unfold RParseR
    dsimp only
    rw [if_neg (by rw [HK.out.1];exact h40)]
    exact ⟨_,rfl,rulesAt_ofR (by have:=H2.out.2.2.2.2.1;omega) BE.1 HK.out.1 BE.2⟩
  ·have hj:j1<s.size:=by
    have h2:s.data.toList.length=s.size:=rfl
    have h3:j1≠s.data.toList.length:=fun e=>hend (hnil.2 e)
    omega
   have hj1:(j1:Int)<s.size:=by omega
   have hj2:((j1:Int)==(s.size:Int))=false:=beq_false_of_ne (by omega)
   have hrun:match ruleS out.isEmpty rr with
    |(none,r9)=>PS=(out,some r9)
    |(some x,r9)=>parseG g' r9 (out++ [x])=PS:=by
    have h:=HI.out.2.2
    rw [parseG_step (by rw [H3.out.2.2];exact hend),H3.out.2.2] at h
    rcases hru:ruleS out.isEmpty rr with ⟨o,r9⟩
    rw [hru] at h
    cases o with
    |none=>exact h.symm
    |some x=>exact h
   have hless: ∀x,(ruleS out.isEmpty rr).1=some x→(ruleS out.isEmpty rr).2.length<rr.length:=fun x hx=>Ux.Rules.ruleS_less hx
   obtain ⟨FB,hFB⟩: ∃b,out.isEmpty=b:=⟨_,rfl⟩
   rw [hFB] at hrun hless
   have hk1:decide (k=0)=FB:=by rw [←hFB,←HK.out.1];cases out<;>simp
   have hk2:((k:Int)==0)=FB:=by rw [←hk1];by_cases h:k=0<;>simp [h]
   have hrrl:rr.length≤r'.length:=by rw [←H3.out.2.2];exact Ux.Rules.blankS_len r'
   have HRUN:=Lib.hid (And.intro hrun (And.intro hless hrrl))
   have HREL:=Lib.hid fun W (T:Ux.Touch (fun _=>False) w3 W)=>rrel_ q s j1 rr W (H3.out.1.touch T (fun f=>f)) hj
   obtain ⟨⟨kk,r2⟩,hrs⟩: ∃d,relS rr=d:=⟨_,rfl⟩
   rw [hrs] at HREL
   dsimp only at HREL
   have hkk:=Ux.Rules.relS_le rr
   rw [hrs] at hkk
   dsimp only at hkk
   have hkk5:(kk:Int)≤5:=by omega
   have hkk0:(0:Int)≤kk:=by omega
   have HRS:=Lib.hid (And.intro hrs hkk)
   clear hrun hless hrrl hFB hrs hkk hnil hend hjl
   go_upto_region 4 with (fail)
   refine Ux.wpr (fun _ w'=>w'.cell? ⟨q,0,none⟩=some (.string s)∧w'.cell? ⟨q,1,none⟩=some (.int .i64 (j1:Int))) (.q [0,1,2,4,5,6] (.h false [3,7] (.q [8,9] (.line [])))) ?_;repeat ((with_reducible refine Ux.qg ?_);refine Ux.qu ?_)
   go_wp2_with (go_at_call 134;fail)
   refine (HREL.out _ ((Ux.Touch.refl (fun _=>False) w3).drew)).mono ?_
   rintro e w5 ⟨rfl,j5,R5,T5⟩
   have T35:Ux.Touch (fun b=>b=q) w3 w5:=((Ux.Touch.refl (fun b=>b=q) w3).drew).trans T5 fun b _ e=>e
   have B5:=H3.out.2.1.touch H3.out.1 T35 (fun b e=> .inl e)
   have H5:=Lib.hid (And.intro R5 B5)
   clear R5 T5 T35 B5 c0 c1 f1
   by_cases hbad:kk=0∨(FB=true∧kk≠1)
   ·have hPS:PS=(out,some rr):=by
     have h:=HRUN.out.1
     rw [ruleS_bad HRS.out.1 hbad] at h
     exact h
    have hpos:posB s.size rr=j1:=H3.out.1.left.pos
    subst hPS
    have HP:=Lib.hid hpos
    have hqb:=H5.out.2.2.2.heap H2.out.2.1 (fun e=>by have:=H2.out.2.2.2.2.1;omega)
    have hbc:((kk:Int)==0)=true∨((kk:Int)==0)=false∧FB=true∧((kk:Int)==1)=false:=by
     rcases hbad with h|⟨h,h'⟩
     ·exact .inl (by rw [h];rfl)
     ·by_cases h0:kk=0
      ·exact .inl (by rw [h0];rfl)
      ·exact .inr ⟨beq_false_of_ne (by omega),h,beq_false_of_ne (by omega)⟩
    clear hbad hpos
    rcases hbc with hb0|⟨hb0,rfl,hb1⟩
    ·have d0:w5.cell? ⟨q2,0,none⟩=some (.slice none 0 0):=by rw [cell_of_row _ q2 0 _ _ (0,0) hqb];rfl
     have d1:w5.cell? ⟨q2,1,none⟩=some (.int .i64 0):=by rw [cell_of_row _ q2 1 _ _ (0,0) hqb];rfl
     have d2:w5.cell? ⟨q2,2,none⟩=some (.int .i64 0):=by rw [cell_of_row _ q2 2 _ _ (0,0) hqb];rfl
     have z0:=Ux.frozen_row hqb 0
     have z1:=Ux.frozen_row hqb 1
     have z2:=Ux.frozen_row hqb 2
     have HQB:=Lib.hid hqb
     clear hqb
     go_wp2
     have hx:=set3_row HQB.out (.slice none 0 0) (.int .i64 (j1:Int)) (.int .i64 10)
     have T5:=set3_touch w5 q2 (.slice none 0 0) (.int .i64 (j1:Int)) (.int .i64 10)
     unfold set3 at hx T5
     have e0:=cell_of_row _ q2 0 _ _ (0,0) hx
     have e1:=cell_of_row _ q2 1 _ _ (0,0) hx
     have e2:=cell_of_row _ q2 2 _ _ (0,0) hx
     have TT:Ux.Touch (fun _=>False) w (((w5.setCell ⟨q2,0,none⟩ (.slice none 0 0)).setCell ⟨q2,1,none⟩ (.int .i64 (j1:Int))).setCell ⟨q2,2,none⟩ (.int .i64 10)):=(H2.out.1.trans (H5.out.2.2.2) fun b hb e=>by have:=H2.out.2.2.2.2.1;have:=HW.out.2.2.2;omega).trans (R:=fun _=>False) T5 fun b hb e=>by have:=HW.out.2.2.2;omega
     generalize ((w5.setCell ⟨q2,0,none⟩ (.slice none 0 0)).setCell ⟨q2,1,none⟩ (.int .i64 (j1:Int))).setCell ⟨q2,2,none⟩ (.int .i64 10)=W9 at e0 e1 e2 TT⊢
     simp at e0 e1 e2
     refine bodyPost_ret (by simp [results,Tryz.results85,go_sem,e0,e1,e2];try rfl) rfl ?_
     refine ⟨?_,TT⟩
     unfold RParseR
     dsimp only
     rw [HP.out]
     try rfl
    ·have d0:w5.cell? ⟨q2,0,none⟩=some (.slice none 0 0):=by rw [cell_of_row _ q2 0 _ _ (0,0) hqb];rfl
     have d1:w5.cell? ⟨q2,1,none⟩=some (.int .i64 0):=by rw [cell_of_row _ q2 1 _ _ (0,0) hqb];rfl
     have d2:w5.cell? ⟨q2,2,none⟩=some (.int .i64 0):=by rw [cell_of_row _ q2 2 _ _ (0,0) hqb];rfl
     have z0:=Ux.frozen_row hqb 0
     have z1:=Ux.frozen_row hqb 1
     have z2:=Ux.frozen_row hqb 2
     have HQB:=Lib.hid hqb
     clear hqb
     go_wp2
     have hx:=set3_row HQB.out (.slice none 0 0) (.int .i64 (j1:Int)) (.int .i64 10)
     have T5:=set3_touch w5 q2 (.slice none 0 0) (.int .i64 (j1:Int)) (.int .i64 10)
     unfold set3 at hx T5
     have e0:=cell_of_row _ q2 0 _ _ (0,0) hx
     have e1:=cell_of_row _ q2 1 _ _ (0,0) hx
     have e2:=cell_of_row _ q2 2 _ _ (0,0) hx
     have TT:Ux.Touch (fun _=>False) w (((w5.setCell ⟨q2,0,none⟩ (.slice none 0 0)).setCell ⟨q2,1,none⟩ (.int .i64 (j1:Int))).setCell ⟨q2,2,none⟩ (.int .i64 10)):=(H2.out.1.trans (H5.out.2.2.2) fun b hb e=>by have:=H2.out.2.2.2.2.1;have:=HW.out.2.2.2;omega).trans (R:=fun _=>False) T5 fun b hb e=>by have:=HW.out.2.2.2;omega
     generalize ((w5.setCell ⟨q2,0,none⟩ (.slice none 0 0)).setCell ⟨q2,1,none⟩ (.int .i64 (j1:Int))).setCell ⟨q2,2,none⟩ (.int .i64 10)=W9 at e0 e1 e2 TT⊢
     simp at e0 e1 e2
     refine bodyPost_ret (by simp [results,Tryz.results85,go_sem,e0,e1,e2];try rfl) rfl ?_
     refine ⟨?_,TT⟩
     unfold RParseR
     dsimp only
     rw [HP.out]
     try rfl
   ·have hseq:=ruleS_seq HRS.out.1 hbad
    have hkn:((kk:Int)==0)=false:=beq_false_of_ne (by omega)
    have hfk:FB=false∨FB=true∧kk=1:=by
     cases FB with
     |false=>exact .inl rfl
     |true=>exact .inr ⟨rfl,Classical.byContradiction fun h=>hbad (.inr ⟨rfl,h⟩)⟩
    have HSQ:=Lib.hid hseq
    obtain ⟨B,hB⟩: ∃B,w5.heap.size=B:=⟨_,rfl⟩
    obtain ⟨W6,hW6⟩: ∃W,w5.alloc (.cells #[.int .i64 (kk:Int),.slice none 0 0,.slice none 0 0] 79)=W:=⟨_,rfl⟩
    have T6:Ux.Touch (fun _=>False) w5 W6:=by rw [←hW6];exact (Ux.Touch.refl _ _).alloc _
    have b6:W6.heap[B]? =some (.cells #[.int .i64 (kk:Int),.slice none 0 0,.slice none 0 0] 79 (0,0)):=by rw [←hW6,←hB];exact heap_alloc_new w5 _
    have HSE:=Lib.hid (rseq_ q s j5 r2 W6 (H5.out.1.touch T6 (fun f=>f)))
    have hqB:q<B:=by rw [←hB];exact H5.out.1.ge
    have H6:=Lib.hid (And.intro T6 (And.intro b6 (And.intro hqB (show B<W6.heap.size from Ux.lt_of_heap b6))))
    have HW6:=Lib.hid (And.intro hW6 hB)
    clear hbad hseq T6 b6 hW6
    go_upto_region 7 with (fail)
    go_cut [41] (fun s41 wx=>s41= .bool false∧w5=wx)
    case first=>
     rcases hfk with rfl|⟨rfl,rfl⟩
     ·go_wp2_with (fail)
      go_meet
      exact ⟨rfl,rfl⟩
     ·go_wp2_with (fail)
      go_meet
      exact ⟨rfl,rfl⟩
    obtain ⟨rfl,rfl⟩:=hcut
    go_upto_region 10 with (fail)
    rw [HW6.out.1]
    go_wp2_with (go_at_call 135;fail)
    refine HSE.out.mono ?_
    rintro e w7 ⟨hS7,j7,R7,_,T7⟩
    obtain ⟨⟨o,r4⟩,hsq⟩: ∃d,seqS r2=d:=⟨_,rfl⟩
    rw [hsq] at hS7 R7
    have hseq:=HSQ.out
    rw [hsq] at hseq
    have HSQ2:=Lib.hid hseq
    dsimp only at R7
    have T57:Ux.Touch (fun b=>b=q) w5 w7:=(H6.out.1.mono (fun _ _ f=>f.elim):Ux.Touch (fun b=>b=q) w5 W6).trans T7 fun b _ e=>e
    have b7:=T7.heap H6.out.2.1 (fun e=>by have:=H6.out.2.2.1;omega)
    have H7:=Lib.hid (And.intro R7 (And.intro T57 b7))
    obtain ⟨c0,c1,f1⟩:=R7.cells
    have j7n:(j7:Int)≤s.size:=by have:=R7.le;omega
    have j70:(0:Int)≤j7:=by omega
    clear hseq hsq R7 T7 T57
    cases o with
    |none=>
     obtain ⟨az,nz,cz,rfl⟩:=hS7
     have hPS:PS=(out,some r4):=by
      have h:=HRUN.out.1
      rw [HSQ2.out] at h
      exact h
     have hpos:posB s.size r4=j7:=H7.out.1.left.pos
     subst hPS
     have HP:=Lib.hid hpos
     have B7:=H5.out.2.touch H5.out.1 H7.out.2.1 (fun b e=> .inl e)
     have HB7:=Lib.hid B7
     have hqb:=B7.2.2.heap H2.out.2.1 (fun e=>by have:=H2.out.2.2.2.2.1;omega)
     clear hpos B7 b7 HSE HREL HSQ HSQ2
     have d0:w7.cell? ⟨q2,0,none⟩=some (.slice none 0 0):=by rw [cell_of_row _ q2 0 _ _ (0,0) hqb];rfl
     have d1:w7.cell? ⟨q2,1,none⟩=some (.int .i64 0):=by rw [cell_of_row _ q2 1 _ _ (0,0) hqb];rfl
     have d2:w7.cell? ⟨q2,2,none⟩=some (.int .i64 0):=by rw [cell_of_row _ q2 2 _ _ (0,0) hqb];rfl
     have z0:=Ux.frozen_row hqb 0
     have z1:=Ux.frozen_row hqb 1
     have z2:=Ux.frozen_row hqb 2
     have HQB:=Lib.hid hqb
     clear hqb
     go_wp2
     have hx:=set3_row HQB.out (.slice none 0 0) (.int .i64 (j7:Int)) (.int .i64 10)
     have T5:=set3_touch w7 q2 (.slice none 0 0) (.int .i64 (j7:Int)) (.int .i64 10)
     unfold set3 at hx T5
     have e0:=cell_of_row _ q2 0 _ _ (0,0) hx
     have e1:=cell_of_row _ q2 1 _ _ (0,0) hx
     have e2:=cell_of_row _ q2 2 _ _ (0,0) hx
     have TT:Ux.Touch (fun _=>False) w (((w7.setCell ⟨q2,0,none⟩ (.slice none 0 0)).setCell ⟨q2,1,none⟩ (.int .i64 (j7:Int))).setCell ⟨q2,2,none⟩ (.int .i64 10)):=(H2.out.1.trans (HB7.out.2.2) fun b hb e=>by have:=H2.out.2.2.2.2.1;have:=HW.out.2.2.2;omega).trans (R:=fun _=>False) T5 fun b hb e=>by have:=HW.out.2.2.2;omega
     generalize ((w7.setCell ⟨q2,0,none⟩ (.slice none 0 0)).setCell ⟨q2,1,none⟩ (.int .i64 (j7:Int))).setCell ⟨q2,2,none⟩ (.int .i64 10)=W9 at e0 e1 e2 TT⊢
     simp at e0 e1 e2
     refine bodyPost_ret (by simp [results,Tryz.results85,go_sem,e0,e1,e2];try rfl) rfl ?_
     refine ⟨?_,TT⟩
     unfold RParseR
     dsimp only
     rw [HP.out]
     try rfl
    |some sq=>
     obtain ⟨v1,rfl,hv1⟩:=hS7
     obtain ⟨a1,e1,rfl,_⟩:=hv1.is
     obtain ⟨m1,hm1⟩: ∃m,(iv (sv sq)).length=m:=⟨_,rfl⟩
     rw [hm1] at hv1⊢
     clear hm1
     have fB:=Ux.frozen_row b7 1
     have xB:w7.cell? ⟨B,1,none⟩=some (.slice none 0 0):=by rw [cell_of_row w7 B 1 _ _ (0,0) b7];rfl
     have b8:=Ux.setCell_row b7 1 (.slice a1 m1 e1)
     have T8:Ux.Touch (fun b=>b=B) w7 (w7.setCell ⟨B,1,none⟩ (.slice a1 m1 e1)):=(Ux.Touch.refl (fun b=>b=B) w7).setCell (p:=⟨B,1,none⟩) (fun _=>rfl) _
     obtain ⟨W8,hW8⟩: ∃W,w7.setCell ⟨B,1,none⟩ (.slice a1 m1 e1)=W:=⟨_,rfl⟩
     rw [hW8] at b8 T8
     have hv8:QV W8 (q+1) (.slice a1 m1 e1) sq:=by
      have h1:Row W8 W6.heap.size 3 (.slice a1 m1 e1) (iv (sv sq)):=hv1.touch T8 fun b hb _ e=>by have:=H6.out.2.2.2;omega
      exact h1.mono (by have:=H6.out.2.2;omega)
     have R8:=H7.out.1.touch T8 (fun e=>by have:=H6.out.2.2.1;omega)
     have HBL:=Lib.hid (rblank_ q s j7 r4 W8 R8)
     have H8:=Lib.hid (And.intro b8 (And.intro T8 hv8))
     have HW8:=Lib.hid hW8
     clear b7 b8 T8 hv8 R8 hv1 hW8 HSE HREL HSQ
     go_upto_region 14 with (fail)
     rw [HW8.out]
     clear fB xB c0 c1 f1
     go_wp2_with (go_at_call 133;fail)
     refine HBL.out.mono ?_
     rintro e w9 ⟨rfl,j9,R9,_,T9⟩
     have b9:=T9.heap H8.out.1 (fun e=>by have:=H6.out.2.2.1;omega)
     have hv9:QV w9 (q+1) (.slice a1 m1 e1) sq:=Row.touch H8.out.2.2 T9 fun b hb _ e=>by omega
     have T59:Ux.Touch (fun b=>b=q∨b=B) w5 w9:=((H7.out.2.1.mono (fun b _ e=> .inl e):Ux.Touch (fun b=>b=q∨b=B) w5 w7).trans H8.out.2.1 fun b _ e=> .inr e).trans T9 fun b _ e=> .inl e
     have H9:=Lib.hid (And.intro R9 (And.intro b9 (And.intro hv9 T59)))
     obtain ⟨c0,c1,f1⟩:=R9.cells
     have hhd:=R9.left.head (c:=47) (by omega)
     have j9n:(j9:Int)≤s.size:=by have:=R9.le;omega
     have j90:(0:Int)≤j9:=by omega
     obtain ⟨SL,hSL⟩: ∃b,decide (kk≠1∧(blankS r4).head? =some 47)=b:=⟨_,rfl⟩
     have HSL:=Lib.hid hSL
     have HHD:=Lib.hid hhd
     clear R9 b9 hv9 T59 T9 hhd hSL
     go_upto_region 15 with (fail)
     go_cut [87] (fun s87 wx=>s87= .bool SL∧Ux.Touch (fun _=>False) w9 wx)
     case first=>
      have hsl:=HSL.out
      by_cases hkk1:kk=1
      ·have e0:SL=false:=by rw [←hsl];simp [hkk1]
       subst hkk1
       subst e0
       clear hsl
       refine Ux.wpr (fun _ w'=>w'.cell? ⟨q,0,none⟩=some (.string s)∧w'.cell? ⟨q,1,none⟩=some (.int .i64 (j9:Int))) (.q [0,1,2,3,4,5,7,8,9] (.h false [6,10] (.q [11,12,13,14,15,16,17,19,20,21] (.h false [18,22] (.q [23,24,25] (.line [])))))) ?_;repeat ((with_reducible refine Ux.qg ?_);refine Ux.qu ?_)
       go_wp2_with (fail)
       go_meet
       exact ⟨rfl,(Ux.Touch.refl _ _).drew⟩
      ·have k1:((kk:Int)==1)=false:=beq_false_of_ne (by omega)
       have k2:((kk:Int) !=1)=true:=by show (!((kk:Int)==1))=true;rw [k1];rfl
       by_cases hj9:j9<s.size
       ·have hj91:(j9:Int)<s.size:=by omega
        obtain ⟨y,hy⟩: ∃y:UInt8,s[j9]'hj9=y:=⟨_,rfl⟩
        have hyb:=byteAt s j9 hj9
        rw [hy] at hyb
        have yl:=y.toNat_lt
        by_cases hy47:y.toNat=47
        ·have e0:SL=true:=by rw [←hsl];exact decide_eq_true ⟨hkk1,HHD.out.2 ⟨y,hyb,hy47⟩⟩
         have k3:((y.toNat:Int)==47)=true:=by rw [hy47];rfl
         subst e0
         clear hsl hyb hy47 hkk1
         refine Ux.wpr (fun _ w'=>w'.cell? ⟨q,0,none⟩=some (.string s)∧w'.cell? ⟨q,1,none⟩=some (.int .i64 (j9:Int))) (.q [0,1,2,3,4,5,7,8,9] (.h false [6,10] (.q [11,12,13,14,15,16,17,19,20,21] (.h false [18,22] (.q [23,24,25] (.line [])))))) ?_;repeat ((with_reducible refine Ux.qg ?_);refine Ux.qu ?_)
         go_wp2_with (fail)
         go_meet
         exact ⟨rfl,(Ux.Touch.refl _ _).drew⟩
        ·have e0:SL=false:=by
          rw [←hsl]
          refine decide_eq_false fun h=> ?_
          obtain ⟨z,hz1,hz2⟩:=HHD.out.1 h.2
          rw [hyb] at hz1
          cases hz1
          exact hy47 hz2
         have k3:((y.toNat:Int)==47)=false:=beq_false_of_ne (by omega)
         subst e0
         clear hsl hyb hy47 hkk1
         refine Ux.wpr (fun _ w'=>w'.cell? ⟨q,0,none⟩=some (.string s)∧w'.cell? ⟨q,1,none⟩=some (.int .i64 (j9:Int))) (.q [0,1,2,3,4,5,7,8,9] (.h false [6,10] (.q [11,12,13,14,15,16,17,19,20,21] (.h false [18,22] (.q [23,24,25] (.line [])))))) ?_;repeat ((with_reducible refine Ux.qg ?_);refine Ux.qu ?_)
         go_wp2_with (fail)
         go_meet
         exact ⟨rfl,(Ux.Touch.refl _ _).drew⟩
       ·have hj91: ¬(j9:Int)<s.size:=by omega
        have e0:SL=false:=by
         rw [←hsl]
         refine decide_eq_false fun h=> ?_
         obtain ⟨z,hz1,hz2⟩:=HHD.out.1 h.2
         rw [byteEnd s j9 hj9] at hz1
         cases hz1
        subst e0
        clear hsl hj9 hkk1
        refine Ux.wpr (fun _ w'=>w'.cell? ⟨q,0,none⟩=some (.string s)∧w'.cell? ⟨q,1,none⟩=some (.int .i64 (j9:Int))) (.q [0,1,2,3,4,5,7,8,9] (.h false [6,10] (.q [11,12,13,14,15,16,17,19,20,21] (.h false [18,22] (.q [23,24,25] (.line [])))))) ?_;repeat ((with_reducible refine Ux.qg ?_);refine Ux.qu ?_)
        go_wp2_with (fail)
        go_meet
        exact ⟨rfl,(Ux.Touch.refl _ _).drew⟩
     obtain ⟨rfl,T10⟩:=hcut
     obtain ⟨w10,rfl⟩: ∃W,W=wc:=⟨_,rfl⟩
     have R10:=H9.out.1.touch T10 (fun f=>f)
     have b10:=T10.heap H9.out.2.1 (fun f=>f)
     have hv10:QV w10 (q+1) (.slice a1 m1 e1) sq:=Row.touch0 H9.out.2.2.1 T10
     have T510:=H9.out.2.2.2.trans T10 fun _ _ f=>f.elim
     have H10:=Lib.hid (And.intro R10 (And.intro b10 (And.intro hv10 T510)))
     clear R10 b10 hv10 T510 T10 c0 c1 f1
     obtain ⟨c0,c1,f1⟩:=H10.out.1.cells
     go_upto_if 87 with (fail)
     go_cut [4] (fun s4 wx=>s4= .slice a4 k c4∧Hid (∃(j11:Nat) (r11 r5:List Nat) (ex:List Nat) (a2:Option Addr) (m2 e2:Nat),RRd wx q s j11 r11∧wx.heap[B]? =some (.cells #[.int .i64 (kk:Int),.slice a1 m1 e1,.slice a2 m2 e2] 79 (0,0))∧QV wx (q+1) (.slice a1 m1 e1) sq∧QV wx (q+1) (.slice a2 m2 e2) ex∧Ux.Touch (fun b=>b=q∨b=B) w5 wx∧ruleS FB rr=(some ⟨kk,sq,ex⟩,r5)∧r11.length≤r5.length∧∀g out',parseG g r11 out'=parseG g r5 out'))
     case first=>
      have hseq:=HSQ2.out
      cases SL with
      |false=>
       have hnh:kk=1∨(blankS r4).head?≠some 47:=by
        have h:=of_decide_eq_false HSL.out
        by_cases h1:kk=1
        ·exact .inl h1
        ·exact .inr fun h2=>h ⟨h1,h2⟩
       try dsimp only at hseq
       rw [if_pos hnh] at hseq
       have HF:=Lib.hid hseq
       clear hseq hnh
       go_wp2_with (fail)
       go_meet
       exact ⟨rfl,Lib.hid ⟨j9,blankS r4,r4,[],none,0,0,H10.out.1,H10.out.2.1,H10.out.2.2.1,Row.nil _ _ _,H10.out.2.2.2,HF.out,Ux.Rules.blankS_len r4,fun g out'=>Ux.Rules.parseG_blank g r4 out'⟩⟩
      |true=>
       obtain ⟨hk1n,hh47⟩:=of_decide_eq_true HSL.out
       try dsimp only at hseq
       rw [if_neg (fun h=>by rcases h with h|h;exact hk1n h;exact h hh47)] at hseq
       obtain ⟨y,hyb,hy47⟩:=HHD.out.1 hh47
       have hl11:=H10.out.1.left.tail hyb (by omega)
       have hj9l:j9<s.size:=(List.getElem?_eq_some_iff.1 hyb).1
       obtain ⟨r11,t11⟩:=H10.out.1.set hl11
       have pc:((j9+1:Nat):Int)=(j9:Int)+1:=by omega
       rw [pc] at r11 t11
       obtain ⟨W11,hW11⟩: ∃W,w10.setCell ⟨q,1,none⟩ (.int .i64 ((j9:Int)+1))=W:=⟨_,rfl⟩
       rw [hW11] at r11 t11
       have b11:=t11.heap H10.out.2.1 (fun e=>by have:=H6.out.2.2.1;omega)
       have hv11:QV W11 (q+1) (.slice a1 m1 e1) sq:=Row.touch H10.out.2.2.1 t11 fun b hb _ e=>by omega
       have H11:=Lib.hid (And.intro b11 (And.intro hv11 (H10.out.2.2.2.trans t11 fun b _ e=> .inl e)))
       have HSE2:=Lib.hid (rseq_ q s (j9+1) (blankS r4).tail W11 r11)
       obtain ⟨⟨o2,r3⟩,hsq2⟩: ∃d,seqS (blankS r4).tail=d:=⟨_,rfl⟩
       rw [hsq2] at hseq HSE2
       have HF:=Lib.hid hseq
       have HW11:=Lib.hid hW11
       clear hseq hl11 r11 t11 b11 hv11 hW11 hyb hy47 hh47 hk1n hsq2
       go_upto_region 17 with (fail)
       rw [HW11.out]
       clear c0 c1 f1
       go_wp2_with (go_at_call 135;fail)
       refine HSE2.out.mono ?_
       rintro e w12 ⟨hS12,j12,R12,_,T12⟩
       have b12:=T12.heap H11.out.1 (fun e=>by have:=H6.out.2.2.1;omega)
       have hv12:QV w12 (q+1) (.slice a1 m1 e1) sq:=Row.touch H11.out.2.1 T12 fun b hb _ e=>by omega
       have T512:=H11.out.2.2.trans T12 fun b _ e=> .inl e
       have H12:=Lib.hid (And.intro R12 (And.intro b12 (And.intro hv12 T512)))
       obtain ⟨c0,c1,f1⟩:=R12.cells
       have j12n:(j12:Int)≤s.size:=by have:=R12.le;omega
       have j120:(0:Int)≤j12:=by omega
       clear R12 hv12 T512
       cases o2 with
       |none=>
        obtain ⟨az,nz,cz,rfl⟩:=hS12
        have hPS:PS=(out,some r3):=by
         have h:=HRUN.out.1
         rw [HF.out] at h
         exact h
        have hpos:posB s.size r3=j12:=H12.out.1.left.pos
        subst hPS
        have HP:=Lib.hid hpos
        have B12:=H5.out.2.touch H5.out.1 H12.out.2.2.2 (fun b e=>by rcases e with e|e;exact .inl e;exact .inr (by have:=HW6.out.2;omega))
        have HB12:=Lib.hid B12
        have hqb:=B12.2.2.heap H2.out.2.1 (fun e=>by have:=H2.out.2.2.2.2.1;omega)
        clear hpos B12 b12
        have d0:w12.cell? ⟨q2,0,none⟩=some (.slice none 0 0):=by rw [cell_of_row _ q2 0 _ _ (0,0) hqb];rfl
        have d1:w12.cell? ⟨q2,1,none⟩=some (.int .i64 0):=by rw [cell_of_row _ q2 1 _ _ (0,0) hqb];rfl
        have d2:w12.cell? ⟨q2,2,none⟩=some (.int .i64 0):=by rw [cell_of_row _ q2 2 _ _ (0,0) hqb];rfl
        have z0:=Ux.frozen_row hqb 0
        have z1:=Ux.frozen_row hqb 1
        have z2:=Ux.frozen_row hqb 2
        have HQB:=Lib.hid hqb
        clear hqb
        go_wp2
        have hx:=set3_row HQB.out (.slice none 0 0) (.int .i64 (j12:Int)) (.int .i64 10)
        have T5:=set3_touch w12 q2 (.slice none 0 0) (.int .i64 (j12:Int)) (.int .i64 10)
        unfold set3 at hx T5
        have e0:=cell_of_row _ q2 0 _ _ (0,0) hx
        have e1:=cell_of_row _ q2 1 _ _ (0,0) hx
        have e2:=cell_of_row _ q2 2 _ _ (0,0) hx
        have TT:Ux.Touch (fun _=>False) w (((w12.setCell ⟨q2,0,none⟩ (.slice none 0 0)).setCell ⟨q2,1,none⟩ (.int .i64 (j12:Int))).setCell ⟨q2,2,none⟩ (.int .i64 10)):=(H2.out.1.trans (HB12.out.2.2) fun b hb e=>by have:=H2.out.2.2.2.2.1;have:=HW.out.2.2.2;omega).trans (R:=fun _=>False) T5 fun b hb e=>by have:=HW.out.2.2.2;omega
        generalize ((w12.setCell ⟨q2,0,none⟩ (.slice none 0 0)).setCell ⟨q2,1,none⟩ (.int .i64 (j12:Int))).setCell ⟨q2,2,none⟩ (.int .i64 10)=W9 at e0 e1 e2 TT⊢
        simp at e0 e1 e2
        refine bodyPost_ret (by simp [results,Tryz.results85,go_sem,e0,e1,e2];try rfl) rfl ?_
        refine ⟨?_,TT⟩
        unfold RParseR
        dsimp only
        rw [HP.out]
        try rfl
       |some ex=>
        obtain ⟨v2,rfl,hv2⟩:=hS12
        obtain ⟨a2,e2,rfl,_⟩:=hv2.is
        obtain ⟨m2,hm2⟩: ∃m,(iv (sv ex)).length=m:=⟨_,rfl⟩
        rw [hm2] at hv2⊢
        clear hm2
        have fB:=Ux.frozen_row b12 2
        have xB:w12.cell? ⟨B,2,none⟩=some (.slice none 0 0):=by rw [cell_of_row w12 B 2 _ _ (0,0) b12];rfl
        have b13:=Ux.setCell_row b12 2 (.slice a2 m2 e2)
        have T13:Ux.Touch (fun b=>b=B) w12 (w12.setCell ⟨B,2,none⟩ (.slice a2 m2 e2)):=(Ux.Touch.refl (fun b=>b=B) w12).setCell (p:=⟨B,2,none⟩) (fun _=>rfl) _
        have hBk: ∀v xs,Row w12 (q+1) 3 v xs→∀b,v.ownBlock=some b→¬b=B:=fun v xs hr b hb e=>by
         obtain ⟨cs,hk⟩:=hr.kind hb
         rw [e,b12] at hk
         cases hk
        have hv2':Row w12 (q+1) 3 (.slice a2 m2 e2) (iv (sv ex)):=hv2.mono (by have:=T12.size;have h1:=Ux.lt_of_heap H11.out.1;have h2:=H6.out.2.2.1;omega)
        have hv13:QV (w12.setCell ⟨B,2,none⟩ (.slice a2 m2 e2)) (q+1) (.slice a1 m1 e1) sq:=Row.touch H12.out.2.2.1 T13 fun b _ hb=>hBk _ _ H12.out.2.2.1 b hb
        have hv23:QV (w12.setCell ⟨B,2,none⟩ (.slice a2 m2 e2)) (q+1) (.slice a2 m2 e2) ex:=Row.touch hv2' T13 fun b _ hb=>hBk _ _ hv2' b hb
        have R13:=H12.out.1.touch T13 (fun e=>by have:=H6.out.2.2.1;omega)
        have H13:=Lib.hid (And.intro R13 (And.intro b13 (And.intro hv13 (And.intro hv23 (H12.out.2.2.2.trans T13 fun b _ e=> .inr e)))))
        clear b13 T13 hBk hv2' hv13 hv23 R13 hv2 b12
        go_wp2_with (fail)
        go_meet
        exact ⟨rfl,Lib.hid ⟨j12,r3,r3,ex,a2,m2,e2,H13.out.1,H13.out.2.1,H13.out.2.2.1,H13.out.2.2.2.1,H13.out.2.2.2.2,HF.out,Nat.le_refl _,fun g out'=>rfl⟩⟩
     obtain ⟨W14,rfl⟩: ∃W,W=wc:=⟨_,rfl⟩
     obtain ⟨rfl,hcut⟩:=hcut
     obtain ⟨j11,r11,r5,ex,a2,m2,e2,R14,b14,hq1,hq2,T14,hru,hll,hpg⟩:=hcut.out
     have B14:=H5.out.2.touch H5.out.1 T14 (fun b e=>by rcases e with e|e;exact .inl e;exact .inr (by have:=HW6.out.2;omega))
     have hs14:=B14.2.2.size
     have hs2:=H2.out.2.2.2.1
     obtain ⟨r15,W15,c15,run15,hG15,T15⟩:=appRR B14.1 (by omega) (by omega) (kk:Int) a1 m1 e1 a2 m2 e2
     have hTr14:TriQ W14 (q+1) (xs++ [.int .i64 (kk:Int),.slice a1 m1 e1,.slice a2 m2 e2]) (out++ [⟨kk,sq,ex⟩]):=Tri.snoc B14.2.1 ⟨rfl,hq1,hq2⟩
     have hnk: ∀g cs,W14.heap[g]? =some (Obj.cells cs 3 (0,0))→¬(q+1≤g∧∃cs',W14.heap[g]? =some (Obj.cells cs' 79 (0,0))):=fun g cs h1 h2=>by
      obtain ⟨_,cs',h2⟩:=h2
      rw [h1] at h2
      cases h2
     have R15:=R14.touch T15 (fun hh=>by have:=hh.1;omega)
     have TT15:=B14.2.2.trans T15 fun b hb hh=>by have:=hh.1;omega
     have hrun:=HRUN.out.1
     rw [hru] at hrun
     have hl5:=HRUN.out.2.1 ⟨kk,sq,ex⟩ (by rw [hru])
     rw [hru] at hl5
     dsimp only at hrun hl5
     have hfin:parseG g' r11 (out++ [⟨kk,sq,ex⟩])=PS:=by rw [hpg];exact hrun
     have hlen:r11.length<g':=by have h1:=HRUN.out.2.2;have h2:=HK.out.2.2;omega
     have H15:=Lib.hid (And.intro R15 (And.intro (show Bun W2 W15 q (.slice r15 (k+1:Nat) c15) (k+1) (xs++ [.int .i64 (kk:Int),.slice a1 m1 e1,.slice a2 m2 e2]) (out++ [⟨kk,sq,ex⟩]) from ⟨hG15,hTr14.touch T15 hnk,TT15⟩) (And.intro hfin hlen)))
     have RUN:=Lib.hid run15
     have x0:W14.cell? ⟨B,0,none⟩=some (.int .i64 (kk:Int)):=by rw [cell_of_row W14 B 0 _ _ (0,0) b14];rfl
     have x1:W14.cell? ⟨B,1,none⟩=some (.slice a1 m1 e1):=by rw [cell_of_row W14 B 1 _ _ (0,0) b14];rfl
     have x2:W14.cell? ⟨B,2,none⟩=some (.slice a2 m2 e2):=by rw [cell_of_row W14 B 2 _ _ (0,0) b14];rfl
     clear R14 b14 hq1 hq2 T14 hru hll hpg B14 hs14 hs2 run15 hG15 T15 hTr14 hnk R15 TT15 hrun hl5 hfin hlen hcut
     go_wp2_with (at_builtin;refine Ux.wpList_app (v1:= .slice a4 k c4) (x1:= .slice (some ⟨_,0,none⟩) 1 1) rfl _ _ _ _ rfl rfl rfl (RUN.out _) ?_)
     go_roundg g'
     case measure=>omega
     case rel=>exact ⟨j11,r11,k+1,r15,c15,_,_,rfl,by rw [List.length_append,HK.out.1];rfl,by omega,H15.out.2.2.2,Lib.hid ⟨H15.out.1,H15.out.2.1,H15.out.2.2.1⟩⟩
end Go.Proofs.YtikmdhhbamggfaaGreatDoor
